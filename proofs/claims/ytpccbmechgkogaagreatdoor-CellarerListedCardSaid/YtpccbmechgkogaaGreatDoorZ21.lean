/-
  Lemmas: TagNat, TagOnce, TagMore.
-/
import Derived.Test.YtpccbmechgkogaaGreatDoorProg
import Derived.WalkKit
import Derived.Tactics
import Derived.Tactics2
import Derived.Defers
import Derived.Laws.Pointers
import Derived.Laws.LoneSync
import Derived.Laws.NewBlocks
import Derived.Laws.BitsLemmas
import Derived.RegionTactic
import Derived.RegionCalls
import Derived.ChangeAlike
import Derived.Below
import Derived.LoopTactic
import Derived.Deep.LoopGhost
import Derived.Deep.QuietTactic
import Derived.BigQuiet
import Derived.Outline
import Derived.KernelRfl
set_option linter.unusedVariables false
set_option linter.unusedSimpArgs false
namespace Go.Proofs.YtpccbmechgkogaaGreatDoor.TagNat
def pol : Nat := 2197175160
def s (c : Nat) : Nat := if c % 2 = 1 then c / 2 ^^^ pol else c / 2
def sN : Nat → Nat → Nat
 | 0, c => c
 | k + 1, c => sN k (s c)
theorem xor_half (a b : Nat) : (a ^^^ b) / 2 = a / 2 ^^^ b / 2 := by
 have := Nat.shiftRight_xor_distrib (i := 1) (a := a) (b := b)
 simpa [Nat.shiftRight_succ, Nat.shiftRight_zero] using this
theorem xor_odd (a b : Nat) : (a ^^^ b) % 2 = (a + b) % 2 := by
 have h := Nat.testBit_xor a b 0
 simp only [Nat.testBit_zero] at h
 have h1 : a % 2 = 0 ∨ a % 2 = 1 := by omega
 have h2 : b % 2 = 0 ∨ b % 2 = 1 := by omega
 have h3 : (a ^^^ b) % 2 = 0 ∨ (a ^^^ b) % 2 = 1 := by omega
 rcases h1 with h1 | h1 <;> rcases h2 with h2 | h2 <;> rcases h3 with h3 | h3 <;> simp [h1, h2, h3] at h <;> omega
theorem xor4 (a b p : Nat) : (a ^^^ p) ^^^ (b ^^^ p) = a ^^^ b := by
 rw [Nat.xor_assoc, Nat.xor_comm b p, ← Nat.xor_assoc p p b, Nat.xor_self, Nat.zero_xor]
theorem s_xor (a b : Nat) : s (a ^^^ b) = s a ^^^ s b := by
 have ho := xor_odd a b
 have hh := xor_half a b
 unfold s
 rw [hh, ho]
 have h1 : a % 2 = 0 ∨ a % 2 = 1 := by omega
 have h2 : b % 2 = 0 ∨ b % 2 = 1 := by omega
 rcases h1 with h1 | h1 <;> rcases h2 with h2 | h2
 ·rw [if_neg (by omega), if_neg (by omega), if_neg (by omega)]
 ·rw [if_pos (by omega), if_neg (by omega), if_pos (by omega), Nat.xor_assoc]
 ·rw [if_pos (by omega), if_pos (by omega), if_neg (by omega), Nat.xor_assoc, Nat.xor_comm (b / 2) pol, ← Nat.xor_assoc]
 ·rw [if_neg (by omega), if_pos (by omega), if_pos (by omega), xor4]
theorem sN_xor (k : Nat) : ∀ a b, sN k (a ^^^ b) = sN k a ^^^ sN k b := by
 induction k with
 | zero => intro a b; rfl
 | succ k ih => intro a b; show sN k (s (a ^^^ b)) = _; rw [s_xor, ih]; rfl
theorem s_lt {c : Nat} (h : c < 2 ^ 32) : s c < 2 ^ 32 := by
 unfold s
 split
 ·exact Nat.xor_lt_two_pow (by omega) (by unfold pol; decide)
 ·omega
theorem sN_lt (k : Nat) : ∀ {c : Nat}, c < 2 ^ 32 → sN k c < 2 ^ 32 := by
 induction k with
 | zero => intro c h; exact h
 | succ k ih => intro c h; exact ih (s_lt h)
theorem s_even (y : Nat) : s (2 * y) = y := by
 unfold s
 rw [if_neg (by omega)]
 omega
theorem sN_last (k : Nat) : ∀ c, sN (k + 1) c = s (sN k c) := by
 induction k with
 | zero => intro c; rfl
 | succ k ih => intro c; show sN (k + 1) (s c) = _; rw [ih]; rfl
theorem s8_high (y : Nat) : sN 8 (256 * y) = y := by
 have e : 256 * y = 2 * (2 * (2 * (2 * (2 * (2 * (2 * (2 * y))))))) := by omega
 rw [e]
 show s (s (s (s (s (s (s (s _))))))) = y
 simp only [s_even]
theorem parts (c : Nat) : c = c % 256 ^^^ 256 * (c / 256) := by
 apply Nat.eq_of_testBit_eq
 intro i
 rw [Nat.testBit_xor, show (256 : Nat) = 2 ^ 8 from rfl, Nat.testBit_mod_two_pow, Nat.testBit_two_pow_mul, Nat.testBit_div_two_pow]
 by_cases h : i < 8
 ·simp [h, show ¬ (8 ≤ i) by omega]
 ·simp [h, show 8 ≤ i by omega, show i - 8 + 8 = i by omega]
theorem by_table (c x : Nat) : sN 8 (c % 256 ^^^ x) ^^^ c / 256 = sN 8 (c ^^^ x) := by
 have h := parts c
 have e : c ^^^ x = (c % 256 ^^^ x) ^^^ 256 * (c / 256) := by
  rw [Nat.xor_assoc, Nat.xor_comm x, ← Nat.xor_assoc, ← h]
 rw [e, sN_xor 8 (c % 256 ^^^ x) (256 * (c / 256)), s8_high]
def run (c : Nat) : List Nat → Nat
 | [] => c
 | x :: r => run (sN 8 (c ^^^ x)) r
theorem run_append (l m : List Nat) : ∀ c, run c (l ++ m) = run (run c l) m := by
 induction l with
 | nil => intro c; rfl
 | cons x r ih => intro c; exact ih _
theorem run_lt (l : List Nat) : ∀ {c}, c < 2 ^ 32 → (∀ x ∈ l, x < 256) → run c l < 2 ^ 32 := by
 induction l with
 | nil => intro c h _; exact h
 | cons x r ih =>
  intro c h hx
  have h1 : x < 256 := hx x (by simp)
  exact ih (sN_lt 8 (Nat.xor_lt_two_pow h (by omega))) (fun y hy => hx y (by simp [hy]))
def no (c : Nat) : Nat := 4294967295 - c
theorem no_xor {c : Nat} (h : c < 2 ^ 32) : no c = c ^^^ 4294967295 := by
 apply Nat.eq_of_testBit_eq
 intro i
 unfold no
 rw [show 4294967295 - c = 2 ^ 32 - (c + 1) by omega, Nat.testBit_two_pow_sub_succ h, Nat.testBit_xor, show (4294967295 : Nat) = 2 ^ 32 - 1 from rfl, Nat.testBit_two_pow_sub_one]
 by_cases hi : i < 32
 ·simp [hi]
 ·have h2 : c < 2 ^ i := Nat.lt_of_lt_of_le h (Nat.pow_le_pow_right (by decide) (by omega))
  simp [hi, Nat.testBit_lt_two_pow h2]
theorem no_lt (c : Nat) : no c < 2 ^ 32 := by unfold no; omega
def more (t : Nat) (l : List Nat) : Nat := no (run (no t) l)
end Go.Proofs.YtpccbmechgkogaaGreatDoor.TagNat
namespace Go.Proofs.YtpccbmechgkogaaGreatDoor.TagOnce
open Go.RowKit
theorem hid {p : Prop} (h : p) : Hid p := h
theorem disable (w : World) : (callFunc 214 #[]).run Tryz.prog w = .ok (.value (.tuple #[])) w := run_call_mark0 Tryz.func214 (by kernel_rfl) (by kernel_rfl) (by kernel_rfl) .disable (by kernel_rfl) w
theorem enable (w : World) : (callFunc 216 #[]).run Tryz.prog w = .ok (.value (.tuple #[])) w := run_call_mark0 Tryz.func216 (by kernel_rfl) (by kernel_rfl) (by kernel_rfl) .enable (by kernel_rfl) w
theorem acquire (a : Addr) (w : World) : (callFunc 217 #[.pointer (some a)]).run Tryz.prog w = .ok (.value (.tuple #[])) w := run_call_marked Tryz.func217 (by kernel_rfl) (by kernel_rfl) (by kernel_rfl) .acquire (by kernel_rfl) a w
theorem releaseMerge (a : Addr) (w : World) : (callFunc 219 #[.pointer (some a)]).run Tryz.prog w = .ok (.value (.tuple #[])) w := run_call_marked Tryz.func219 (by kernel_rfl) (by kernel_rfl) (by kernel_rfl) .releaseMerge (by kernel_rfl) a w
theorem store_deferred (a : Addr) (x : Value) (u : FrameMode) (w : World) (hc : w.cell? a = some x) (hz : w.frozen? a = false) :
  CallsD Tryz.prog 198 #[.pointer (some a), .bool true] u w fun e u' w' => u' = u ∧ (e = .returned (.tuple #[]) ∧ w' = w.drew.setCell a (.int .u32 1)) := by
 have hc' : w.drew.cell? a = some x := by go_simp
 have hz' : w.drew.frozen? a = false := by go_simp
 have hst := run_call_store (P := Tryz.prog) Tryz.func209 (by kernel_rfl) (by kernel_rfl) (by kernel_rfl) (by kernel_rfl) (k := .u32) (y := 1) hc' hz'
 go_enter_d Tryz.func198, Tryz.ntmps198
 go_wp2
 go_region_calls
 all_goals (go_end0; exact ⟨rfl, rfl⟩)
set_option maxRecDepth 100000 in
theorem unlock_deferred (a : Addr) (u : FrameMode) (w : World) (hc : w.cell? a = some (.int .i32 1)) (hz : w.frozen? a = false) :
  CallsD Tryz.prog 197 #[.pointer (some a)] u w fun e u' w' => u' = u ∧ (e = .returned (.tuple #[]) ∧ w' = w.setCell a (.int .i32 0)) := by
 have hd := disable
 have he := enable
 have hr := releaseMerge
 have hadd := run_call_add (P := Tryz.prog) Tryz.func220 (by kernel_rfl) (by kernel_rfl) (by kernel_rfl) .i32 (by kernel_rfl) (y := -1) (s := 0) hc hz (by simp [go_sem]; rfl)
 have hcv := run_convert_to_unsafe (P := Tryz.prog) (src := 275) (dst := 266) Tryz.underlying275 Tryz.underlying266 (by kernel_rfl) hc
 go_enter_d Tryz.func197, Tryz.ntmps197
 go_wp2
 go_end0
 go_wp2
 go_end0
 exact ⟨rfl, rfl⟩
set_option maxRecDepth 100000 in
theorem lock_free (a : Addr) (w : World) (hc : w.cell? a = some (.int .i32 0)) (hz : w.frozen? a = false) :
  Calls Tryz.prog 196 #[.pointer (some a)] w fun e w' => e = .returned (.tuple #[]) ∧ w' = w.setCell a (.int .i32 1) := by
 have hd := disable
 have he := enable
 have ha := acquire
 have hcas := run_call_cas_hit (P := Tryz.prog) Tryz.func215 (by kernel_rfl) (by kernel_rfl) (by kernel_rfl) .i32 (by kernel_rfl) (y := 1) hc hz
 have hc' : (w.setCell a (.int .i32 1)).cell? a = some (.int .i32 1) := World.cell?_setCell_same w a _ hc
 have hcv := run_convert_to_unsafe (P := Tryz.prog) (src := 275) (dst := 266) Tryz.underlying275 Tryz.underlying266 (by kernel_rfl) hc'
 go_enter Tryz.func196, Tryz.ntmps196
 go_wp2
 first | go_end0 | (simp only [Exit.inBlock, Exit.then]; refine bodyPost_ret (results_none rfl _ _ _) rfl ?_) | refine bodyPost_ret (results_none rfl _ _ _) rfl ?_
 go_wp2
 go_end0
 exact ⟨rfl, rfl⟩
def sh (c : Int) : Int := Go.bits .xor .u32 (c / 2) ((2197175160 * Go.bits .and .u32 c 1) % 4294967296)
def it : Nat → Int → Int
 | 0, c => c
 | k + 1, c => sh (it k c)
def tabv (i : Nat) : Int := it 8 (i : Int)
theorem bits_range (o : BinOp) (x y : Int) : 0 ≤ Go.bits o .u32 x y ∧ Go.bits o .u32 x y < 4294967296 := by
 unfold Go.bits
 rw [IntKind.wrap_u32]
 omega
theorem it_range (i : Nat) (hi : i < 256) : ∀ k, 0 ≤ it k (i : Int) ∧ it k (i : Int) < 4294967296
 | 0 => by unfold it; omega
 | k + 1 => by
  rw [it]
  unfold sh
  exact bits_range _ _ _
structure Filled (b : Nat) (w w' : World) : Prop where
 below : Below b w w'
 size : w'.heap.size = w.heap.size
 far : ∀ a : Addr, a.block ≠ b → w'.cell? a = w.cell? a
 low : ∀ j, j < 3 → w'.cell? ⟨b, j, none⟩ = w.cell? ⟨b, j, none⟩
 free : ∀ a : Addr, w'.frozen? a = w.frozen? a
 tab : ∀ i, i < 256 → w'.cell? ⟨b, 3 + i, none⟩ = some (.int .u32 (tabv i))
structure Filling (b : Nat) (k : Nat) (w w' : World) : Prop where
 below : Below b w w'
 size : w'.heap.size = w.heap.size
 far : ∀ a : Addr, a.block ≠ b → w'.cell? a = w.cell? a
 low : ∀ j, j < 3 → w'.cell? ⟨b, j, none⟩ = w.cell? ⟨b, j, none⟩
 free : ∀ a : Addr, w'.frozen? a = w.frozen? a
 tab : ∀ i, i < k → w'.cell? ⟨b, 3 + i, none⟩ = some (.int .u32 (tabv i))
 rest : ∀ i, i < 256 → ∃ v, w'.cell? ⟨b, 3 + i, none⟩ = some v
theorem Filling.start {b : Nat} {w : World} (h : ∀ i, i < 256 → ∃ v, w.cell? ⟨b, 3 + i, none⟩ = some v) : Filling b 0 w w :=
 ⟨Below.refl _ _, rfl, fun _ _ => rfl, fun _ _ => rfl, fun _ => rfl, fun i hi => by omega, h⟩
theorem Filling.step {b k : Nat} {w w' : World} (h : Filling b k w w') (hk : k < 256) : Filling b (k + 1) w (w'.setCell ⟨b, 3 + k, none⟩ (.int .u32 (tabv k))) where
 below := h.below.setCell (Nat.le_refl _) _
 size := by rw [World.size_setCell]; exact h.size
 far := fun a ha => by
  rw [World.cell?_setCell_other _ _ _ _ (fun e => ha (by rw [← e]))]
  exact h.far a ha
 low := fun j hj => by
  rw [World.cell?_setCell_other _ _ _ _ (fun e => by have := congrArg Addr.off e; simp at this; omega)]
  exact h.low j hj
 free := fun a => by rw [World.frozen?_setCell]; exact h.free a
 tab := fun i hi => by
  by_cases e : i = k
  ·subst e
   obtain ⟨v, hv⟩ := h.rest i hk
   exact World.cell?_setCell_same _ _ _ hv
  ·rw [World.cell?_setCell_other _ _ _ _ (fun e' => by have := congrArg Addr.off e'; simp at this; omega)]
   exact h.tab i (by omega)
 rest := fun i hi => by
  by_cases e : i = k
  ·subst e
   obtain ⟨v, hv⟩ := h.rest i hi
   exact ⟨_, World.cell?_setCell_same _ _ _ hv⟩
  ·obtain ⟨v, hv⟩ := h.rest i hi
   exact ⟨v, by rw [World.cell?_setCell_other _ _ _ _ (fun e' => by have := congrArg Addr.off e'; simp at this; omega)]; exact hv⟩
theorem Filling.done {b : Nat} {w w' : World} (h : Filling b 256 w w') : Filled b w w' := ⟨h.below, h.size, h.far, h.low, h.free, h.tab⟩
set_option maxRecDepth 100000 in
set_option maxHeartbeats 1000000 in
theorem fill_any (b : Nat) (pl : Addr) (hpb : pl.block ≠ b) (w : World) (hp : w.cell? pl = some (.pointer (some ⟨b, 0, none⟩)))
  (hr : ∀ i, i < 256 → ∃ v, w.cell? ⟨b, 3 + i, none⟩ = some v) (hf : ∀ i, i < 256 → w.frozen? ⟨b, 3 + i, none⟩ = false) :
  Calls Tryz.prog 135 #[.pointer (some pl)] w fun e w' => e = .returned (.tuple #[]) ∧ Filled b w w' := by
 have HS := Filling.start hr
 have HS' := hid HS
 have HF := hid hf
 have HP := hid hp
 clear hr hf HS hp
 go_enter Tryz.func135, Tryz.ntmps135
 go_wp2
 go_loopw [3] (fun i wr => ∃ k : Nat, k ≤ 256 ∧ i = .int .i64 k ∧ Filling b k w wr) (fun i _ => 256 - (intOf i).toNat)
 case atStart => exact ⟨0, by omega, rfl, HS'.out⟩
 case round =>
  obtain ⟨k, hk, rfl, hF⟩ := hrel
  by_cases hlt : k < 256
  ·have hr0 := it_range k hlt
   have HH := hid hF
   have hpc : wr.cell? pl = some (.pointer (some ⟨b, 0, none⟩)) := (hF.far pl hpb).trans HP.out
   have hfz : wr.frozen? ⟨b, 3 + k, none⟩ = false := (hF.free _).trans (HF.out k hlt)
   obtain ⟨vv, hcc⟩ := hF.rest k hlt
   clear hF
   go_wp2
   go_loop [2, 8] (fun c j => ∃ q : Nat, q ≤ 8 ∧ j = .int .i64 q ∧ c = .int .u32 (it q (k : Int))) (fun _ j => 8 - (intOf j).toNat)
   case atStart => exact ⟨0, by omega, rfl, rfl⟩
   case round =>
    obtain ⟨q, hq, rfl, rfl⟩ := hrel
    have hb0 := (it_range k hlt q).1
    have hb1 := (it_range k hlt q).2
    by_cases hl : q < 8
    ·go_wp2
     go_round
     case rel => exact ⟨q + 1, by omega, by go_num, congrArg (Value.int .u32) (by rw [it, sh])⟩
     case measure => simp [intOf]; omega
    ·obtain rfl : q = 8 := by omega
     clear hb0 hb1
     go_wp2
     exact ⟨⟨k + 1, by omega, by go_num, HH.out.step hlt⟩, by simp [intOf]; omega⟩
  ·obtain rfl : k = 256 := by omega
   have HH := hid hF
   clear hF
   go_wp2
   go_end0
   exact ⟨rfl, HH.out.done⟩
def Slow (b : Nat) (w : World) (e : Ending) (w' : World) : Prop := e = .returned (.tuple #[]) ∧ ∃ w2, Filled b (w.setCell ⟨b, 1, none⟩ (.int .i32 1)) w2 ∧ w' = (w2.drew.setCell ⟨b, 0, none⟩ (.int .u32 1)).setCell ⟨b, 1, none⟩ (.int .i32 0)
set_option maxRecDepth 100000 in
set_option maxHeartbeats 1600000 in
theorem slow_any (b : Nat) (pl : Addr) (hpb : pl.block ≠ b) (w : World) (hp : w.cell? pl = some (.pointer (some ⟨b, 0, none⟩)))
  (h0 : w.cell? ⟨b, 0, none⟩ = some (.int .u32 0)) (h1 : w.cell? ⟨b, 1, none⟩ = some (.int .i32 0))
  (f0 : w.frozen? ⟨b, 0, none⟩ = false) (f1 : w.frozen? ⟨b, 1, none⟩ = false)
  (hr : ∀ i, i < 256 → ∃ v, w.cell? ⟨b, 3 + i, none⟩ = some v) (hf : ∀ i, i < 256 → w.frozen? ⟨b, 3 + i, none⟩ = false) :
  Calls Tryz.prog 173 #[.pointer (some ⟨b, 0, none⟩), .func (.func 135) #[] #[.pointer (some pl)]] w (Slow b w) := by
 have hl := run_call_load (P := Tryz.prog) Tryz.func195 (by kernel_rfl) (by kernel_rfl) (by kernel_rfl) .u32 (by kernel_rfl) (w := w.setCell ⟨b, 1, none⟩ (.int .i32 1)) (a := ⟨b, 0, none⟩) (x := 0) ((World.cell?_setCell_other _ ⟨b, 1, none⟩ ⟨b, 0, none⟩ _ (by simp)).trans h0)
 have hp1 : (w.setCell ⟨b, 1, none⟩ (.int .i32 1)).cell? pl = some (.pointer (some ⟨b, 0, none⟩)) := (World.cell?_setCell_other _ ⟨b, 1, none⟩ pl _ (fun h => hpb (by rw [← h]))).trans hp
 have hr1 : ∀ i, i < 256 → ∃ v, (w.setCell ⟨b, 1, none⟩ (.int .i32 1)).cell? ⟨b, 3 + i, none⟩ = some v := fun i hi => by
  obtain ⟨v, hv⟩ := hr i hi
  exact ⟨v, (World.cell?_setCell_other _ ⟨b, 1, none⟩ ⟨b, 3 + i, none⟩ _ (fun h => by have := congrArg Addr.off h; simp at this; omega)).trans hv⟩
 have hf1 : ∀ i, i < 256 → (w.setCell ⟨b, 1, none⟩ (.int .i32 1)).frozen? ⟨b, 3 + i, none⟩ = false := fun i hi => by rw [World.frozen?_setCell]; exact hf i hi
 have hnot : ∀ (x : Bool) (w : World), (Op.unary .not (.bool x)).run Tryz.prog w = .ok (.bool (!x)) w := fun _ _ => rfl
 have C := fill_any b pl hpb (w.setCell ⟨b, 1, none⟩ (.int .i32 1)) hp1 hr1 hf1
 have HR := hid hr
 have HF := hid hf
 clear hr hf hr1 hf1
 go_enter_defers Tryz.func173, Tryz.ntmps173
 go_wp2_with (go_at_call 196; refine (lock_free ⟨b, 1, none⟩ _ (by go_simp) (by go_simp)).mono ?_; rintro e w' ⟨rfl, rfl⟩)
 go_wp2_with (go_at_call 172; go_in)
 refine C.mono ?_
 rintro e w2 ⟨rfl, hF⟩
 have HH := hid hF
 clear hF C
 go_wp2
 refine leaves_cons (f := 198) (args := #[.pointer (some ⟨b, 0, none⟩), .bool true]) (by simp) (by simp [go_sem]) ?_
 have hc0 : w2.cell? ⟨b, 0, none⟩ = some (.int .u32 0) := (HH.out.low 0 (by omega)).trans ((World.cell?_setCell_other _ ⟨b, 1, none⟩ ⟨b, 0, none⟩ _ (by simp)).trans h0)
 have hz0 : w2.frozen? ⟨b, 0, none⟩ = false := by rw [HH.out.free, World.frozen?_setCell]; exact f0
 have hc1 : w2.cell? ⟨b, 1, none⟩ = some (.int .i32 1) := (HH.out.low 1 (by omega)).trans (World.cell?_setCell_same w _ _ h1)
 have hz1 : w2.frozen? ⟨b, 1, none⟩ = false := by rw [HH.out.free, World.frozen?_setCell]; exact f1
 refine (store_deferred ⟨b, 0, none⟩ (.int .u32 0) .returning w2 hc0 hz0).mono ?_
 rintro e u' w'' ⟨rfl, rfl, rfl⟩
 refine leaves_cons (f := 197) (args := #[.pointer (some ⟨b, 1, none⟩)]) (by simp [settle]) (by simp [go_sem]) ?_
 refine (unlock_deferred ⟨b, 1, none⟩ _ _ ?_ (by simp [hz1])).mono ?_
 ·refine (World.cell?_setCell_other _ ⟨b, 0, none⟩ ⟨b, 1, none⟩ _ (by simp)).trans ?_
  rw [World.cell?_drew]
  exact hc1
 rintro e u' w'' ⟨rfl, rfl, rfl⟩
 have fin : Slow b w (.returned (.tuple #[])) ((w2.drew.setCell ⟨b, 0, none⟩ (.int .u32 1)).setCell ⟨b, 1, none⟩ (.int .i32 0)) := ⟨rfl, w2, HH.out, rfl⟩
 have FIN := hid fin
 clear fin
 simp [Leaves, settle, results, Tryz.results173]
 exact FIN.out
structure Made (b : Nat) (w w' : World) : Prop where
 below : Below b w w'
 size : w'.heap.size = w.heap.size
 far : ∀ a : Addr, a.block ≠ b → w'.cell? a = w.cell? a
 tab : ∀ i, i < 256 → w'.cell? ⟨b, 3 + i, none⟩ = some (.int .u32 (tabv i))
theorem Slow.made {b : Nat} {w w' : World} {e : Ending} (h : Slow b w e w') : e = .returned (.tuple #[]) ∧ Made b w w' := by
 obtain ⟨he, w2, hF, rfl⟩ := h
 refine ⟨he, ⟨?_, ?_, ?_, ?_⟩⟩
 ·have h1 : Below b w w2 := Below.trans (Below.setCell (Below.refl b w) (p := ⟨b, 1, none⟩) (Nat.le_refl b) _) hF.below
  exact Below.setCell (Below.setCell h1.drew (p := ⟨b, 0, none⟩) (Nat.le_refl b) _) (p := ⟨b, 1, none⟩) (Nat.le_refl b) _
 ·simp [World.size_setCell, hF.size]
 ·intro a ha
  have n : ∀ j, (⟨b, j, none⟩ : Addr) ≠ a := fun j e => ha (by rw [← e])
  rw [World.cell?_setCell_other _ _ _ _ (n _), World.cell?_setCell_other _ _ _ _ (n _), World.cell?_drew, hF.far a ha, World.cell?_setCell_other _ _ _ _ (n _)]
 ·intro i hi
  have n : ∀ j, j < 3 → (⟨b, j, none⟩ : Addr) ≠ ⟨b, 3 + i, none⟩ := fun j hj e => by
   have := congrArg Addr.off e
   simp at this
   omega
  rw [World.cell?_setCell_other _ _ _ _ (n _ (by omega)), World.cell?_setCell_other _ _ _ _ (n _ (by omega)), World.cell?_drew]
  exact hF.tab i hi
set_option maxRecDepth 100000 in
set_option maxHeartbeats 1600000 in
theorem do_first (b : Nat) (pl : Addr) (hpb : pl.block ≠ b) (w : World) (hp : w.cell? pl = some (.pointer (some ⟨b, 0, none⟩)))
  (h0 : w.cell? ⟨b, 0, none⟩ = some (.int .u32 0)) (h1 : w.cell? ⟨b, 1, none⟩ = some (.int .i32 0))
  (f0 : w.frozen? ⟨b, 0, none⟩ = false) (f1 : w.frozen? ⟨b, 1, none⟩ = false)
  (hr : ∀ i, i < 256 → ∃ v, w.cell? ⟨b, 3 + i, none⟩ = some v) (hf : ∀ i, i < 256 → w.frozen? ⟨b, 3 + i, none⟩ = false) :
  Calls Tryz.prog 134 #[.pointer (some ⟨b, 0, none⟩), .func (.func 135) #[] #[.pointer (some pl)]] w fun e w' => e = .returned (.tuple #[]) ∧ Made b w w' := by
 have hl := run_call_load (P := Tryz.prog) Tryz.func195 (by kernel_rfl) (by kernel_rfl) (by kernel_rfl) .u32 (by kernel_rfl) h0
 have hnot : ∀ (x : Bool) (w : World), (Op.unary .not (.bool x)).run Tryz.prog w = .ok (.bool (!x)) w := fun _ _ => rfl
 have C := (slow_any b pl hpb w hp h0 h1 f0 f1 hr hf).mono (fun e w' h => h.made)
 clear hr hf
 go_enter Tryz.func134, Tryz.ntmps134
 go_wp2_with (go_at_call 172; go_in)
 refine C.mono ?_
 rintro e w2 ⟨rfl, hM⟩
 have HM := hid hM
 clear hM C
 go_wp2
 go_end0
 exact ⟨rfl, HM.out⟩
structure Tabled (b : Nat) (w w' : World) : Prop where
 below : Below b w w'
 tab : ∀ i, i < 256 → w'.cell? ⟨b, 3 + i, none⟩ = some (.int .u32 (tabv i))
set_option maxRecDepth 100000 in
set_option maxHeartbeats 1600000 in
theorem made_any (b : Nat) (w : World) (hb : b < w.heap.size)
  (h0 : w.cell? ⟨b, 0, none⟩ = some (.int .u32 0)) (h1 : w.cell? ⟨b, 1, none⟩ = some (.int .i32 0))
  (f0 : w.frozen? ⟨b, 0, none⟩ = false) (f1 : w.frozen? ⟨b, 1, none⟩ = false)
  (hr : ∀ i, i < 256 → ∃ v, w.cell? ⟨b, 3 + i, none⟩ = some v) (hf : ∀ i, i < 256 → w.frozen? ⟨b, 3 + i, none⟩ = false) :
  Calls Tryz.prog 88 #[.pointer (some ⟨b, 0, none⟩)] w fun e w' => e = .returned (.pointer (some ⟨b, 3, none⟩)) ∧ Tabled b w w' := by
 have hmf : ∀ (fn : Fn) (first cap : Array Value) (w : World), (Instr.makeFunc fn first cap).run Tryz.prog w = .ok (.func fn first cap) w := fun _ _ _ _ => rfl
 have C := do_first b ⟨w.heap.size, 0, none⟩ (by simp; omega) (w.alloc (.cells #[.pointer (some ⟨b, 0, none⟩)] 205)) (by simp)
  (by rw [World.cell?_alloc_past _ _ _ hb]; exact h0) (by rw [World.cell?_alloc_past _ _ _ hb]; exact h1) (by rw [World.frozen?_alloc_past _ _ _ hb]; exact f0) (by rw [World.frozen?_alloc_past _ _ _ hb]; exact f1)
  (fun i hi => by rw [World.cell?_alloc_past _ _ _ hb]; exact hr i hi) (fun i hi => by rw [World.frozen?_alloc_past _ _ _ hb]; exact hf i hi)
 clear hr hf
 have hbw := hid hb
 go_enter Tryz.func88, Tryz.ntmps88
 go_wp2_with fail
 refine C.mono ?_
 rintro e w2 ⟨rfl, hM⟩
 have hpl : w2.cell? ⟨w.heap.size, 0, none⟩ = some (.pointer (some ⟨b, 0, none⟩)) := (hM.far _ (by simp; omega)).trans (by simp)
 have HM := hid hM
 clear hM C
 go_wp2
 go_ret
 exact ⟨rfl, ⟨((Below.refl _ _).alloc (by omega) _).trans HM.out.below, HM.out.tab⟩⟩
end Go.Proofs.YtpccbmechgkogaaGreatDoor.TagOnce
namespace Go.Proofs.YtpccbmechgkogaaGreatDoor.TagMore
open Go.RowKit Go.Proofs.YtpccbmechgkogaaGreatDoor.TagOnce
def tz : Array Value := #[.int .u32 0, .int .i32 0, .int .u32 0] ++ Array.replicate 256 (.int .u32 0)
theorem zero_table (W : World) : (zeroValue 158).run Tryz.prog W = .ok (.agg tz) W := by kernel_rfl
theorem tz_low (j : Nat) : tz[j]? = if j < 3 then some (if j = 1 then .int .i32 0 else .int .u32 0) else if j < 259 then some (.int .u32 0) else none := by
 unfold tz
 rw [Array.getElem?_append]
 split
 ·rename_i h
  simp at h
  rw [if_pos h]
  have : j = 0 ∨ j = 1 ∨ j = 2 := by omega
  rcases this with rfl | rfl | rfl <;> rfl
 ·rename_i h
  simp at h
  rw [if_neg (by omega)]
  by_cases h2 : j < 259
  ·simp [h2, Array.getElem?_replicate]; omega
  ·simp [h2, Array.getElem?_replicate]; omega
theorem tz_cell (w : World) (j : Nat) : (w.alloc (.cells tz 158)).cell? ⟨w.heap.size, j, none⟩ = tz[j]? := World.cell?_alloc_at tz _ w.heap.size j rfl
theorem tz_free (w : World) (j : Nat) : (w.alloc (.cells tz 158)).frozen? ⟨w.heap.size, j, none⟩ = false := World.frozen?_alloc_at tz _ w.heap.size j rfl
theorem made_fresh (w : World) : Calls Tryz.prog 88 #[.pointer (some ⟨w.heap.size, 0, none⟩)] (w.alloc (.cells tz 158)) fun e w' =>
  e = .returned (.pointer (some ⟨w.heap.size, 3, none⟩)) ∧ Tabled w.heap.size (w.alloc (.cells tz 158)) w' :=
 made_any w.heap.size _ (by simp) (by rw [tz_cell, tz_low]; rfl) (by rw [tz_cell, tz_low]; rfl) (tz_free _ _) (tz_free _ _)
  (fun i hi => ⟨.int .u32 0, by rw [tz_cell, tz_low, if_neg (by omega), if_pos (by omega)]⟩) (fun i hi => tz_free _ _)
def reg (t : Int) (s : ByteArray) (k : Nat) : Int := ((TagNat.run (TagNat.no t.toNat) ((s.data.toList.take k).map UInt8.toNat) : Nat) : Int)
theorem xor_u32 (a b : Nat) (ha : a < 2 ^ 32) (hb : b < 2 ^ 32) : Go.bits .xor .u32 (a : Int) (b : Int) = ((a ^^^ b : Nat) : Int) := by
 have h := Nat.xor_lt_two_pow ha hb
 have ha' : a % 2 ^ IntKind.u32.bits = a := Nat.mod_eq_of_lt ha
 have hb' : b % 2 ^ IntKind.u32.bits = b := Nat.mod_eq_of_lt hb
 simp only [Go.bits, BitVec.ofInt_natCast, BitVec.toNat_xor, BitVec.toNat_ofNat, ha', hb', IntKind.wrap_u32]
 omega
theorem xor_u8 (a b : Nat) (ha : a < 2 ^ 8) (hb : b < 2 ^ 8) : Go.bits .xor .u8 (a : Int) (b : Int) = ((a ^^^ b : Nat) : Int) := by
 have h := Nat.xor_lt_two_pow ha hb
 have ha' : a % 2 ^ IntKind.u8.bits = a := Nat.mod_eq_of_lt ha
 have hb' : b % 2 ^ IntKind.u8.bits = b := Nat.mod_eq_of_lt hb
 simp only [Go.bits, BitVec.ofInt_natCast, BitVec.toNat_xor, BitVec.toNat_ofNat, ha', hb', IntKind.wrap_u8]
 omega
theorem and1_u32 (a : Nat) (ha : a < 2 ^ 32) : Go.bits .and .u32 (a : Int) 1 = ((a % 2 : Nat) : Int) := by
 have ha' : a % 2 ^ IntKind.u32.bits = a := Nat.mod_eq_of_lt ha
 have h1' : 1 % 2 ^ IntKind.u32.bits = 1 := rfl
 have h : a &&& 1 = a % 2 := by rw [Nat.and_one_is_mod]
 rw [show (1 : Int) = ((1 : Nat) : Int) from rfl]
 simp only [Go.bits, BitVec.ofInt_natCast, BitVec.toNat_and, BitVec.toNat_ofNat, ha', h1', h, IntKind.wrap_u32]
 omega
theorem sh_nat (c : Nat) (hc : c < 2 ^ 32) : sh (c : Int) = ((TagNat.s c : Nat) : Int) := by
 unfold sh
 rw [and1_u32 c hc, show (c : Int) / 2 = ((c / 2 : Nat) : Int) by omega]
 unfold TagNat.s TagNat.pol
 have h2 : c % 2 = 0 ∨ c % 2 = 1 := by omega
 rcases h2 with h2 | h2
 ·rw [h2, if_neg (by omega)]
  rw [show (2197175160 * ((0 : Nat) : Int)) % 4294967296 = ((0 : Nat) : Int) by omega, xor_u32 _ _ (by omega) (by omega), Nat.xor_zero]
 ·rw [h2, if_pos rfl]
  rw [show (2197175160 * ((1 : Nat) : Int)) % 4294967296 = ((2197175160 : Nat) : Int) by omega, xor_u32 _ _ (by omega) (by omega)]
theorem it_nat (c : Nat) (hc : c < 2 ^ 32) : ∀ k, it k (c : Int) = ((TagNat.sN k c : Nat) : Int)
 | 0 => rfl
 | k + 1 => by
  rw [it, it_nat c hc k, sh_nat _ (TagNat.sN_lt k hc), TagNat.sN_last]
theorem tabv_nat (i : Nat) (hi : i < 256) : tabv i = ((TagNat.sN 8 i : Nat) : Int) := it_nat i (by omega) 8
theorem no_u32 (t : Int) (h0 : 0 ≤ t) (h1 : t < 4294967296) : Go.bits .xor .u32 IntKind.u32.max t = ((TagNat.no t.toNat : Nat) : Int) := by
 obtain ⟨n, rfl⟩ := Int.eq_ofNat_of_zero_le h0
 have hn : n < 2 ^ 32 := by omega
 rw [show IntKind.u32.max = ((4294967295 : Nat) : Int) from rfl, xor_u32 _ _ (by omega) hn, Int.toNat_natCast, TagNat.no_xor hn, Nat.xor_comm]
theorem xor_range (x y : Int) : 0 ≤ Go.bits .xor .u8 x y ∧ Go.bits .xor .u8 x y < 256 := by
 unfold Go.bits
 rw [IntKind.wrap_u8]
 omega
theorem bytes_lt (s : ByteArray) (k : Nat) : ∀ x ∈ (s.data.toList.take k).map UInt8.toNat, x < 256 := fun x hx => by
 obtain ⟨c, _, rfl⟩ := List.mem_map.1 hx
 exact c.toNat_lt
theorem reg_range (t : Int) (s : ByteArray) (k : Nat) : 0 ≤ reg t s k ∧ reg t s k < 4294967296 := by
 have := TagNat.run_lt ((s.data.toList.take k).map UInt8.toNat) (TagNat.no_lt t.toNat) (bytes_lt s k)
 unfold reg
 omega
theorem take_succ (s : ByteArray) (k : Nat) (h : k < s.size) : (s.data.toList.take (k + 1)).map UInt8.toNat = (s.data.toList.take k).map UInt8.toNat ++ [s[k].toNat] := by
 rw [List.take_succ_eq_append_getElem (by simpa using h), List.map_append]; rfl
theorem reg_step (t : Int) (s : ByteArray) (k : Nat) (h : k < s.size) :
  Go.bits .xor .u32 (tabv (Go.bits .xor .u8 (reg t s k % 256) (s[k].toNat : Int)).toNat) (reg t s k / 256) = reg t s (k + 1) := by
 have hb : s[k].toNat < 256 := s[k].toNat_lt
 have hR := TagNat.run_lt ((s.data.toList.take k).map UInt8.toNat) (TagNat.no_lt t.toNat) (bytes_lt s k)
 unfold reg
 rw [take_succ s k h, TagNat.run_append]
 generalize TagNat.run (TagNat.no t.toNat) ((s.data.toList.take k).map UInt8.toNat) = R at *
 rw [show ((R : Int) % 256) = ((R % 256 : Nat) : Int) by omega, show ((R : Int) / 256) = ((R / 256 : Nat) : Int) by omega, xor_u8 _ _ (by omega) hb, Int.toNat_natCast]
 have hx : R % 256 ^^^ s[k].toNat < 256 := Nat.xor_lt_two_pow (n := 8) (by omega) (by omega)
 rw [tabv_nat _ hx, xor_u32 _ _ (TagNat.sN_lt 8 (by omega)) (by omega), TagNat.by_table]
 rfl
theorem reg_done (t : Int) (s : ByteArray) : Go.bits .xor .u32 IntKind.u32.max (reg t s s.size) = ((TagNat.more t.toNat (s.data.toList.map UInt8.toNat) : Nat) : Int) := by
 rw [no_u32 _ (reg_range t s _).1 (reg_range t s _).2]
 unfold reg TagNat.more
 rw [Int.toNat_natCast, List.take_of_length_le (by simp)]
theorem _root_.Go.Proofs.YtpccbmechgkogaaGreatDoor.TagOnce.Tabled.drewN {b : Nat} {w w' : World} (h : Tabled b w w') (n : Nat) : Tabled b w (w'.drewN n) := ⟨⟨h.below.os, h.below.tape, h.below.output, h.below.size, h.below.block⟩, h.tab⟩
set_option maxRecDepth 100000 in
set_option maxHeartbeats 1600000 in
theorem more_any (t : Int) (s : ByteArray) (w : World) (h0 : 0 ≤ t) (h1 : t < 4294967296) (hs : s.size ≤ 9223372036854775807) :
  Calls Tryz.prog 43 #[.int .u32 t, .string s] w fun e w' => e = .returned (.int .u32 ((TagNat.more t.toNat (s.data.toList.map UInt8.toNat) : Nat) : Int)) ∧ Below w.heap.size w w' := by
 have hz := zero_table
 have C := made_fresh w
 go_enter Tryz.func43, Tryz.ntmps43
 go_wp2_with fail
 refine C.mono ?_
 rintro e w1 ⟨rfl, hT⟩
 have HT := hid hT
 clear hT C
 go_wp2
 go_loopw [7, 14] (fun c i wr => ∃ k : Nat, k ≤ s.size ∧ i = .int .i64 k ∧ c = .int .u32 (reg t s k) ∧ Tabled w.heap.size (w.alloc (.cells tz 158)) wr) (fun _ i _ => s.size - (intOf i).toNat)
 case atStart => exact ⟨0, by omega, rfl, congrArg (Value.int .u32) (no_u32 t h0 h1), HT.out⟩
 case round =>
  obtain ⟨k, hk, rfl, rfl, hT⟩ := hrel
  have HH := hid hT
  clear hT
  have hr0 := (reg_range t s k).1
  have hr1 := (reg_range t s k).2
  by_cases hlt : k < s.size
  ·have hb1 : s[k].toNat < 256 := s[k].toNat_lt
   have hx0 : 0 ≤ Go.bits .xor .u8 (reg t s k % 256) (s[k].toNat : Int) := (xor_range _ _).1
   have hx1 : Go.bits .xor .u8 (reg t s k % 256) (s[k].toNat : Int) < 256 := (xor_range _ _).2
   have hcell : wr.cell? ⟨w.heap.size, 3 + (Go.bits .xor .u8 (reg t s k % 256) (s[k].toNat : Int)).toNat, none⟩ = some (.int .u32 (tabv (Go.bits .xor .u8 (reg t s k % 256) (s[k].toNat : Int)).toNat)) := HH.out.tab _ (by omega)
   go_wp2_with fail
   go_quiet (fail)
   clear hx0 hx1 hcell hb1
   go_wp2
   exact ⟨⟨k + 1, by omega, by go_num, congrArg (Value.int .u32) (reg_step t s k hlt), HH.out.drewN _⟩, by simp [intOf]; omega⟩
  ·obtain rfl : k = s.size := by omega
   go_wp2
   go_ret
   exact ⟨congrArg (fun z => Ending.returned (Value.int .u32 z)) (reg_done t s), ((Below.refl _ _).alloc (Nat.le_refl _) _).trans HH.out.below⟩
end Go.Proofs.YtpccbmechgkogaaGreatDoor.TagMore
