/-
  tag: WHAT sync.Once DOES FOR A TABLE THAT WAS JUST MADE: the slow road's parts, each a contract of its own; the closure that fills the table; 'made'.
-/
import Derived.Test.YtmlnkdknpogknaaDoorProg
import Derived.WalkKit
import Derived.Tactics
import Derived.Tactics2
import Derived.Defers
import Derived.Laws.Pointers
import Derived.Laws.LoneSync
import Derived.Laws.NewBlocks
import Derived.Laws.BitsLemmas
import Derived.RegionTactic
import Derived.RegionCalls
import Derived.ChangeAlike
import Derived.Below
import Derived.LoopTactic
import Derived.Deep.LoopGhost
import Derived.Deep.QuietTactic
import Derived.BigQuiet
import Derived.Outline
namespace Go.Proofs.YtmlnkdknpogknaaDoor.TagOnce
open Go.RowKit
theorem hid {p : Prop} (h : p) : Hid p := h

theorem disable (w : World) : (callFunc 72 #[]).run Tryd.prog w = .ok (.value (.tuple #[])) w := run_call_mark0 Tryd.func72 (by kernel_rfl) (by kernel_rfl) (by kernel_rfl) .disable (by kernel_rfl) w
theorem enable (w : World) : (callFunc 74 #[]).run Tryd.prog w = .ok (.value (.tuple #[])) w := run_call_mark0 Tryd.func74 (by kernel_rfl) (by kernel_rfl) (by kernel_rfl) .enable (by kernel_rfl) w
theorem acquire (a : Addr) (w : World) : (callFunc 75 #[.pointer (some a)]).run Tryd.prog w = .ok (.value (.tuple #[])) w := run_call_marked Tryd.func75 (by kernel_rfl) (by kernel_rfl) (by kernel_rfl) .acquire (by kernel_rfl) a w
theorem releaseMerge (a : Addr) (w : World) : (callFunc 77 #[.pointer (some a)]).run Tryd.prog w = .ok (.value (.tuple #[])) w := run_call_marked Tryd.func77 (by kernel_rfl) (by kernel_rfl) (by kernel_rfl) .releaseMerge (by kernel_rfl) a w

/-- '(*sync/atomic.Bool).Store(true)', entered as a deferred call: the cell holds 1. -/
theorem store_deferred (a : Addr) (x : Value) (u : FrameMode) (w : World) (hc : w.cell? a = some x) (hz : w.frozen? a = false) :
    CallsD Tryd.prog 65 #[.pointer (some a), .bool true] u w fun e u' w' => u' = u ∧ (e = .returned (.tuple #[]) ∧ w' = w.drew.setCell a (.int .u32 1)) := by
  have hc' : w.drew.cell? a = some x := by go_simp
  have hz' : w.drew.frozen? a = false := by go_simp
  have hst := run_call_store (P := Tryd.prog) Tryd.func70 (by kernel_rfl) (by kernel_rfl) (by kernel_rfl) (by kernel_rfl) (k := .u32) (y := 1) hc' hz'
  go_enter_d Tryd.func65, Tryd.ntmps65
  go_wp2
  go_region_calls
  all_goals (go_end0; exact ⟨rfl, rfl⟩)

set_option maxRecDepth 100000 in
/-- '(*sync.Mutex).Unlock', entered as a deferred call, the lock held and nobody waiting (state 1): state 0. -/
theorem unlock_deferred (a : Addr) (u : FrameMode) (w : World) (hc : w.cell? a = some (.int .i32 1)) (hz : w.frozen? a = false) :
    CallsD Tryd.prog 64 #[.pointer (some a)] u w fun e u' w' => u' = u ∧ (e = .returned (.tuple #[]) ∧ w' = w.setCell a (.int .i32 0)) := by
  have hd := disable
  have he := enable
  have hr := releaseMerge
  have hadd := run_call_add (P := Tryd.prog) Tryd.func78 (by kernel_rfl) (by kernel_rfl) (by kernel_rfl) .i32 (by kernel_rfl) (y := -1) (s := 0) hc hz (by simp [go_sem]; rfl)
  have hcv := run_convert_to_unsafe (P := Tryd.prog) (src := 119) (dst := 123) Tryd.underlying119 Tryd.underlying123 (by kernel_rfl) hc
  go_enter_d Tryd.func64, Tryd.ntmps64
  go_wp2
  go_end0
  go_wp2
  go_end0
  exact ⟨rfl, rfl⟩

set_option maxRecDepth 100000 in
/-- '(*sync.Mutex).Lock', the lock free (state 0): state 1. -/
theorem lock_free (a : Addr) (w : World) (hc : w.cell? a = some (.int .i32 0)) (hz : w.frozen? a = false) :
    Calls Tryd.prog 63 #[.pointer (some a)] w fun e w' => e = .returned (.tuple #[]) ∧ w' = w.setCell a (.int .i32 1) := by
  have hd := disable
  have he := enable
  have ha := acquire
  have hcas := run_call_cas_hit (P := Tryd.prog) Tryd.func73 (by kernel_rfl) (by kernel_rfl) (by kernel_rfl) .i32 (by kernel_rfl) (y := 1) hc hz
  have hc' : (w.setCell a (.int .i32 1)).cell? a = some (.int .i32 1) := World.cell?_setCell_same w a _ hc
  have hcv := run_convert_to_unsafe (P := Tryd.prog) (src := 119) (dst := 123) Tryd.underlying119 Tryd.underlying123 (by kernel_rfl) hc'
  go_enter Tryd.func63, Tryd.ntmps63
  go_wp2
  first | go_end0 | (simp only [Exit.inBlock, Exit.then]; refine bodyPost_ret (results_none rfl _ _ _) rfl ?_) | refine bodyPost_ret (results_none rfl _ _ _) rfl ?_
  go_wp2
  go_end0
  exact ⟨rfl, rfl⟩

/-! ### The table -/
/-- A register, one bit on. -/
def sh (c : Int) : Int := Go.bits .xor .u32 (c / 2) ((2197175160 * Go.bits .and .u32 c 1) % 4294967296)
/-- k bits on. -/
def it : Nat → Int → Int
  | 0, c => c
  | k + 1, c => sh (it k c)
/-- What the table holds for octet i. -/
def tabv (i : Nat) : Int := it 8 (i : Int)
theorem bits_range (o : BinOp) (x y : Int) : 0 ≤ Go.bits o .u32 x y ∧ Go.bits o .u32 x y < 4294967296 := by
  unfold Go.bits
  rw [IntKind.wrap_u32]
  omega
theorem it_range (i : Nat) (hi : i < 256) : ∀ k, 0 ≤ it k (i : Int) ∧ it k (i : Int) < 4294967296
  | 0 => by unfold it; omega
  | k + 1 => by
    rw [it]
    unfold sh
    exact bits_range _ _ _

/-- w' is w, but that the table in block b is filled. -/
structure Filled (b : Nat) (w w' : World) : Prop where
  below : Below b w w'
  size : w'.heap.size = w.heap.size
  far : ∀ a : Addr, a.block ≠ b → w'.cell? a = w.cell? a
  low : ∀ j, j < 3 → w'.cell? ⟨b, j, none⟩ = w.cell? ⟨b, j, none⟩
  free : ∀ a : Addr, w'.frozen? a = w.frozen? a
  tab : ∀ i, i < 256 → w'.cell? ⟨b, 3 + i, none⟩ = some (.int .u32 (tabv i))

/-- In the middle of it: k octets' numbers are laid. -/
structure Filling (b : Nat) (k : Nat) (w w' : World) : Prop where
  below : Below b w w'
  size : w'.heap.size = w.heap.size
  far : ∀ a : Addr, a.block ≠ b → w'.cell? a = w.cell? a
  low : ∀ j, j < 3 → w'.cell? ⟨b, j, none⟩ = w.cell? ⟨b, j, none⟩
  free : ∀ a : Addr, w'.frozen? a = w.frozen? a
  tab : ∀ i, i < k → w'.cell? ⟨b, 3 + i, none⟩ = some (.int .u32 (tabv i))
  rest : ∀ i, i < 256 → ∃ v, w'.cell? ⟨b, 3 + i, none⟩ = some v
theorem Filling.start {b : Nat} {w : World} (h : ∀ i, i < 256 → ∃ v, w.cell? ⟨b, 3 + i, none⟩ = some v) : Filling b 0 w w :=
  ⟨Below.refl _ _, rfl, fun _ _ => rfl, fun _ _ => rfl, fun _ => rfl, fun i hi => by omega, h⟩
theorem Filling.step {b k : Nat} {w w' : World} (h : Filling b k w w') (hk : k < 256) : Filling b (k + 1) w (w'.setCell ⟨b, 3 + k, none⟩ (.int .u32 (tabv k))) where
  below := h.below.setCell (Nat.le_refl _) _
  size := by rw [World.size_setCell]; exact h.size
  far := fun a ha => by
    rw [World.cell?_setCell_other _ _ _ _ (fun e => ha (by rw [← e]))]
    exact h.far a ha
  low := fun j hj => by
    rw [World.cell?_setCell_other _ _ _ _ (fun e => by have := congrArg Addr.off e; simp at this; omega)]
    exact h.low j hj
  free := fun a => by rw [World.frozen?_setCell]; exact h.free a
  tab := fun i hi => by
    by_cases e : i = k
    · subst e
      obtain ⟨v, hv⟩ := h.rest i hk
      exact World.cell?_setCell_same _ _ _ hv
    · rw [World.cell?_setCell_other _ _ _ _ (fun e' => by have := congrArg Addr.off e'; simp at this; omega)]
      exact h.tab i (by omega)
  rest := fun i hi => by
    by_cases e : i = k
    · subst e
      obtain ⟨v, hv⟩ := h.rest i hi
      exact ⟨_, World.cell?_setCell_same _ _ _ hv⟩
    · obtain ⟨v, hv⟩ := h.rest i hi
      exact ⟨v, by rw [World.cell?_setCell_other _ _ _ _ (fun e' => by have := congrArg Addr.off e'; simp at this; omega)]; exact hv⟩
theorem Filling.done {b : Nat} {w w' : World} (h : Filling b 256 w w') : Filled b w w' := ⟨h.below, h.size, h.far, h.low, h.free, h.tab⟩

set_option maxRecDepth 100000 in
set_option maxHeartbeats 1000000 in
/-- The closure: it fills the table. -/
theorem fill_any (b : Nat) (pl : Addr) (hpb : pl.block ≠ b) (w : World) (hp : w.cell? pl = some (.pointer (some ⟨b, 0, none⟩)))
    (hr : ∀ i, i < 256 → ∃ v, w.cell? ⟨b, 3 + i, none⟩ = some v) (hf : ∀ i, i < 256 → w.frozen? ⟨b, 3 + i, none⟩ = false) :
    Calls Tryd.prog 41 #[.pointer (some pl)] w fun e w' => e = .returned (.tuple #[]) ∧ Filled b w w' := by
  have HS := Filling.start hr
  have HS' := hid HS
  have HF := hid hf
  have HP := hid hp
  clear hr hf HS hp
  go_enter Tryd.func41, Tryd.ntmps41
  go_wp2
  go_loopw [3] (fun i wr => ∃ k : Nat, k ≤ 256 ∧ i = .int .i64 k ∧ Filling b k w wr) (fun i _ => 256 - (intOf i).toNat)
  case atStart => exact ⟨0, by omega, rfl, HS'.out⟩
  case round =>
    obtain ⟨k, hk, rfl, hF⟩ := hrel
    by_cases hlt : k < 256
    · have hr0 := it_range k hlt
      have HH := hid hF
      have hpc : wr.cell? pl = some (.pointer (some ⟨b, 0, none⟩)) := (hF.far pl hpb).trans HP.out
      have hfz : wr.frozen? ⟨b, 3 + k, none⟩ = false := (hF.free _).trans (HF.out k hlt)
      obtain ⟨vv, hcc⟩ := hF.rest k hlt
      clear hF
      go_wp2
      go_loop [2, 8] (fun c j => ∃ q : Nat, q ≤ 8 ∧ j = .int .i64 q ∧ c = .int .u32 (it q (k : Int))) (fun _ j => 8 - (intOf j).toNat)
      case atStart => exact ⟨0, by omega, rfl, rfl⟩
      case round =>
        obtain ⟨q, hq, rfl, rfl⟩ := hrel
        have hb0 := (it_range k hlt q).1
        have hb1 := (it_range k hlt q).2
        by_cases hl : q < 8
        · go_wp2
          go_round
          case rel => exact ⟨q + 1, by omega, by go_num, congrArg (Value.int .u32) (by rw [it, sh])⟩
          case measure => simp [intOf]; omega
        · obtain rfl : q = 8 := by omega
          clear hb0 hb1
          go_wp2
          exact ⟨⟨k + 1, by omega, by go_num, HH.out.step hlt⟩, by simp [intOf]; omega⟩
    · obtain rfl : k = 256 := by omega
      have HH := hid hF
      clear hF
      go_wp2
      go_end0
      exact ⟨rfl, HH.out.done⟩

/-- What the slow road leaves: the closure ran while the lock was held. -/
def Slow (b : Nat) (w : World) (e : Ending) (w' : World) : Prop := e = .returned (.tuple #[]) ∧ ∃ w2, Filled b (w.setCell ⟨b, 1, none⟩ (.int .i32 1)) w2 ∧ w' = (w2.drew.setCell ⟨b, 0, none⟩ (.int .u32 1)).setCell ⟨b, 1, none⟩ (.int .i32 0)

set_option maxRecDepth 100000 in
set_option maxHeartbeats 1600000 in
theorem slow_any (b : Nat) (pl : Addr) (hpb : pl.block ≠ b) (w : World) (hp : w.cell? pl = some (.pointer (some ⟨b, 0, none⟩)))
    (h0 : w.cell? ⟨b, 0, none⟩ = some (.int .u32 0)) (h1 : w.cell? ⟨b, 1, none⟩ = some (.int .i32 0))
    (f0 : w.frozen? ⟨b, 0, none⟩ = false) (f1 : w.frozen? ⟨b, 1, none⟩ = false)
    (hr : ∀ i, i < 256 → ∃ v, w.cell? ⟨b, 3 + i, none⟩ = some v) (hf : ∀ i, i < 256 → w.frozen? ⟨b, 3 + i, none⟩ = false) :
    Calls Tryd.prog 53 #[.pointer (some ⟨b, 0, none⟩), .func (.func 41) #[] #[.pointer (some pl)]] w (Slow b w) := by
  have hl := run_call_load (P := Tryd.prog) Tryd.func62 (by kernel_rfl) (by kernel_rfl) (by kernel_rfl) .u32 (by kernel_rfl) (w := w.setCell ⟨b, 1, none⟩ (.int .i32 1)) (a := ⟨b, 0, none⟩) (x := 0) ((World.cell?_setCell_other _ ⟨b, 1, none⟩ ⟨b, 0, none⟩ _ (by simp)).trans h0)
  have hp1 : (w.setCell ⟨b, 1, none⟩ (.int .i32 1)).cell? pl = some (.pointer (some ⟨b, 0, none⟩)) := (World.cell?_setCell_other _ ⟨b, 1, none⟩ pl _ (fun h => hpb (by rw [← h]))).trans hp
  have hr1 : ∀ i, i < 256 → ∃ v, (w.setCell ⟨b, 1, none⟩ (.int .i32 1)).cell? ⟨b, 3 + i, none⟩ = some v := fun i hi => by
    obtain ⟨v, hv⟩ := hr i hi
    exact ⟨v, (World.cell?_setCell_other _ ⟨b, 1, none⟩ ⟨b, 3 + i, none⟩ _ (fun h => by have := congrArg Addr.off h; simp at this; omega)).trans hv⟩
  have hf1 : ∀ i, i < 256 → (w.setCell ⟨b, 1, none⟩ (.int .i32 1)).frozen? ⟨b, 3 + i, none⟩ = false := fun i hi => by rw [World.frozen?_setCell]; exact hf i hi
  have hnot : ∀ (x : Bool) (w : World), (Op.unary .not (.bool x)).run Tryd.prog w = .ok (.bool (!x)) w := fun _ _ => rfl
  have C := fill_any b pl hpb (w.setCell ⟨b, 1, none⟩ (.int .i32 1)) hp1 hr1 hf1
  have HR := hid hr
  have HF := hid hf
  clear hr hf hr1 hf1
  go_enter_defers Tryd.func53, Tryd.ntmps53
  go_wp2_with (go_at_call 63; refine (lock_free ⟨b, 1, none⟩ _ (by go_simp) (by go_simp)).mono ?_; rintro e w' ⟨rfl, rfl⟩)
  go_wp2_with (go_at_call 52; go_in)
  refine C.mono ?_
  rintro e w2 ⟨rfl, hF⟩
  have HH := hid hF
  clear hF C
  go_wp2
  refine leaves_cons (f := 65) (args := #[.pointer (some ⟨b, 0, none⟩), .bool true]) (by simp) (by simp [go_sem]) ?_
  have hc0 : w2.cell? ⟨b, 0, none⟩ = some (.int .u32 0) := (HH.out.low 0 (by omega)).trans ((World.cell?_setCell_other _ ⟨b, 1, none⟩ ⟨b, 0, none⟩ _ (by simp)).trans h0)
  have hz0 : w2.frozen? ⟨b, 0, none⟩ = false := by rw [HH.out.free, World.frozen?_setCell]; exact f0
  have hc1 : w2.cell? ⟨b, 1, none⟩ = some (.int .i32 1) := (HH.out.low 1 (by omega)).trans (World.cell?_setCell_same w _ _ h1)
  have hz1 : w2.frozen? ⟨b, 1, none⟩ = false := by rw [HH.out.free, World.frozen?_setCell]; exact f1
  refine (store_deferred ⟨b, 0, none⟩ (.int .u32 0) .returning w2 hc0 hz0).mono ?_
  rintro e u' w'' ⟨rfl, rfl, rfl⟩
  refine leaves_cons (f := 64) (args := #[.pointer (some ⟨b, 1, none⟩)]) (by simp [settle]) (by simp [go_sem]) ?_
  refine (unlock_deferred ⟨b, 1, none⟩ _ _ ?_ (by simp [hz1])).mono ?_
  · refine (World.cell?_setCell_other _ ⟨b, 0, none⟩ ⟨b, 1, none⟩ _ (by simp)).trans ?_
    rw [World.cell?_drew]
    exact hc1
  rintro e u' w'' ⟨rfl, rfl, rfl⟩
  have fin : Slow b w (.returned (.tuple #[])) ((w2.drew.setCell ⟨b, 0, none⟩ (.int .u32 1)).setCell ⟨b, 1, none⟩ (.int .i32 0)) := ⟨rfl, w2, HH.out, rfl⟩
  have FIN := hid fin
  clear fin
  simp [Leaves, settle, results, Tryd.results53]
  exact FIN.out

/-- What 'made' leaves of a fresh table: it is filled; all else is as it was. -/
structure Made (b : Nat) (w w' : World) : Prop where
  below : Below b w w'
  size : w'.heap.size = w.heap.size
  far : ∀ a : Addr, a.block ≠ b → w'.cell? a = w.cell? a
  tab : ∀ i, i < 256 → w'.cell? ⟨b, 3 + i, none⟩ = some (.int .u32 (tabv i))
theorem Slow.made {b : Nat} {w w' : World} {e : Ending} (h : Slow b w e w') : e = .returned (.tuple #[]) ∧ Made b w w' := by
  obtain ⟨he, w2, hF, rfl⟩ := h
  refine ⟨he, ⟨?_, ?_, ?_, ?_⟩⟩
  · have h1 : Below b w w2 := Below.trans (Below.setCell (Below.refl b w) (p := ⟨b, 1, none⟩) (Nat.le_refl b) _) hF.below
    exact Below.setCell (Below.setCell h1.drew (p := ⟨b, 0, none⟩) (Nat.le_refl b) _) (p := ⟨b, 1, none⟩) (Nat.le_refl b) _
  · simp [World.size_setCell, hF.size]
  · intro a ha
    have n : ∀ j, (⟨b, j, none⟩ : Addr) ≠ a := fun j e => ha (by rw [← e])
    rw [World.cell?_setCell_other _ _ _ _ (n _), World.cell?_setCell_other _ _ _ _ (n _), World.cell?_drew, hF.far a ha, World.cell?_setCell_other _ _ _ _ (n _)]
  · intro i hi
    have n : ∀ j, j < 3 → (⟨b, j, none⟩ : Addr) ≠ ⟨b, 3 + i, none⟩ := fun j hj e => by
      have := congrArg Addr.off e
      simp at this
      omega
    rw [World.cell?_setCell_other _ _ _ _ (n _ (by omega)), World.cell?_setCell_other _ _ _ _ (n _ (by omega)), World.cell?_drew]
    exact hF.tab i hi

set_option maxRecDepth 100000 in
set_option maxHeartbeats 1600000 in
/-- '(*sync.Once).Do', not yet done, the lock free. -/
theorem do_first (b : Nat) (pl : Addr) (hpb : pl.block ≠ b) (w : World) (hp : w.cell? pl = some (.pointer (some ⟨b, 0, none⟩)))
    (h0 : w.cell? ⟨b, 0, none⟩ = some (.int .u32 0)) (h1 : w.cell? ⟨b, 1, none⟩ = some (.int .i32 0))
    (f0 : w.frozen? ⟨b, 0, none⟩ = false) (f1 : w.frozen? ⟨b, 1, none⟩ = false)
    (hr : ∀ i, i < 256 → ∃ v, w.cell? ⟨b, 3 + i, none⟩ = some v) (hf : ∀ i, i < 256 → w.frozen? ⟨b, 3 + i, none⟩ = false) :
    Calls Tryd.prog 40 #[.pointer (some ⟨b, 0, none⟩), .func (.func 41) #[] #[.pointer (some pl)]] w fun e w' => e = .returned (.tuple #[]) ∧ Made b w w' := by
  have hl := run_call_load (P := Tryd.prog) Tryd.func62 (by kernel_rfl) (by kernel_rfl) (by kernel_rfl) .u32 (by kernel_rfl) h0
  have hnot : ∀ (x : Bool) (w : World), (Op.unary .not (.bool x)).run Tryd.prog w = .ok (.bool (!x)) w := fun _ _ => rfl
  have C := (slow_any b pl hpb w hp h0 h1 f0 f1 hr hf).mono (fun e w' h => h.made)
  clear hr hf
  go_enter Tryd.func40, Tryd.ntmps40
  go_wp2_with (go_at_call 52; go_in)
  refine C.mono ?_
  rintro e w2 ⟨rfl, hM⟩
  have HM := hid hM
  clear hM C
  go_wp2
  go_end0
  exact ⟨rfl, HM.out⟩

/-- The table as 'made' leaves it, from the call's begin on. -/
structure Tabled (b : Nat) (w w' : World) : Prop where
  below : Below b w w'
  tab : ∀ i, i < 256 → w'.cell? ⟨b, 3 + i, none⟩ = some (.int .u32 (tabv i))

set_option maxRecDepth 100000 in
set_option maxHeartbeats 1600000 in
/-- 'made' of a fresh table. -/
theorem made_any (b : Nat) (w : World) (hb : b < w.heap.size)
    (h0 : w.cell? ⟨b, 0, none⟩ = some (.int .u32 0)) (h1 : w.cell? ⟨b, 1, none⟩ = some (.int .i32 0))
    (f0 : w.frozen? ⟨b, 0, none⟩ = false) (f1 : w.frozen? ⟨b, 1, none⟩ = false)
    (hr : ∀ i, i < 256 → ∃ v, w.cell? ⟨b, 3 + i, none⟩ = some v) (hf : ∀ i, i < 256 → w.frozen? ⟨b, 3 + i, none⟩ = false) :
    Calls Tryd.prog 30 #[.pointer (some ⟨b, 0, none⟩)] w fun e w' => e = .returned (.pointer (some ⟨b, 3, none⟩)) ∧ Tabled b w w' := by
  have hmf : ∀ (fn : Fn) (first cap : Array Value) (w : World), (Instr.makeFunc fn first cap).run Tryd.prog w = .ok (.func fn first cap) w := fun _ _ _ _ => rfl
  have C := do_first b ⟨w.heap.size, 0, none⟩ (by simp; omega) (w.alloc (.cells #[.pointer (some ⟨b, 0, none⟩)] 81)) (by simp)
    (by rw [World.cell?_alloc_past _ _ _ hb]; exact h0) (by rw [World.cell?_alloc_past _ _ _ hb]; exact h1) (by rw [World.frozen?_alloc_past _ _ _ hb]; exact f0) (by rw [World.frozen?_alloc_past _ _ _ hb]; exact f1)
    (fun i hi => by rw [World.cell?_alloc_past _ _ _ hb]; exact hr i hi) (fun i hi => by rw [World.frozen?_alloc_past _ _ _ hb]; exact hf i hi)
  clear hr hf
  have hbw := hid hb
  go_enter Tryd.func30, Tryd.ntmps30
  go_wp2_with fail
  refine C.mono ?_
  rintro e w2 ⟨rfl, hM⟩
  have hpl : w2.cell? ⟨w.heap.size, 0, none⟩ = some (.pointer (some ⟨b, 0, none⟩)) := (hM.far _ (by simp; omega)).trans (by simp)
  have HM := hid hM
  clear hM C
  go_wp2
  go_ret
  exact ⟨rfl, ⟨((Below.refl _ _).alloc (by omega) _).trans HM.out.below, HM.out.tab⟩⟩
end Go.Proofs.YtmlnkdknpogknaaDoor.TagOnce
