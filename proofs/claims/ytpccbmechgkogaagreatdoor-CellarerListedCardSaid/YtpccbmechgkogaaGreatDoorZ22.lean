/-
  Lemmas: Px16a, Px16b, TagText, TagOf, PtLack, Clk.
-/
import Derived.Test.YtpccbmechgkogaaGreatDoorProg
import Derived.Lib.ConvBytes
import Derived.Laws.BytesArg
import Derived.Below
import Derived.BigQuiet
import Derived.ChangeAlike
import Derived.Deep.LoopGhost
import Derived.Deep.QuietTactic
import Derived.Defers
import Derived.KernelRfl
import Derived.Laws.BitsLemmas
import Derived.Laws.LoneSync
import Derived.Laws.NewBlocks
import Derived.Laws.Pointers
import Derived.LoopTactic
import Derived.Outline
import Derived.RegionCalls
import Derived.RegionTactic
import Derived.Tactics
import Derived.Tactics2
import Derived.WalkKit
import Derived.BigRegion
import Derived.Test.YtpccbmechgkogaaGreatDoorV0
import Derived.Test.YtpccbmechgkogaaGreatDoorZ00
import Derived.Test.YtpccbmechgkogaaGreatDoorZ01
import Derived.Test.YtpccbmechgkogaaGreatDoorZ02
import Derived.Test.YtpccbmechgkogaaGreatDoorZ03
import Derived.Test.YtpccbmechgkogaaGreatDoorZ04
import Derived.Test.YtpccbmechgkogaaGreatDoorZ06
import Derived.Test.YtpccbmechgkogaaGreatDoorZ07
import Derived.Test.YtpccbmechgkogaaGreatDoorZ08
import Derived.Test.YtpccbmechgkogaaGreatDoorZ16
import Derived.Test.YtpccbmechgkogaaGreatDoorZ18
import Derived.Test.YtpccbmechgkogaaGreatDoorZ19
import Derived.Test.YtpccbmechgkogaaGreatDoorZ20
import Derived.Test.YtpccbmechgkogaaGreatDoorZ21
set_option linter.unusedVariables false
set_option linter.unusedSimpArgs false
namespace Go.Proofs.YtpccbmechgkogaaGreatDoor.P
open Go.RowKit Go.Proofs.YtpccbmechgkogaaGreatDoorW.PrintWords Go.Proofs.YtpccbmechgkogaaGreatDoorW.PrintLast Go.Proofs.YtpccbmechgkogaaGreatDoorW.PrintMore
attribute [local go_sem] max2_int min2_int max_two min_two max_three min_three max_four min_four
def tag_More.f (a0 : Int) (a1 : ByteArray) : Option (Int) := if 0 ≤ a0 ∧ a0 < 4294967296 ∧ a1.size ≤ 9223372036854775807 then some (((Go.Proofs.YtpccbmechgkogaaGreatDoor.TagNat.more a0.toNat (a1.data.toList.map UInt8.toNat) : Nat) : Int)) else none
theorem tag_More.calls (a0 : Int) (a1 : ByteArray) (r : Int) (w : World) (h : tag_More.f a0 a1 = some r) :
  Calls Tryz.prog 43 #[.int .u32 a0, .string a1] w fun e w' => e = .returned (.int .u32 r) ∧ Below w.heap.size w w' := by
 unfold tag_More.f at h
 split at h
 ·rename_i hc
  obtain rfl := Option.some.inj h
  exact Go.Proofs.YtpccbmechgkogaaGreatDoor.TagMore.more_any a0 a1 w hc.1 hc.2.1 hc.2.2
 ·cases h
end Go.Proofs.YtpccbmechgkogaaGreatDoor.P
namespace Go.Proofs.YtpccbmechgkogaaGreatDoor.P
open Go.RowKit Go.Proofs.YtpccbmechgkogaaGreatDoorW.PrintWords Go.Proofs.YtpccbmechgkogaaGreatDoorW.PrintLast Go.Proofs.YtpccbmechgkogaaGreatDoorW.PrintMore
attribute [local go_sem] max2_int min2_int max_two min_two max_three min_three max_four min_four
def tag_Of.f (a0 : ByteArray) : Option (Int) := (tag_More.f 0 a0).bind fun t247 => (some t247)
set_option maxHeartbeats 8000000 in
set_option maxRecDepth 100000 in
theorem tag_Of.calls (a0 : ByteArray) (r : Int) (w : World) (h : tag_Of.f a0 = some r) :
  Calls Tryz.prog 13 #[.string a0] w fun e w' => e = .returned (.int .u32 r) ∧ Below w.heap.size w w' := by
 have HB := Aside0.mk (Below.refl w.heap.size w)
 have H : ((tag_More.f 0 a0).bind fun t247 => (some t247)) = some r := h
 clear h
 replace H := Option.bind_eq_some_iff.mp H
 obtain ⟨t247, A20, H⟩ := H
 replace H : (some t247) = some r := H
 have A2 := Aside0.mk A20
 clear A20
 obtain rfl := Option.some.inj H
 go_enter Tryz.func13, Tryz.ntmps13
 go_wp2_with (first | ((with_reducible refine gate_callee (f := 43) rfl ?_); refine goesL_ (some 4) rfl rfl Tryz.func43 (by kernel_rfl) rfl #[.int .u32 0, .string a0] rfl (by (try simp only [List.map_toArray, List.map_cons, List.map_nil]); first | done | rfl | (simp only [List.length_drop, List.length_take]; rfl)) ?_; (with_reducible refine (tag_More.calls 0 a0 t247 _ A2.out).mono ?_); rintro e w3 ⟨rfl, hb⟩; refine ⟨_, rfl, ?_⟩; have n0_ := Aside0.mk (below_step (by repeat (first | (with_reducible first | exact HB.out | apply below_alloc | apply pw_below_drewN | apply below_drew1) | exact HB.out)) hb); clear HB; have HB := n0_; clear n0_; (try clear hb); (try clear hb2); (try clear hk); (try clear hi)))
 go_ret
 exact ⟨by first | rfl | (simp [errW_none, errW_some] <;> rfl) | (simp [*, errW_none, errW_some] <;> rfl), by repeat (first | (with_reducible first | exact HB.out | apply below_alloc | apply pw_below_drewN | apply below_drew1) | exact HB.out)⟩
end Go.Proofs.YtpccbmechgkogaaGreatDoor.P
namespace Go.Proofs.YtpccbmechgkogaaGreatDoor.TagText
open Go.RowKit
def dg (n : Nat) : UInt8 := if n < 10 then (48 + n).toUInt8 else (87 + n).toUInt8
def tx (t : Int) (i : Nat) : UInt8 := dg (t.toNat / 2 ^ (28 - 4 * i) % 16)
def ta (t : Int) (k : Nat) : Array Value := ((List.range 8).map fun i => if i < k then Value.int .u8 ((tx t i).toNat : Int) else .int .u8 0).toArray
def text (t : Int) : List UInt8 := (List.range 8).map (tx t)
theorem zero_eight (W : World) : (zeroValue 93).run Tryz.prog W = .ok (.agg (ta 0 0)) W := by kernel_rfl
theorem ta_start (t : Int) : ta 0 0 = ta t 0 := by
 unfold ta
 congr 1
theorem ta_cell (t : Int) (k i : Nat) (h : i < 8) : (ta t k)[i]? = some (if i < k then Value.int .u8 ((tx t i).toNat : Int) else .int .u8 0) := by
 unfold ta
 simp [h]
theorem ta_step (t : Int) (k : Nat) (h : k < 8) : (ta t k).setIfInBounds k (.int .u8 ((tx t k).toNat : Int)) = ta t (k + 1) := by
 apply Array.ext_getElem?
 intro i
 rw [Array.getElem?_setIfInBounds]
 have hs : (ta t k).size = 8 := by simp [ta]
 by_cases hi : i < 8
 ·rw [ta_cell t k i hi, ta_cell t (k + 1) i hi]
  by_cases e : k = i
  ·subst e
   simp [hs, hi]
  ·simp only [e, if_false]
   by_cases h2 : i < k
   ·rw [if_pos h2, if_pos (by omega)]
   ·rw [if_neg h2, if_neg (by omega)]
 ·have h1 : (ta t k)[i]? = none := by simp [ta]; omega
  have h2 : (ta t (k + 1))[i]? = none := by simp [ta]; omega
  rw [h1, h2, if_neg (by omega)]
theorem and15 (t : Int) (k : Nat) (h0 : 0 ≤ t) (h1 : t < 4294967296) : 0 ≤ Go.bits .and .u32 (t / 2 ^ (28 - 4 * k)) 15 ∧ Go.bits .and .u32 (t / 2 ^ (28 - 4 * k)) 15 < 16 ∧ (Go.bits .and .u32 (t / 2 ^ (28 - 4 * k)) 15).toNat = t.toNat / 2 ^ (28 - 4 * k) % 16 := by
 obtain ⟨n, rfl⟩ := Int.eq_ofNat_of_zero_le h0
 have hn : n < 2 ^ 32 := by omega
 have e : ((n : Int) / 2 ^ (28 - 4 * k)) = ((n / 2 ^ (28 - 4 * k) : Nat) : Int) := by
  rw [Int.natCast_ediv, Int.natCast_pow]; rfl
 have hq : n / 2 ^ (28 - 4 * k) < 2 ^ 32 := Nat.lt_of_le_of_lt (Nat.div_le_self _ _) hn
 rw [e, Int.toNat_natCast]
 generalize n / 2 ^ (28 - 4 * k) = q at *
 have ha' : q % 2 ^ IntKind.u32.bits = q := Nat.mod_eq_of_lt hq
 have h1' : 15 % 2 ^ IntKind.u32.bits = 15 := rfl
 have h : q &&& 15 = q % 16 := Nat.and_two_pow_sub_one_eq_mod q 4
 have : Go.bits .and .u32 (q : Int) 15 = ((q % 16 : Nat) : Int) := by
  rw [show (15 : Int) = ((15 : Nat) : Int) from rfl]
  simp only [Go.bits, BitVec.ofInt_natCast, BitVec.toNat_and, BitVec.toNat_ofNat, ha', h1', h, IntKind.wrap_u32]
  omega
 rw [this]
 omega
theorem digit_at (n : Nat) (h : n < (⟨#[48, 49, 50, 51, 52, 53, 54, 55, 56, 57, 97, 98, 99, 100, 101, 102]⟩ : ByteArray).size) : (⟨#[48, 49, 50, 51, 52, 53, 54, 55, 56, 57, 97, 98, 99, 100, 101, 102]⟩ : ByteArray)[n].toNat = (dg n).toNat := by
 have h16 : n < 16 := h
 have : n = 0 ∨ n = 1 ∨ n = 2 ∨ n = 3 ∨ n = 4 ∨ n = 5 ∨ n = 6 ∨ n = 7 ∨ n = 8 ∨ n = 9 ∨ n = 10 ∨ n = 11 ∨ n = 12 ∨ n = 13 ∨ n = 14 ∨ n = 15 := by omega
 rcases this with rfl | rfl | rfl | rfl | rfl | rfl | rfl | rfl | rfl | rfl | rfl | rfl | rfl | rfl | rfl | rfl <;> rfl
theorem nums_text (l : List UInt8) : strOfNums (l.map fun c => (c.toNat : Int)) = ⟨l.toArray⟩ := by
 unfold strOfNums
 congr 1
 simp [List.map_map, Function.comp_def]
theorem text_cv (t : Int) (w : World) : (convert 94 9 (.slice (some ⟨w.heap.size, 0, none⟩) 8 8)).run Tryz.prog (w.alloc (.cells (ta t 8) 93)) = .ok (.string ⟨(text t).toArray⟩) (w.alloc (.cells (ta t 8) 93)) := by
 have h := run_convert_bytes_arg (P := Tryz.prog) (w.alloc (.cells (ta t 8) 93)) 94 5 Tryz.underlying94 Tryz.underlying5 w.heap.size 0 8 8 ((text t).map fun c => (c.toNat : Int)) (by simp [text]) (fun i hi => by
  rw [Nat.zero_add, World.cell?_alloc_at (ta t 8) _ w.heap.size i rfl, ta_cell t 8 i hi, if_pos hi]
  simp [text, hi]) 9 Tryz.underlying9
 rw [nums_text] at h
 exact h
set_option maxRecDepth 100000 in
set_option maxHeartbeats 1600000 in
theorem text_any (t : Int) (w : World) (h0 : 0 ≤ t) (h1 : t < 4294967296) :
  Calls Tryz.prog 12 #[.int .u32 t] w fun e w' => e = .returned (.string ⟨(text t).toArray⟩) ∧ Below w.heap.size w w' := by
 have hz := zero_eight
 go_enter Tryz.func12, Tryz.ntmps12
 go_wp2
 rw [ta_start t]
 go_loopw [5] (fun i wr => ∃ k : Nat, k ≤ 8 ∧ i = .int .i64 k ∧ wr = w.alloc (.cells (ta t k) 93)) (fun i _ => 8 - (intOf i).toNat)
 case atStart => exact ⟨0, by omega, rfl, rfl⟩
 case round =>
  obtain ⟨k, hk, rfl, rfl⟩ := hrel
  by_cases hlt : k < 8
  ·have hs0 : 0 ≤ 28 - 4 * (k : Int) := by omega
   have hs1 : 28 - 4 * (k : Int) ≤ 32 := by omega
   have hb0 : 0 ≤ Go.bits .and .u32 (t / 2 ^ (28 - 4 * k)) 15 := (and15 t k h0 h1).1
   have hb1 : Go.bits .and .u32 (t / 2 ^ (28 - 4 * k)) 15 < 16 := (and15 t k h0 h1).2.1
   have hc : (ta t k)[k]? = some (.int .u8 0) := by rw [ta_cell t k k hlt, if_neg (by omega)]
   go_wp2
   refine ⟨⟨k + 1, by omega, by go_num, ?_⟩, by simp [intOf]; omega⟩
   rw [digit_at, (and15 t k h0 h1).2.2]
   exact congrArg (fun z => w.alloc (.cells z 93)) (ta_step t k hlt)
  ·obtain rfl : k = 8 := by omega
   have hcv := text_cv t w
   go_wp2
   go_ret
   exact ⟨rfl, (Below.refl _ _).alloc (Nat.le_refl _) _⟩
end Go.Proofs.YtpccbmechgkogaaGreatDoor.TagText
namespace Go.Proofs.YtpccbmechgkogaaGreatDoor.TagOf
open Go.RowKit Go.Proofs.YtpccbmechgkogaaGreatDoor.P Go.Proofs.YtpccbmechgkogaaGreatDoorW.PrintWords
def tagOf (s : ByteArray) : Int := ((TagNat.more 0 (s.data.toList.map UInt8.toNat) : Nat) : Int)
theorem tag_bd (s : ByteArray) : 0 ≤ tagOf s ∧ tagOf s < 4294967296 := by
 unfold tagOf TagNat.more
 have := TagNat.no_lt (TagNat.run (TagNat.no 0) (s.data.toList.map UInt8.toNat))
 omega
theorem of_any (s : ByteArray) (w : World) (h : s.size ≤ 9223372036854775807) : Calls Tryz.prog 13 #[.string s] w fun e w' => e = .returned (.int .u32 (tagOf s)) ∧ Below w.heap.size w w' := by
 refine tag_Of.calls s (tagOf s) w ?_
 unfold tag_Of.f tag_More.f
 rw [if_pos ⟨by omega, by omega, h⟩]
 rfl
def tagText (t : Int) : ByteArray := ⟨(TagText.text t).toArray⟩
theorem text_any (t : Int) (w : World) (h0 : 0 ≤ t) (h1 : t < 4294967296) : Calls Tryz.prog 12 #[.int .u32 t] w fun e w' => e = .returned (.string (tagText t)) ∧ Below w.heap.size w w' := TagText.text_any t w h0 h1
end Go.Proofs.YtpccbmechgkogaaGreatDoor.TagOf
namespace Go.Proofs.YtpccbmechgkogaaGreatDoor.PtLack
open Go.RowKit Go.Proofs.YtpccbmechgkogaaGreatDoor.P Go.Proofs.YtpccbmechgkogaaGreatDoorW.PrintWords Go.Proofs.YtpccbmechgkogaaGreatDoorW.PrintLast Go.Proofs.YtpccbmechgkogaaGreatDoorW.PrintMore Go.Proofs.YtpccbmechgkogaaGreatDoor.PureKit Go.Proofs.YtpccbmechgkogaaGreatDoor.BkSpec Go.Proofs.YtpccbmechgkogaaGreatDoor.Wk Go.Proofs.YtpccbmechgkogaaGreatDoor.TagOf
abbrev I : Type := S228
abbrev kI := k228
abbrev tI : Nat := 228
abbrev tP : Nat := 119
def meets (x : I) (p : P) : Bool := p.f0 == x.f0 && tagOf p.f1 == x.f1
def lacks (u : U) (x : I) : Bool := !u.f2.any (meets x)
set_option maxRecDepth 100000 in
set_option maxHeartbeats 1600000 in
theorem meetsC (x : I) (p : P) (b : Nat) (w : World) (hs : p.f1.size ≤ 9223372036854775807) (hb : w.heap[b]? = some (.cells #[.int .i64 x.f0, .int .u32 x.f1] tI (0, 0))) :
  Calls Tryz.prog 187 #[.agg #[.int .i64 p.f0, .string p.f1], .pointer (some ⟨b, 0, none⟩)] w fun e w' => e = .returned (.bool (meets x p)) ∧ Below w.heap.size w w' := by
 obtain ⟨q, hq⟩ : ∃ q, meets x p = q := ⟨_, rfl⟩
 rw [hq]
 have hu := Tryz.underlying119
 have hui := Tryz.underlying228
 have HS := Aside0.mk hs
 have HB0 := Aside0.mk (below_alloc (Below.refl w.heap.size w) (.cells #[.int .i64 p.f0, .string p.f1] tP))
 have HP0 : Aside0 ((w.alloc (.cells #[.int .i64 p.f0, .string p.f1] tP)).cell? ⟨w.heap.size, 0, none⟩ = some (.int .i64 p.f0)) := ⟨(blk_cell (blk_new w (.cells #[.int .i64 p.f0, .string p.f1] tP)) 0).trans rfl⟩
 have HP1 : Aside0 ((w.alloc (.cells #[.int .i64 p.f0, .string p.f1] tP)).cell? ⟨w.heap.size, 1, none⟩ = some (.string p.f1)) := ⟨(blk_cell (blk_new w (.cells #[.int .i64 p.f0, .string p.f1] tP)) 1).trans rfl⟩
 have HX0 : Aside0 ((w.alloc (.cells #[.int .i64 p.f0, .string p.f1] tP)).cell? ⟨b, 0, none⟩ = some (.int .i64 x.f0)) := ⟨(blk_cell (blk_alloc hb (.cells #[.int .i64 p.f0, .string p.f1] tP)) 0).trans rfl⟩
 have HX1 : Aside0 ((w.alloc (.cells #[.int .i64 p.f0, .string p.f1] tP)).cell? ⟨b, 1, none⟩ = some (.int .u32 x.f1)) := ⟨(blk_cell (blk_alloc hb (.cells #[.int .i64 p.f0, .string p.f1] tP)) 1).trans rfl⟩
 by_cases h1 : p.f0 = x.f0
 ·have d1 : (p.f0 == x.f0) = true := beq_iff_eq.mpr h1
  have HQ : Aside0 ((tagOf p.f1 == x.f1) = q) := ⟨by rw [← hq]; unfold meets; rw [d1, Bool.true_and]⟩
  clear h1 hq hs hb
  go_enter Tryz.func187, Tryz.ntmps187
  go_wp2_with fail
  refine start_ (n := 14) (S := fun w' => w'.cell? ⟨w.heap.size, 0, none⟩ = some (.int .i64 p.f0) ∧ w'.cell? ⟨w.heap.size, 1, none⟩ = some (.string p.f1) ∧ w'.cell? ⟨b, 0, none⟩ = some (.int .i64 x.f0) ∧ w'.cell? ⟨b, 1, none⟩ = some (.int .u32 x.f1)) (ds := []) (bb 14 0) (by kernel_rfl) rfl rfl ⟨HP0.out, HP1.out, HX0.out, HX1.out⟩ (fun hHeld => ?_)
  refine pu 0 4 (h := pu 2 6 (h := ta 1 5 hHeld (h := ta 3 7 hHeld (h := pu 4 8 (h := pu 5 9 (h := pu 6 10 (h := pu 9 13 (h := ta 7 11 hHeld (h := ta 10 14 hHeld (h := on_ 8 12 (h := fun K hK => ?_)))))))))))
  refine goes_ Tryz.func13 (by kernel_rfl) rfl #[.string p.f1] (by rfl) rfl rfl (by simp only [List.map_toArray, List.map_cons, List.map_nil]; rfl) ?_
  refine (TagOf.of_any p.f1 _ HS.out).mono ?_
  rintro e w2 ⟨rfl, hb2⟩
  refine ⟨_, rfl, ?_⟩
  have HB2 := Aside0.mk (below_step (below_drew (Below.refl (w.alloc (.cells #[.int .i64 p.f0, .string p.f1] tP)).heap.size (w.alloc (.cells #[.int .i64 p.f0, .string p.f1] tP)))) hb2)
  clear hb2
  refine hK.out _ _ ⟨(pw_cell_below HB2.out HP0.out), (pw_cell_below HB2.out HP1.out), (pw_cell_below HB2.out HX0.out), (pw_cell_below HB2.out HX1.out)⟩ (fun hHeld => ?_)
  clear hK K
  refine nm (h := pu 11 15 (h := pu 12 16 (h := pu 13 3 (h := dn (h := ?_)))))
  rw [HQ.out]
  clear hHeld
  go_wp2_with fail
  go_ret
  exact ⟨rfl, below_step HB0.out HB2.out⟩
 ·have d1 : (p.f0 == x.f0) = false := beq_eq_false_iff_ne.mpr h1
  have HQ : Aside0 (false = q) := ⟨by rw [← hq]; unfold meets; rw [d1, Bool.false_and]⟩
  clear h1 hq hs hb
  go_enter Tryz.func187, Tryz.ntmps187
  go_wp2_with fail
  refine start_ (n := 14) (S := fun w' => w'.cell? ⟨w.heap.size, 0, none⟩ = some (.int .i64 p.f0) ∧ w'.cell? ⟨w.heap.size, 1, none⟩ = some (.string p.f1) ∧ w'.cell? ⟨b, 0, none⟩ = some (.int .i64 x.f0) ∧ w'.cell? ⟨b, 1, none⟩ = some (.int .u32 x.f1)) (ds := []) (bb 14 0) (by kernel_rfl) rfl rfl ⟨HP0.out, HP1.out, HX0.out, HX1.out⟩ (fun hHeld => ?_)
  refine pu 0 4 (h := pu 2 6 (h := ta 1 5 hHeld (h := ta 3 7 hHeld (h := pu 4 8 (h := pu 5 9 (h := po 6 10 (h := po 7 11 (h := po 8 12 (h := po 9 13 (h := po 10 14 (h := po 11 15 (h := pu 12 16 (h := pu 13 3 (h := dn (h := ?_)))))))))))))))
  rw [HQ.out]
  clear hHeld
  go_wp2_with fail
  go_ret
  exact ⟨rfl, below_drew HB0.out⟩
set_option maxRecDepth 100000 in
set_option maxHeartbeats 1600000 in
theorem lacks_any (u : U) (x : I) (A : Option Addr) (c : Nat) (w : World) (hu0 : upB u = true) (hr : Kd.C PtAbort.kP w A u.f2.length u.f2) (hc : u.f2.length ≤ c) :
  Calls Tryz.prog 156 #[.agg #[.int .u64 u.f0, .string u.f1, .slice A u.f2.length c], .agg #[.int .i64 x.f0, .int .u32 x.f1]] w fun e w' => e = .returned (.bool (lacks u x)) ∧ Below w.heap.size w w' := by
 unfold lacks
 have hmf : ∀ (fn : Fn) (first cap : Array Value) (w : World), (Instr.makeFunc fn first cap).run Tryz.prog w = .ok (.func fn first cap) w := fun _ _ _ _ => rfl
 have hu := Tryz.underlying226
 have hui := Tryz.underlying228
 have hps := (PtPure.up_iff.1 hu0).2.2.2.2.1
 have C2 := Aside0.mk (fun (W : World) (hW : Below w.heap.size w W) (b : Nat) (hb : W.heap[b]? = some (.cells #[.int .i64 x.f0, .int .u32 x.f1] tI (0, 0))) => IxP.contains_any 187 #[.pointer (some ⟨b, 0, none⟩)] (fun args w => by rfl) (meets x) A c u.f2 W (Kd.C_below hr hW) (fun W2 p hp hB => meetsC x p b W2 (by have := hps p hp; unfold partB at this; simp only [Bool.and_eq_true, decide_eq_true_eq] at this; omega) (blk_below hb hB)))
 have hz := fun (o : Obj) j => blk_cell (blk_alloc (blk_new w (.cells #[.int .u64 u.f0, .string u.f1, .slice A u.f2.length c] 226)) o) j
 have HB := Aside0.mk (below_alloc (below_alloc (Below.refl w.heap.size w) (.cells #[.int .u64 u.f0, .string u.f1, .slice A u.f2.length c] 226)) (.cells #[.int .i64 x.f0, .int .u32 x.f1] tI))
 clear hr hc hps hu0
 generalize hq : u.f2.any (meets x) = q at C2 ⊢
 clear hq
 go_enter Tryz.func156, Tryz.ntmps156
 go_wp2_with fail
 refine (C2.out _ HB.out (w.heap.size + 1) (blk_push w _ _)).mono ?_
 rintro en w2 ⟨rfl, hb2⟩
 have HB2 := Aside0.mk (below_step HB.out hb2)
 clear hb2 C2 HB hz
 go_wp2
 go_ret
 exact ⟨rfl, HB2.out⟩
end Go.Proofs.YtpccbmechgkogaaGreatDoor.PtLack
namespace Go.Proofs.YtpccbmechgkogaaGreatDoor.Clk
open Go.RowKit Go.Proofs.YtpccbmechgkogaaGreatDoor.P Go.Proofs.YtpccbmechgkogaaGreatDoorW.PrintWords Go.Proofs.YtpccbmechgkogaaGreatDoor.PureKit Go.Proofs.YtpccbmechgkogaaGreatDoor.BkSpec Go.Proofs.YtpccbmechgkogaaGreatDoor.Wk Go.Proofs.YtpccbmechgkogaaGreatDoor.Close Go.Proofs.YtpccbmechgkogaaGreatDoor.BkOk Go.Proofs.YtpccbmechgkogaaGreatDoor.DpChk Go.Proofs.YtpccbmechgkogaaGreatDoor.DpFind Go.Proofs.YtpccbmechgkogaaGreatDoor.BkUps Go.Proofs.YtpccbmechgkogaaGreatDoor.PtLack
abbrev Q : Type := S34
abbrev tC : Nat := 71
abbrev cells (q : Q) (vp : Value) (now : Int) (vl : Value) (b : B) (v2 v3 : Value) (ti : Int) (tt : ByteArray) (e : Int) : Array Value :=
 #[.int .i64 q.f0, .string q.f1, .string q.f2, .string q.f3, .string q.f4, .string q.f5, .int .u64 q.f6, .int .i64 q.f7, vp, .int .i64 now, vl, .string b.f0, .int .i64 b.f1, v2, v3, .int .u64 b.f4, .int .u64 ti, .string tt, .int .i64 e]
abbrev okg (g k : Nat) : Prop := k ≠ g ∧ k + 1 ≠ g ∧ k + 2 ≠ g
structure CAt (w : World) (g : Nat) (q : Q) (vp : Value) (now : Int) (vl : Value) (l : List B) (b : B) (v2 v3 : Value) (ti : Int) (tt : ByteArray) (e : Int) : Prop where
 blk : w.heap[g]? = some (.cells (cells q vp now vl b v2 v3 ti tt e) tC (0, 0))
 rp : Rd kI w (okg g) vp q.f8
 rl : Rd kB w (okg g) vl l
 sl : Sl w (okg g) b v2 v3
section
variable {w w1 : World} {g : Nat} {q : Q} {vp : Value} {now : Int} {vl : Value} {l : List B} {b : B} {v2 v3 : Value} {ti : Int} {tt : ByteArray} {e : Int}
theorem CAt.lt (h : CAt w g q vp now vl l b v2 v3 ti tt e) : g < w.heap.size := blk_lt h.blk
theorem CAt.rpG (h : CAt w g q vp now vl l b v2 v3 ti tt e) (hg : w.grownBy w1 (some g)) : Rd kI w1 (okg g) vp q.f8 := Kd.V_grown h.rp hg (fun k hk e => hk.1 (Option.some.inj e))
theorem CAt.rlG (h : CAt w g q vp now vl l b v2 v3 ti tt e) (hg : w.grownBy w1 (some g)) : Rd kB w1 (okg g) vl l := Kd.V_grown h.rl hg (fun k hk e => hk.1 (Option.some.inj e))
theorem CAt.slG (h : CAt w g q vp now vl l b v2 v3 ti tt e) (hg : w.grownBy w1 (some g)) : Sl w1 (okg g) b v2 v3 := h.sl.grown hg (fun k hk => hk.1)
theorem CAt.below (h : CAt w g q vp now vl l b v2 v3 ti tt e) (hb : Below w.heap.size w w1) : CAt w1 g q vp now vl l b v2 v3 ti tt e := ⟨blk_below h.blk hb, Kd.V_below h.rp hb, Kd.V_below h.rl hb, h.sl.below hb⟩
theorem CAt.setE (h : CAt w g q vp now vl l b v2 v3 ti tt e) (e' : Int) : CAt (w.setCell ⟨g, 18, none⟩ (.int .i64 e')) g q vp now vl l b v2 v3 ti tt e' := ⟨blk_set h.blk 18 _, h.rpG (grown_set _ _ _ _), h.rlG (grown_set _ _ _ _), h.slG (grown_set _ _ _ _)⟩
theorem CAt.setI (h : CAt w g q vp now vl l b v2 v3 ti tt e) (i : Int) : CAt (w.setCell ⟨g, 16, none⟩ (.int .u64 i)) g q vp now vl l b v2 v3 i tt e := ⟨blk_set h.blk 16 _, h.rpG (grown_set _ _ _ _), h.rlG (grown_set _ _ _ _), h.slG (grown_set _ _ _ _)⟩
theorem CAt.setT (h : CAt w g q vp now vl l b v2 v3 ti tt e) (t : ByteArray) : CAt (w.setCell ⟨g, 17, none⟩ (.string t)) g q vp now vl l b v2 v3 ti t e := ⟨blk_set h.blk 17 _, h.rpG (grown_set _ _ _ _), h.rlG (grown_set _ _ _ _), h.slG (grown_set _ _ _ _)⟩
abbrev setB (w : World) (g : Nat) (x0 x1 x2 x3 x4 : Value) : World := ((((w.setCell ⟨g, 11, none⟩ x0).setCell ⟨g, 12, none⟩ x1).setCell ⟨g, 13, none⟩ x2).setCell ⟨g, 14, none⟩ x3).setCell ⟨g, 15, none⟩ x4
theorem setB_grown (w : World) (g : Nat) (x0 x1 x2 x3 x4 : Value) : w.grownBy (setB w g x0 x1 x2 x3 x4) (some g) := ((((grown_set w g 11 _).trans (grown_set _ g 12 _)).trans (grown_set _ g 13 _)).trans (grown_set _ g 14 _)).trans (grown_set _ g 15 _)
theorem CAt.setB (h : CAt w g q vp now vl l b v2 v3 ti tt e) {b' : B} {u2 u3 : Value} (hs : Sl w (okg g) b' u2 u3) : CAt (setB w g (.string b'.f0) (.int .i64 b'.f1) u2 u3 (.int .u64 b'.f4)) g q vp now vl l b' u2 u3 ti tt e :=
 ⟨blk_set (blk_set (blk_set (blk_set (blk_set h.blk 11 _) 12 _) 13 _) 14 _) 15 _, h.rpG (setB_grown _ _ _ _ _ _ _), h.rlG (setB_grown _ _ _ _ _ _ _), hs.grown (setB_grown _ _ _ _ _ _ _) (fun k hk => hk.1)⟩
theorem Sl.past {ok : Nat → Prop} {n : Nat} (h : Sl w (fun k => ok k ∨ n ≤ k) b v2 v3) (hk : ∀ k, ok k → okg g k) (hn : g < n) : Sl w (okg g) b v2 v3 := h.mono (fun k h => by rcases h with h | h; exact hk k h; exact ⟨by omega, by omega, by omega⟩)
end
def Took (w : World) (g : Nat) (q : Q) (vp : Value) (now : Int) (vl : Value) (l : List B) (b : B) (v2 v3 : Value) (ti : Int) (tt : ByteArray) (e : Int) (en : Ending) (w' : World) : Prop :=
 en = .returned (.tuple #[]) ∧ CAt w' g q vp now vl l b v2 v3 ti tt e ∧ w.grownBy w' (some g)
set_option maxRecDepth 100000 in
set_option maxHeartbeats 1600000 in
theorem no_any (w : World) (g : Nat) (q : Q) (vp : Value) (now : Int) (vl : Value) (l : List B) (b : B) (v2 v3 : Value) (ti : Int) (tt : ByteArray) (e : Int) (h : CAt w g q vp now vl l b v2 v3 ti tt e) (er : Int) :
  Calls Tryz.prog 31 #[.pointer (some ⟨g, 0, none⟩), .int .i64 er] w (Took w g q vp now vl l b v2 v3 ti tt (upE e er)) := by
 have H := Aside0.mk h
 have hz := fun j => blk_cell h.blk j
 have hf := fun j => blk_frozen h.blk j
 clear h
 by_cases he : e = 0
 ·subst he
  have HE : Aside0 (upE 0 er = er) := ⟨rfl⟩
  go_enter Tryz.func31, Tryz.ntmps31
  go_wp2
  (first | go_end0 | ((try simp only [Exit.inBlock, Exit.then]); refine bodyPost_ret (results_none rfl _ _ _) rfl ?_))
  exact ⟨rfl, by rw [HE.out]; exact H.out.setE er, grown_set w g 18 _⟩
 ·have d2 : (e == 0) = false := beq_eq_false_iff_ne.mpr he
  have HE : Aside0 (upE e er = e) := ⟨by unfold upE; rw [if_neg he]⟩
  clear he
  go_enter Tryz.func31, Tryz.ntmps31
  go_wp2
  (first | go_end0 | ((try simp only [Exit.inBlock, Exit.then]); refine bodyPost_ret (results_none rfl _ _ _) rfl ?_))
  exact ⟨rfl, by rw [HE.out]; exact H.out, World.grownBy.refl _ _⟩
set_option maxRecDepth 100000 in
set_option maxHeartbeats 1600000 in
theorem took_any (w : World) (g : Nat) (q : Q) (vp : Value) (now : Int) (vl : Value) (l : List B) (b : B) (v2 v3 : Value) (ti : Int) (tt : ByteArray) (e : Int) (h : CAt w g q vp now vl l b v2 v3 ti tt e) (b' : B) (u2 u3 : Value) (hs : Sl w (okg g) b' u2 u3) (er : Int) :
  Calls Tryz.prog 57 #[.pointer (some ⟨g, 0, none⟩), .agg #[.string b'.f0, .int .i64 b'.f1, u2, u3, .int .u64 b'.f4], .int .i64 er] w (Took w g q vp now vl l b' u2 u3 ti tt (upE e er)) := by
 obtain ⟨A2, c2, rfl⟩ := Kd.V_slice hs.r2
 obtain ⟨A3, c3, rfl⟩ := Kd.V_slice hs.r3
 have hu := Tryz.underlying40
 have hba := below_alloc (Below.refl w.heap.size w) (.cells #[.string b'.f0, .int .i64 b'.f1, .slice A2 b'.f2.length c2, .slice A3 b'.f3.length c3, .int .u64 b'.f4] 40)
 have H1 := Aside0.mk (h.below hba)
 have HG := Aside0.mk (grown_of_below hba (some g))
 have HS := Aside0.mk (hs.below hba)
 have hz := fun j => blk_cell H1.out.blk j
 have hf := fun j => blk_frozen H1.out.blk j
 have hz0 := fun j => blk_cell (blk_new w (.cells #[.string b'.f0, .int .i64 b'.f1, .slice A2 b'.f2.length c2, .slice A3 b'.f3.length c3, .int .u64 b'.f4] 40)) j
 clear h hs hba
 go_enter Tryz.func57, Tryz.ntmps57
 go_wp2_with fail
 refine (no_any _ g q vp now vl l b' _ _ ti tt e (H1.out.setB HS.out) er).mono ?_
 rintro en w2 ⟨rfl, hC, hg⟩
 have HC := Aside0.mk (And.intro hC (grown_then (grown_then HG.out (setB_grown _ _ _ _ _ _ _) (.inr rfl)) hg (.inr rfl)))
 clear hC hg
 go_wp2_with fail
 (first | go_end0 | ((try simp only [Exit.inBlock, Exit.then]); refine bodyPost_ret (results_none rfl _ _ _) rfl ?_))
 exact ⟨rfl, HC.out.1, HC.out.2⟩
set_option maxRecDepth 100000 in
set_option maxHeartbeats 1600000 in
theorem gave_any (w : World) (g : Nat) (q : Q) (vp : Value) (now : Int) (vl : Value) (l : List B) (b : B) (v2 v3 : Value) (ti : Int) (tt : ByteArray) (e : Int) (h : CAt w g q vp now vl l b v2 v3 ti tt e) (b' : B) (u2 u3 : Value) (hs : Sl w (okg g) b' u2 u3) (id er : Int) :
  Calls Tryz.prog 59 #[.pointer (some ⟨g, 0, none⟩), .agg #[.string b'.f0, .int .i64 b'.f1, u2, u3, .int .u64 b'.f4], .int .u64 id, .int .i64 er] w (Took w g q vp now vl l b' u2 u3 id tt (upE e er)) := by
 obtain ⟨A2, c2, rfl⟩ := Kd.V_slice hs.r2
 obtain ⟨A3, c3, rfl⟩ := Kd.V_slice hs.r3
 have hu := Tryz.underlying40
 have hba := below_alloc (Below.refl w.heap.size w) (.cells #[.string b'.f0, .int .i64 b'.f1, .slice A2 b'.f2.length c2, .slice A3 b'.f3.length c3, .int .u64 b'.f4] 40)
 have H1 := Aside0.mk (h.below hba)
 have HG := Aside0.mk (grown_of_below hba (some g))
 have HS := Aside0.mk (hs.below hba)
 have hz0 := fun j => blk_cell (blk_new w (.cells #[.string b'.f0, .int .i64 b'.f1, .slice A2 b'.f2.length c2, .slice A3 b'.f3.length c3, .int .u64 b'.f4] 40)) j
 clear h hs hba
 go_enter Tryz.func59, Tryz.ntmps59
 go_wp2_with fail
 refine (took_any _ g q vp now vl l b _ _ ti tt e H1.out b' _ _ HS.out er).mono ?_
 rintro en w2 ⟨rfl, hC, hg⟩
 have HC := Aside0.mk (And.intro hC (grown_then HG.out hg (.inr rfl)))
 have hz := fun j => blk_cell HC.out.1.blk j
 have hf := fun j => blk_frozen HC.out.1.blk j
 clear hC hg hz0
 go_wp2_with fail
 (first | go_end0 | ((try simp only [Exit.inBlock, Exit.then]); refine bodyPost_ret (results_none rfl _ _ _) rfl ?_))
 exact ⟨rfl, HC.out.1.setI id, grown_then HC.out.2 (grown_set _ g 16 _) (.inr rfl)⟩
def Opened (w : World) (g : Nat) (q : Q) (vp : Value) (now : Int) (vl : Value) (l : List B) (ti : Int) (tt : ByteArray) (e : Int) (s : ByteArray) (en : Ending) (w' : World) : Prop :=
 ∃ (b : B) (v2 v3 : Value) (er : Int), Took w g q vp now vl l b v2 v3 ti tt (upE e er) en w' ∧ (er = 0 → b ∈ l ∧ b.f0 = s) ∧ (er ≠ 0 → b = zB ∧ ∀ x ∈ l, x.f0 ≠ s)
set_option maxRecDepth 100000 in
set_option maxHeartbeats 1600000 in
theorem open_any (w : World) (g : Nat) (q : Q) (vp : Value) (now : Int) (vl : Value) (l : List B) (b : B) (v2 v3 : Value) (ti : Int) (tt : ByteArray) (e : Int) (h : CAt w g q vp now vl l b v2 v3 ti tt e) (hd : DepOk now l) (s : ByteArray) :
  Calls Tryz.prog 29 #[.pointer (some ⟨g, 0, none⟩), .string s] w (Opened w g q vp now vl l ti tt e s) := by
 obtain ⟨A, c, rfl⟩ := Kd.V_slice h.rl
 have hu := Tryz.underlying40
 have hud := Tryz.underlying25
 have H := Aside0.mk h
 have HD := Aside0.mk hd
 have hz := fun j => blk_cell h.blk j
 clear h hd
 go_enter Tryz.func29, Tryz.ntmps29
 go_wp2_with fail
 refine (find_any now w _ _ l s HD.out H.out.rl).mono ?_
 rintro en w1 ⟨b', u2, u3, er, rfl, hs, h1, h2, hb1⟩
 obtain ⟨A2, c2, rfl⟩ := Kd.V_slice hs.r2
 obtain ⟨A3, c3, rfl⟩ := Kd.V_slice hs.r3
 have hba := below_alloc hb1 (.cells #[.string b'.f0, .int .i64 b'.f1, .slice A2 b'.f2.length c2, .slice A3 b'.f3.length c3, .int .u64 b'.f4] 40)
 have H1 := Aside0.mk (H.out.below hba)
 have HG := Aside0.mk (grown_of_below hba (some g))
 have HS := Aside0.mk (hs.below (below_alloc (Below.refl w1.heap.size w1) (.cells #[.string b'.f0, .int .i64 b'.f1, .slice A2 b'.f2.length c2, .slice A3 b'.f3.length c3, .int .u64 b'.f4] 40)))
 have HE := Aside0.mk (And.intro h1 h2)
 have hz2 := fun j => blk_cell H1.out.blk j
 have hf := fun j => blk_frozen H1.out.blk j
 have hz0 := fun j => blk_cell (blk_new w1 (.cells #[.string b'.f0, .int .i64 b'.f1, .slice A2 b'.f2.length c2, .slice A3 b'.f3.length c3, .int .u64 b'.f4] 40)) j
 clear hs h1 h2 hb1 hba hz
 go_wp2_with fail
 refine (no_any _ g q vp now _ l b' _ _ ti tt e (H1.out.setB HS.out) er).mono ?_
 rintro en w2 ⟨rfl, hC, hg⟩
 have HC := Aside0.mk (And.intro hC (grown_then (grown_then HG.out (setB_grown _ _ _ _ _ _ _) (.inr rfl)) hg (.inr rfl)))
 clear hC hg
 go_wp2_with fail
 (first | go_end0 | ((try simp only [Exit.inBlock, Exit.then]); refine bodyPost_ret (results_none rfl _ _ _) rfl ?_))
 exact ⟨b', _, _, er, ⟨rfl, HC.out.1, HC.out.2⟩, HE.out.1, HE.out.2⟩
end Go.Proofs.YtpccbmechgkogaaGreatDoor.Clk
