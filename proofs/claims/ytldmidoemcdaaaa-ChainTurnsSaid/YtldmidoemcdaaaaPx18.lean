/- Printed by a program of this session (wip/tools/gprint.py, over the kit's print) out of the translation: functions and their contracts. -/
import Derived.Test.YtldmidoemcdaaaaPx0
import Derived.Test.YtldmidoemcdaaaaPx2
import Derived.Test.YtldmidoemcdaaaaPx3
import Derived.Test.YtldmidoemcdaaaaPx6
import Derived.Test.YtldmidoemcdaaaaPx9
import Derived.Test.YtldmidoemcdaaaaPx11
import Derived.Test.YtldmidoemcdaaaaPx16
import Derived.Test.YtldmidoemcdaaaaPxOpens
namespace Go.Proofs.Ytldmidoemcdaaaa.P
open Go.RowKit Go.Proofs.YtldmidoemcdaaaaW.PrintWords Go.Proofs.YtldmidoemcdaaaaW.PrintLast Go.Proofs.YtldmidoemcdaaaaW.PrintMore
attribute [local go_sem] max2_int min2_int max_two min_two max_three min_three max_four min_four   -- for this text's walks alone
set_option linter.unusedVariables false
set_option linter.unusedSimpArgs false

/-! ### cellarerlaw05_ChainTurns: function 8 -/
mutual
def cellarerlaw05_ChainTurns.j0 : Nat → List (S25) → Int → Int → List (S25) → Int → List (S25) → Bool → Int → ByteArray → Bool → Int → Option (Bool)
  | 0, _, _, _, _, _, _, _, _, _, _, _ => none
  | k + 1, x3, x4, x5, x7, x8, x9, x53, x340000, x340001, x340002, x340003 => if x53 = true then ((chain_Drop.f k x7 x5).bind fun bt348 => ((chain_Drop.f k x9 x4).bind fun bt352 => (if bt348.2 = 0 then (if bt352.2 = 0 then ((cellarerref05_Same.f k bt348.1 bt352.1).bind fun t356 => (cellarerlaw05_ChainTurns.j1 k x3 x4 x7 x8 (!t356) x340000 x340001 x340002 x340003)) else (cellarerlaw05_ChainTurns.j1 k x3 x4 x7 x8 true x340000 x340001 x340002 x340003)) else (cellarerlaw05_ChainTurns.j1 k x3 x4 x7 x8 true x340000 x340001 x340002 x340003)))) else (cellarerlaw05_ChainTurns.j2 k x3 x4 x7 x8 x340000 x340001 x340002 x340003)
def cellarerlaw05_ChainTurns.j2 : Nat → List (S25) → Int → List (S25) → Int → Int → ByteArray → Bool → Int → Option (Bool)
  | 0, _, _, _, _, _, _, _, _ => none
  | k + 1, x3, x4, x7, x8, x340000, x340001, x340002, x340003 => (chain_Find.f k x7 x4).bind fun bt357 => (if x8 = 0 then (cellarerlaw05_ChainTurns.j3 k x3 (bt357.2.2.2.2 != 4) x340000 x340001 x340002 x340003) else (cellarerlaw05_ChainTurns.j3 k x3 false x340000 x340001 x340002 x340003))
def cellarerlaw05_ChainTurns.j3 : Nat → List (S25) → Bool → Int → ByteArray → Bool → Int → Option (Bool)
  | 0, _, _, _, _, _, _ => none
  | k + 1, x3, x89, x340000, x340001, x340002, x340003 => if x89 = true then (some false) else ((chain_Put.f x3 1 x340000 x340001 x340002 x340003).bind fun bt363 => (if bt363.2 = 0 then ((chain_Drop.f k bt363.1 x340000).bind fun bt368 => ((cellarerref05_Same.f k bt368.1 x3).bind fun t372 => (if t372 = true then (if bt368.2 = 0 then ((cellarerlaw05_awake.f).bind fun t373 => (some t373)) else (some false)) else (some false)))) else ((cellarerlaw05_awake.f).bind fun t367 => (some t367))))
def cellarerlaw05_ChainTurns.j1 : Nat → List (S25) → Int → List (S25) → Int → Bool → Int → ByteArray → Bool → Int → Option (Bool)
  | 0, _, _, _, _, _, _, _, _, _ => none
  | k + 1, x3, x4, x7, x8, x77, x340000, x340001, x340002, x340003 => if x77 = true then (some false) else (cellarerlaw05_ChainTurns.j2 k x3 x4 x7 x8 x340000 x340001 x340002 x340003)
end
def cellarerlaw05_ChainTurns.f (k : Nat) (l0_0 : List (S25)) (a0_1 : Int) (a0_2 : Int) (a0_3 : Int) (a0_4 : ByteArray) (a0_5 : Bool) (a0_6 : Int) : Option (Bool) := (cellarerlaw05_Few.f k l0_0).bind fun t332 => ((cellarerlaw05_One.f a0_3 a0_4 a0_5 a0_6).bind fun bt335 => ((chain_Drop.f k t332 a0_1).bind fun bt340 => ((chain_Drop.f k t332 a0_2).bind fun bt344 => (if bt340.2 = 0 then (if bt344.2 = 0 then (cellarerlaw05_ChainTurns.j0 k t332 a0_1 a0_2 bt340.1 bt340.2 bt344.1 (a0_1 != a0_2) bt335.1 bt335.2.1 bt335.2.2.1 bt335.2.2.2) else (cellarerlaw05_ChainTurns.j0 k t332 a0_1 a0_2 bt340.1 bt340.2 bt344.1 false bt335.1 bt335.2.1 bt335.2.2.1 bt335.2.2.2)) else (cellarerlaw05_ChainTurns.j0 k t332 a0_1 a0_2 bt340.1 bt340.2 bt344.1 false bt335.1 bt335.2.1 bt335.2.2.1 bt335.2.2.2)))))
theorem cellarerlaw05_ChainTurns.mono_l : ∀ k, (∀ y0 y1 y2 y3 y4 y5 y6 y7 y8 y9 y10, LeO (cellarerlaw05_ChainTurns.j0 k y0 y1 y2 y3 y4 y5 y6 y7 y8 y9 y10) (cellarerlaw05_ChainTurns.j0 (k + 1) y0 y1 y2 y3 y4 y5 y6 y7 y8 y9 y10)) ∧ (∀ y0 y1 y2 y3 y4 y5 y6 y7, LeO (cellarerlaw05_ChainTurns.j2 k y0 y1 y2 y3 y4 y5 y6 y7) (cellarerlaw05_ChainTurns.j2 (k + 1) y0 y1 y2 y3 y4 y5 y6 y7)) ∧ (∀ y0 y1 y2 y3 y4 y5, LeO (cellarerlaw05_ChainTurns.j3 k y0 y1 y2 y3 y4 y5) (cellarerlaw05_ChainTurns.j3 (k + 1) y0 y1 y2 y3 y4 y5)) ∧ (∀ y0 y1 y2 y3 y4 y5 y6 y7 y8, LeO (cellarerlaw05_ChainTurns.j1 k y0 y1 y2 y3 y4 y5 y6 y7 y8) (cellarerlaw05_ChainTurns.j1 (k + 1) y0 y1 y2 y3 y4 y5 y6 y7 y8))
  | 0 => ⟨fun _ _ _ _ _ _ _ _ _ _ _ r h => by simp [cellarerlaw05_ChainTurns.j0] at h, fun _ _ _ _ _ _ _ _ r h => by simp [cellarerlaw05_ChainTurns.j2] at h, fun _ _ _ _ _ _ r h => by simp [cellarerlaw05_ChainTurns.j3] at h, fun _ _ _ _ _ _ _ _ _ r h => by simp [cellarerlaw05_ChainTurns.j1] at h⟩
  | k + 1 => by
    obtain ⟨ih0, ih1, ih2, ih3⟩ := cellarerlaw05_ChainTurns.mono_l k
    refine ⟨?_, ?_, ?_, ?_⟩
    · intro y0 y1 y2 y3 y4 y5 y6 y7 y8 y9 y10
      unfold cellarerlaw05_ChainTurns.j0
      repeat' first
      | (with_reducible exact ih0 _ _ _ _ _ _ _ _ _ _ _)
      | (with_reducible exact ih1 _ _ _ _ _ _ _ _)
      | (with_reducible exact ih2 _ _ _ _ _ _)
      | (with_reducible exact ih3 _ _ _ _ _ _ _ _ _)
      | (with_reducible exact cellarerlaw05_Few.mono _ _)
      | (with_reducible exact cellarerref05_Same.mono _ _ _)
      | (with_reducible exact chain_Drop.mono _ _ _)
      | (with_reducible exact chain_Find.mono _ _ _)
      | (with_reducible exact LeO.refl _)
      | (with_reducible exact LeO.none _)
      | (with_reducible refine LeO.ite ?_ ?_)
      | (with_reducible refine LeO.bind ?_ (fun _ => ?_))
      | exact ih0 _ _ _ _ _ _ _ _ _ _ _
      | exact ih1 _ _ _ _ _ _ _ _
      | exact ih2 _ _ _ _ _ _
      | exact ih3 _ _ _ _ _ _ _ _ _
      | exact cellarerlaw05_Few.mono _ _
      | exact cellarerref05_Same.mono _ _ _
      | exact chain_Drop.mono _ _ _
      | exact chain_Find.mono _ _ _
      | exact LeO.none _
      | refine LeO.ite ?_ ?_
      | refine LeO.bind ?_ (fun _ => ?_)
    · intro y0 y1 y2 y3 y4 y5 y6 y7
      unfold cellarerlaw05_ChainTurns.j2
      repeat' first
      | (with_reducible exact ih0 _ _ _ _ _ _ _ _ _ _ _)
      | (with_reducible exact ih1 _ _ _ _ _ _ _ _)
      | (with_reducible exact ih2 _ _ _ _ _ _)
      | (with_reducible exact ih3 _ _ _ _ _ _ _ _ _)
      | (with_reducible exact cellarerlaw05_Few.mono _ _)
      | (with_reducible exact cellarerref05_Same.mono _ _ _)
      | (with_reducible exact chain_Drop.mono _ _ _)
      | (with_reducible exact chain_Find.mono _ _ _)
      | (with_reducible exact LeO.refl _)
      | (with_reducible exact LeO.none _)
      | (with_reducible refine LeO.ite ?_ ?_)
      | (with_reducible refine LeO.bind ?_ (fun _ => ?_))
      | exact ih0 _ _ _ _ _ _ _ _ _ _ _
      | exact ih1 _ _ _ _ _ _ _ _
      | exact ih2 _ _ _ _ _ _
      | exact ih3 _ _ _ _ _ _ _ _ _
      | exact cellarerlaw05_Few.mono _ _
      | exact cellarerref05_Same.mono _ _ _
      | exact chain_Drop.mono _ _ _
      | exact chain_Find.mono _ _ _
      | exact LeO.none _
      | refine LeO.ite ?_ ?_
      | refine LeO.bind ?_ (fun _ => ?_)
    · intro y0 y1 y2 y3 y4 y5
      unfold cellarerlaw05_ChainTurns.j3
      repeat' first
      | (with_reducible exact ih0 _ _ _ _ _ _ _ _ _ _ _)
      | (with_reducible exact ih1 _ _ _ _ _ _ _ _)
      | (with_reducible exact ih2 _ _ _ _ _ _)
      | (with_reducible exact ih3 _ _ _ _ _ _ _ _ _)
      | (with_reducible exact cellarerlaw05_Few.mono _ _)
      | (with_reducible exact cellarerref05_Same.mono _ _ _)
      | (with_reducible exact chain_Drop.mono _ _ _)
      | (with_reducible exact chain_Find.mono _ _ _)
      | (with_reducible exact LeO.refl _)
      | (with_reducible exact LeO.none _)
      | (with_reducible refine LeO.ite ?_ ?_)
      | (with_reducible refine LeO.bind ?_ (fun _ => ?_))
      | exact ih0 _ _ _ _ _ _ _ _ _ _ _
      | exact ih1 _ _ _ _ _ _ _ _
      | exact ih2 _ _ _ _ _ _
      | exact ih3 _ _ _ _ _ _ _ _ _
      | exact cellarerlaw05_Few.mono _ _
      | exact cellarerref05_Same.mono _ _ _
      | exact chain_Drop.mono _ _ _
      | exact chain_Find.mono _ _ _
      | exact LeO.none _
      | refine LeO.ite ?_ ?_
      | refine LeO.bind ?_ (fun _ => ?_)
    · intro y0 y1 y2 y3 y4 y5 y6 y7 y8
      unfold cellarerlaw05_ChainTurns.j1
      repeat' first
      | (with_reducible exact ih0 _ _ _ _ _ _ _ _ _ _ _)
      | (with_reducible exact ih1 _ _ _ _ _ _ _ _)
      | (with_reducible exact ih2 _ _ _ _ _ _)
      | (with_reducible exact ih3 _ _ _ _ _ _ _ _ _)
      | (with_reducible exact cellarerlaw05_Few.mono _ _)
      | (with_reducible exact cellarerref05_Same.mono _ _ _)
      | (with_reducible exact chain_Drop.mono _ _ _)
      | (with_reducible exact chain_Find.mono _ _ _)
      | (with_reducible exact LeO.refl _)
      | (with_reducible exact LeO.none _)
      | (with_reducible refine LeO.ite ?_ ?_)
      | (with_reducible refine LeO.bind ?_ (fun _ => ?_))
      | exact ih0 _ _ _ _ _ _ _ _ _ _ _
      | exact ih1 _ _ _ _ _ _ _ _
      | exact ih2 _ _ _ _ _ _
      | exact ih3 _ _ _ _ _ _ _ _ _
      | exact cellarerlaw05_Few.mono _ _
      | exact cellarerref05_Same.mono _ _ _
      | exact chain_Drop.mono _ _ _
      | exact chain_Find.mono _ _ _
      | exact LeO.none _
      | refine LeO.ite ?_ ?_
      | refine LeO.bind ?_ (fun _ => ?_)
theorem cellarerlaw05_ChainTurns.mono : ∀ a0 a1 a2 a3 a4 a5 a6 k, LeO (cellarerlaw05_ChainTurns.f k a0 a1 a2 a3 a4 a5 a6) (cellarerlaw05_ChainTurns.f (k + 1) a0 a1 a2 a3 a4 a5 a6) := by
  intro a0 a1 a2 a3 a4 a5 a6 k
  obtain ⟨ih0, ih1, ih2, ih3⟩ := cellarerlaw05_ChainTurns.mono_l k
  unfold cellarerlaw05_ChainTurns.f
  repeat' first
      | (with_reducible exact ih0 _ _ _ _ _ _ _ _ _ _ _)
      | (with_reducible exact ih1 _ _ _ _ _ _ _ _)
      | (with_reducible exact ih2 _ _ _ _ _ _)
      | (with_reducible exact ih3 _ _ _ _ _ _ _ _ _)
      | (with_reducible exact cellarerlaw05_Few.mono _ _)
      | (with_reducible exact cellarerref05_Same.mono _ _ _)
      | (with_reducible exact chain_Drop.mono _ _ _)
      | (with_reducible exact chain_Find.mono _ _ _)
      | (with_reducible exact LeO.refl _)
      | (with_reducible exact LeO.none _)
      | (with_reducible refine LeO.ite ?_ ?_)
      | (with_reducible refine LeO.bind ?_ (fun _ => ?_))
      | exact ih0 _ _ _ _ _ _ _ _ _ _ _
      | exact ih1 _ _ _ _ _ _ _ _
      | exact ih2 _ _ _ _ _ _
      | exact ih3 _ _ _ _ _ _ _ _ _
      | exact cellarerlaw05_Few.mono _ _
      | exact cellarerref05_Same.mono _ _ _
      | exact chain_Drop.mono _ _ _
      | exact chain_Find.mono _ _ _
      | exact LeO.none _
      | refine LeO.ite ?_ ?_
      | refine LeO.bind ?_ (fun _ => ?_)
def cellarerlaw05_ChainTurns.T1 : Bool × List (List Nat × List Nat) := (true, [([], []), ([0], [0]), ([1], [1]), ([], []), ([3], [3]), ([], []), ([5], [5]), ([], []), ([7], [7]), ([8, 2], [8]), ([], []), ([2, 9, 0, 1, 2, 10], [2]), ([4, 11, 0, 1, 2, 3, 4, 10, 11], [4]), ([6, 12, 0, 1, 2, 3, 4, 5, 6, 10, 11, 12], [6]), ([10, 9, 13, 0, 1, 2, 3, 4, 5, 6, 7, 8, 9, 10, 11, 12, 13], [9, 10])])
def cellarerlaw05_ChainTurns.B1 : List Nat := [0, 1, 3, 0, 8, 0, 32, 0, 128, 391, 0, 1927, 3999, 8191, 16383]
theorem cellarerlaw05_ChainTurns.tab1 : rtab .any (opsOf Try.f8 1) = cellarerlaw05_ChainTurns.T1 := by kernel_rfl
theorem cellarerlaw05_ChainTurns.bits1 : waitsOk cellarerlaw05_ChainTurns.T1.2 cellarerlaw05_ChainTurns.B1 = true := by kernel_rfl
def cellarerlaw05_ChainTurns.bs (n m : Nat) : Array Bool := ((List.range n).map fun i => m.testBit i).toArray
set_option maxHeartbeats 8000000 in
set_option maxRecDepth 100000 in
theorem cellarerlaw05_ChainTurns.calls (k : Nat) (A0_0 : Option Addr) (c0_0 : Nat) (l0_0 : List (S25)) (a0_1 : Int) (a0_2 : Int) (a0_3 : Int) (a0_4 : ByteArray) (a0_5 : Bool) (a0_6 : Int) (r : Bool) (w : World) (hr0_0 : Kd.C k25 w A0_0 l0_0.length l0_0) (hc0_0 : l0_0.length ≤ c0_0) (h : cellarerlaw05_ChainTurns.f k l0_0 a0_1 a0_2 a0_3 a0_4 a0_5 a0_6 = some r) :
  Calls Try.prog 8 #[.agg #[.slice A0_0 l0_0.length c0_0, .int .u64 a0_1, .int .u64 a0_2, .int .u64 a0_3, .string a0_4, .bool a0_5, .int .i64 a0_6]] w fun e w' => e = .returned (.bool r) ∧ Below w.heap.size w w' := by
 have hu56 := Try.underlying56
 have hu25 := Try.underlying25
 have HR0_0 := Aside0.mk hr0_0
 have HC0_0 := Aside0.mk hc0_0
 clear hr0_0 hc0_0
 have HB := Aside0.mk (Below.refl w.heap.size w)
 have H : ((cellarerlaw05_Few.f k l0_0).bind fun t332 => ((cellarerlaw05_One.f a0_3 a0_4 a0_5 a0_6).bind fun bt335 => ((chain_Drop.f k t332 a0_1).bind fun bt340 => ((chain_Drop.f k t332 a0_2).bind fun bt344 => (if bt340.2 = 0 then (if bt344.2 = 0 then (cellarerlaw05_ChainTurns.j0 k t332 a0_1 a0_2 bt340.1 bt340.2 bt344.1 (a0_1 != a0_2) bt335.1 bt335.2.1 bt335.2.2.1 bt335.2.2.2) else (cellarerlaw05_ChainTurns.j0 k t332 a0_1 a0_2 bt340.1 bt340.2 bt344.1 false bt335.1 bt335.2.1 bt335.2.2.1 bt335.2.2.2)) else (cellarerlaw05_ChainTurns.j0 k t332 a0_1 a0_2 bt340.1 bt340.2 bt344.1 false bt335.1 bt335.2.1 bt335.2.2.1 bt335.2.2.2)))))) = some r := h
 clear h
 replace H := Option.bind_eq_some_iff.mp H
 obtain ⟨t332, A20, H⟩ := H
 replace H : ((cellarerlaw05_One.f a0_3 a0_4 a0_5 a0_6).bind fun bt335 => ((chain_Drop.f k t332 a0_1).bind fun bt340 => ((chain_Drop.f k t332 a0_2).bind fun bt344 => (if bt340.2 = 0 then (if bt344.2 = 0 then (cellarerlaw05_ChainTurns.j0 k t332 a0_1 a0_2 bt340.1 bt340.2 bt344.1 (a0_1 != a0_2) bt335.1 bt335.2.1 bt335.2.2.1 bt335.2.2.2) else (cellarerlaw05_ChainTurns.j0 k t332 a0_1 a0_2 bt340.1 bt340.2 bt344.1 false bt335.1 bt335.2.1 bt335.2.2.1 bt335.2.2.2)) else (cellarerlaw05_ChainTurns.j0 k t332 a0_1 a0_2 bt340.1 bt340.2 bt344.1 false bt335.1 bt335.2.1 bt335.2.2.1 bt335.2.2.2))))) = some r := H
 have A2 := Aside0.mk A20
 clear A20
 replace H := Option.bind_eq_some_iff.mp H
 obtain ⟨⟨t335, t336, t337, t338⟩, A30, H⟩ := H
 replace H : ((chain_Drop.f k t332 a0_1).bind fun bt340 => ((chain_Drop.f k t332 a0_2).bind fun bt344 => (if bt340.2 = 0 then (if bt344.2 = 0 then (cellarerlaw05_ChainTurns.j0 k t332 a0_1 a0_2 bt340.1 bt340.2 bt344.1 (a0_1 != a0_2) t335 t336 t337 t338) else (cellarerlaw05_ChainTurns.j0 k t332 a0_1 a0_2 bt340.1 bt340.2 bt344.1 false t335 t336 t337 t338)) else (cellarerlaw05_ChainTurns.j0 k t332 a0_1 a0_2 bt340.1 bt340.2 bt344.1 false t335 t336 t337 t338)))) = some r := H
 have A3 := Aside0.mk A30
 clear A30
 replace H := Option.bind_eq_some_iff.mp H
 obtain ⟨⟨t340, t341⟩, A40, H⟩ := H
 replace H : ((chain_Drop.f k t332 a0_2).bind fun bt344 => (if t341 = 0 then (if bt344.2 = 0 then (cellarerlaw05_ChainTurns.j0 k t332 a0_1 a0_2 t340 t341 bt344.1 (a0_1 != a0_2) t335 t336 t337 t338) else (cellarerlaw05_ChainTurns.j0 k t332 a0_1 a0_2 t340 t341 bt344.1 false t335 t336 t337 t338)) else (cellarerlaw05_ChainTurns.j0 k t332 a0_1 a0_2 t340 t341 bt344.1 false t335 t336 t337 t338))) = some r := H
 have A4 := Aside0.mk A40
 clear A40
 replace H := Option.bind_eq_some_iff.mp H
 obtain ⟨⟨t344, t345⟩, A50, H⟩ := H
 replace H : (if t341 = 0 then (if t345 = 0 then (cellarerlaw05_ChainTurns.j0 k t332 a0_1 a0_2 t340 t341 t344 (a0_1 != a0_2) t335 t336 t337 t338) else (cellarerlaw05_ChainTurns.j0 k t332 a0_1 a0_2 t340 t341 t344 false t335 t336 t337 t338)) else (cellarerlaw05_ChainTurns.j0 k t332 a0_1 a0_2 t340 t341 t344 false t335 t336 t337 t338)) = some r := H
 have A5 := Aside0.mk A50
 clear A50
 have HC6 := Aside0.mk H
 clear H
 go_enter Try.func8, Try.ntmps8
 try go_wp2_with (first | ((with_reducible refine gate_dst (N := 1) rfl ?_); refine box_event ?hg (N := 1) ?hd (cs := #[.slice A0_0 l0_0.length c0_0, .int .u64 a0_1, .int .u64 a0_2, .int .u64 a0_3, .string a0_4, .bool a0_5, .int .i64 a0_6]) (t := 56) ?hr ?_; (case hd => rfl); (case hg => rfl); (case hr => first | (go_simp; done) | (go_simp; rfl)); intro gb331 hg w7 hbox hb; have n0_ := Aside0.mk (below_step (by repeat (first | (with_reducible first | exact HB.out | apply below_alloc | apply pw_below_drewN | apply below_drew1) | exact HB.out)) hb); have n1_ := Aside0.mk (hbox); have n2_ := Aside0.mk ((by rw [hg]; exact (below_size (by repeat (first | (with_reducible first | exact HB.out | apply below_alloc | apply pw_below_drewN | apply below_drew1) | exact HB.out))) : w.heap.size ≤ gb331)); have n3_ := Aside0.mk ((by rw [hg]; exact (below_size (by repeat (first | (with_reducible first | exact HB.out | apply below_alloc | apply pw_below_drewN | apply below_drew1) | exact HB.out))) : w.heap.size ≤ gb331)); clear HB; have HB := n0_; have BK331 := n1_; have GW331 := n2_; have GE331 := n3_; clear n0_ n1_ n2_ n3_; clear hb hbox hg))
 have n0_ := Aside0.mk (blk_drew BK331.out)
 have n1_ := Aside0.mk (below_drew1 HB.out)
 clear BK331
 clear HB
 have BK331 := n0_
 have HB := n1_
 clear n0_ n1_
 refine start_ (n := 15) (S := fun w' => w'.cell? ⟨gb331, 0, none⟩ = some (.slice A0_0 l0_0.length c0_0) ∧ w'.cell? ⟨gb331, 1, none⟩ = some (.int .u64 a0_1) ∧ w'.cell? ⟨gb331, 2, none⟩ = some (.int .u64 a0_2) ∧ w'.cell? ⟨gb331, 3, none⟩ = some (.int .u64 a0_3) ∧ w'.cell? ⟨gb331, 4, none⟩ = some (.string a0_4) ∧ w'.cell? ⟨gb331, 5, none⟩ = some (.bool a0_5) ∧ w'.cell? ⟨gb331, 6, none⟩ = some (.int .i64 a0_6)) (ds := []) #[false, false, false, false, false, false, false, false, false, false, false, false, false, false, false] (by kernel_rfl) rfl rfl ⟨(blk_cell BK331.out 0).trans rfl, (blk_cell BK331.out 1).trans rfl, (blk_cell BK331.out 2).trans rfl, (blk_cell BK331.out 3).trans rfl, (blk_cell BK331.out 4).trans rfl, (blk_cell BK331.out 5).trans rfl, (blk_cell BK331.out 6).trans rfl⟩ (fun hHeld => ?_); refine with_tabW cellarerlaw05_ChainTurns.tab1 cellarerlaw05_ChainTurns.bits1 (fun HT_ HW_ => ?_)
 generalize w7.drew = w8 at BK331 HB hHeld ⊢
 refine pure_ (i := 0) (N := some 21) (v := ?_) (a' := ?_) (cellarerlaw05_ChainTurns.bs 15 1) rfl rfl (any_of HT_.out (by kernel_rfl)) (fun _ _ _ h => h) (Or.inl ⟨by rfl, ?_⟩) ?_ ?_
 rotate_left
 ·intro w'
  go_simp
  with_reducible rfl
 rotate_left
 ·simp only [Act.put, List.setIfInBounds_toArray, List.set_cons_zero, List.set_cons_succ, i64_w, i32_w]
  rfl
 refine pure_ (i := 3) (N := some 24) (v := ?_) (a' := ?_) (cellarerlaw05_ChainTurns.bs 15 9) rfl rfl (any_of HT_.out (by kernel_rfl)) (fun _ _ _ h => h) (Or.inl ⟨by rfl, ?_⟩) ?_ ?_
 rotate_left
 ·intro w'
  go_simp
  with_reducible rfl
 rotate_left
 ·simp only [Act.put, List.setIfInBounds_toArray, List.set_cons_zero, List.set_cons_succ, i64_w, i32_w]
  rfl
 refine pure_ (i := 5) (N := some 26) (v := ?_) (a' := ?_) (cellarerlaw05_ChainTurns.bs 15 41) rfl rfl (any_of HT_.out (by kernel_rfl)) (fun _ _ _ h => h) (Or.inl ⟨by rfl, ?_⟩) ?_ ?_
 rotate_left
 ·intro w'
  go_simp
  with_reducible rfl
 rotate_left
 ·simp only [Act.put, List.setIfInBounds_toArray, List.set_cons_zero, List.set_cons_succ, i64_w, i32_w]
  rfl
 refine pure_ (i := 7) (N := some 28) (v := ?_) (a' := ?_) (cellarerlaw05_ChainTurns.bs 15 169) rfl rfl (any_of HT_.out (by kernel_rfl)) (fun _ _ _ h => h) (Or.inl ⟨by rfl, ?_⟩) ?_ ?_
 rotate_left
 ·intro w'
  go_simp
  with_reducible rfl
 rotate_left
 ·simp only [Act.put, List.setIfInBounds_toArray, List.set_cons_zero, List.set_cons_succ, i64_w, i32_w]
  rfl
 refine take_ (i := 1) (N := some 22) (v := ?_) (a' := ?_) (cellarerlaw05_ChainTurns.bs 15 171) rfl rfl (take_ofW HT_.out HW_.out (by kernel_rfl)) (fun _ _ _ h => h) (Or.inl ⟨by rfl, ?_⟩) hHeld ?_ ?_
 rotate_left
 ·rintro w' ⟨s0, s1, s2, s3, s4, s5, s6⟩
  go_simp
  with_reducible rfl
 rotate_left
 ·simp only [Act.put, List.setIfInBounds_toArray, List.set_cons_zero, List.set_cons_succ, i64_w, i32_w]
  rfl
 refine take_ (i := 4) (N := some 25) (v := ?_) (a' := ?_) (cellarerlaw05_ChainTurns.bs 15 187) rfl rfl (take_ofW HT_.out HW_.out (by kernel_rfl)) (fun _ _ _ h => h) (Or.inl ⟨by rfl, ?_⟩) hHeld ?_ ?_
 rotate_left
 ·rintro w' ⟨s0, s1, s2, s3, s4, s5, s6⟩
  go_simp
  with_reducible rfl
 rotate_left
 ·simp only [Act.put, List.setIfInBounds_toArray, List.set_cons_zero, List.set_cons_succ, i64_w, i32_w]
  rfl
 refine take_ (i := 6) (N := some 27) (v := ?_) (a' := ?_) (cellarerlaw05_ChainTurns.bs 15 251) rfl rfl (take_ofW HT_.out HW_.out (by kernel_rfl)) (fun _ _ _ h => h) (Or.inl ⟨by rfl, ?_⟩) hHeld ?_ ?_
 rotate_left
 ·rintro w' ⟨s0, s1, s2, s3, s4, s5, s6⟩
  go_simp
  with_reducible rfl
 rotate_left
 ·simp only [Act.put, List.setIfInBounds_toArray, List.set_cons_zero, List.set_cons_succ, i64_w, i32_w]
  rfl
 refine take_ (i := 8) (N := some 29) (v := ?_) (a' := ?_) (cellarerlaw05_ChainTurns.bs 15 507) rfl rfl (take_ofW HT_.out HW_.out (by kernel_rfl)) (fun _ _ _ h => h) (Or.inl ⟨by rfl, ?_⟩) hHeld ?_ ?_
 rotate_left
 ·rintro w' ⟨s0, s1, s2, s3, s4, s5, s6⟩
  go_simp
  with_reducible rfl
 rotate_left
 ·simp only [Act.put, List.setIfInBounds_toArray, List.set_cons_zero, List.set_cons_succ, i64_w, i32_w]
  rfl
 refine join_ (σ := Value × Nat) 4 #[true, true, true, true, true, true, true, true, true, true, true, false, false, false, false] (fun s_ => [(23, s_.1), (30, .agg #[.int .u64 t335, .string t336, .bool t337, .int .i64 t338]), (6, .pointer (some ⟨s_.2, 0, none⟩))]) (fun s_ w' => (w'.cell? ⟨gb331, 0, none⟩ = some (.slice A0_0 l0_0.length c0_0) ∧ w'.cell? ⟨gb331, 1, none⟩ = some (.int .u64 a0_1) ∧ w'.cell? ⟨gb331, 2, none⟩ = some (.int .u64 a0_2) ∧ w'.cell? ⟨gb331, 3, none⟩ = some (.int .u64 a0_3) ∧ w'.cell? ⟨gb331, 4, none⟩ = some (.string a0_4) ∧ w'.cell? ⟨gb331, 5, none⟩ = some (.bool a0_5) ∧ w'.cell? ⟨gb331, 6, none⟩ = some (.int .i64 a0_6)) ∧ (Kd.R k25 25 w' w.heap.size (fun k_ => k_ ≠ s_.2) s_.1 t332) ∧ (w'.heap[gb331]? = some (.cells #[.slice A0_0 l0_0.length c0_0, .int .u64 a0_1, .int .u64 a0_2, .int .u64 a0_3, .string a0_4, .bool a0_5, .int .i64 a0_6] 56 (0, 0))) ∧ (w'.heap[s_.2]? = some (.cells #[.int .u64 0, .string (⟨#[]⟩ : ByteArray), .bool false, .int .i64 0] 25 (0, 0))) ∧ (w.heap.size ≤ s_.2) ∧ (w.heap.size ≤ s_.2) ∧ (gb331 ≠ s_.2) ∧ (s_.2 ≠ gb331) ∧ (Below w.heap.size w w')) ?_ ?_
 rotate_left
 ·intro hCont
  refine two_ (i := 2) (j := 10) (Ni := some 23) (Nj := some 6) (cellarerlaw05_ChainTurns.bs 15 511) (cellarerlaw05_ChainTurns.bs 15 1531) rfl rfl rfl rfl (two_of HT_.out (by kernel_rfl)) (by decide) (by decide) (fun K hK => ?_) (fun K hK => ?_)
  ·skip
   refine goes_ Try.func10 (by kernel_rfl) rfl #[.slice A0_0 l0_0.length c0_0] (by rfl) rfl rfl (by (try simp only [List.map_toArray, List.map_cons, List.map_nil]); first | done | rfl | (simp only [List.length_drop, List.length_take]; rfl)) ?_
   with_reducible refine (cellarerlaw05_Few.calls k _ _ l0_0 t332 _ ?side1 ?side2 A2.out).mono ?_
   (case side1 => repeat (first | exact (Kd.C_below HR0_0.out HB.out) | (with_reducible refine Kd.C_alloc ?_ _) | (with_reducible refine Kd.C_drewN ?_ _) | (with_reducible refine Kd.C_drew ?_)))
   (case side2 => exact HC0_0.out)
   rintro e w9 ⟨v333, rfl, ho0, hb⟩
   refine ⟨_, rfl, ?_⟩
   have n0_ := Aside0.mk (Kd.R_lower ho0 (below_size (by repeat (first | (with_reducible first | exact HB.out | apply below_alloc | apply pw_below_drewN | apply below_drew1 | refine below_set ?_ GE331.out) | exact HB.out))))
   have n1_ := Aside0.mk (blk_below (g := gb331) (o := .cells #[.slice A0_0 l0_0.length c0_0, .int .u64 a0_1, .int .u64 a0_2, .int .u64 a0_3, .string a0_4, .bool a0_5, .int .i64 a0_6] 56 (0, 0)) (by (with_reducible repeat (first | refine blk_drewN ?_ _ | refine blk_drew ?_ | refine blk_alloc ?_ _)); exact BK331.out) hb)
   have n2_ := Aside0.mk (below_step (by repeat (first | (with_reducible first | exact HB.out | apply below_alloc | apply pw_below_drewN | apply below_drew1 | refine below_set ?_ GE331.out) | exact HB.out)) hb)
   clear BK331
   clear HB
   have HO334 := n0_
   have BK331 := n1_
   have HB := n2_
   clear n0_ n1_ n2_
   (try clear hb)
   (try clear hb2)
   (try clear hk)
   (try clear hi)
   (try clear ho0)
   refine hK.out _ _ ⟨(blk_cell BK331.out 0).trans rfl, (blk_cell BK331.out 1).trans rfl, (blk_cell BK331.out 2).trans rfl, (blk_cell BK331.out 3).trans rfl, (blk_cell BK331.out 4).trans rfl, (blk_cell BK331.out 5).trans rfl, (blk_cell BK331.out 6).trans rfl⟩ (fun hHeld => ?_)
   clear hK K
   refine norm_ (a' := ?_) ?_ ?_
   rotate_left
   ·show Act.put _ (some 23) _ = _
    simp only [Act.put, List.setIfInBounds_toArray, List.set_cons_zero, List.set_cons_succ, i64_w, i32_w]
    rfl
   refine two_ (i := 9) (j := 10) (Ni := some 30) (Nj := some 6) (cellarerlaw05_ChainTurns.bs 15 1023) (cellarerlaw05_ChainTurns.bs 15 1535) rfl rfl rfl rfl (two_of HT_.out (by kernel_rfl)) (by decide) (by decide) (fun K hK => ?_) (fun K hK => ?_)
   ·skip
    refine goes_ Try.func11 (by kernel_rfl) rfl #[.agg #[.int .u64 a0_3, .string a0_4, .bool a0_5, .int .i64 a0_6]] (by rfl) rfl rfl (by (try simp only [List.map_toArray, List.map_cons, List.map_nil]); first | done | rfl | (simp only [List.length_drop, List.length_take]; rfl)) ?_
    with_reducible refine (cellarerlaw05_One.calls a0_3 a0_4 a0_5 a0_6 t335 t336 t337 t338 _ A3.out).mono ?_
    rintro e w10 ⟨rfl, hb⟩
    refine ⟨_, rfl, ?_⟩
    have n0_ := Aside0.mk (Kd.R_below (by (with_reducible repeat (first | apply Kd.R_alloc | apply Kd.R_drewN | apply Kd.R_drew)); exact HO334.out) hb)
    have n1_ := Aside0.mk (blk_below (g := gb331) (o := .cells #[.slice A0_0 l0_0.length c0_0, .int .u64 a0_1, .int .u64 a0_2, .int .u64 a0_3, .string a0_4, .bool a0_5, .int .i64 a0_6] 56 (0, 0)) (by (with_reducible repeat (first | refine blk_drewN ?_ _ | refine blk_drew ?_ | refine blk_alloc ?_ _)); exact BK331.out) hb)
    have n2_ := Aside0.mk (below_step (by repeat (first | (with_reducible first | exact HB.out | apply below_alloc | apply pw_below_drewN | apply below_drew1 | refine below_set ?_ GE331.out) | exact HB.out)) hb)
    clear HO334
    clear BK331
    clear HB
    have HO334 := n0_
    have BK331 := n1_
    have HB := n2_
    clear n0_ n1_ n2_
    (try clear hb)
    (try clear hb2)
    (try clear hk)
    (try clear hi)
    refine hK.out _ _ ⟨(blk_cell BK331.out 0).trans rfl, (blk_cell BK331.out 1).trans rfl, (blk_cell BK331.out 2).trans rfl, (blk_cell BK331.out 3).trans rfl, (blk_cell BK331.out 4).trans rfl, (blk_cell BK331.out 5).trans rfl, (blk_cell BK331.out 6).trans rfl⟩ (fun hHeld => ?_)
    clear hK K
    refine norm_ (a' := ?_) ?_ ?_
    rotate_left
    ·show Act.put _ (some 30) _ = _
     simp only [Act.put, List.setIfInBounds_toArray, List.set_cons_zero, List.set_cons_succ, i64_w, i32_w]
     rfl
    refine one_ (i := 10) (N := some 6) (cellarerlaw05_ChainTurns.bs 15 2047) rfl rfl (one_of HT_.out (by kernel_rfl)) (by decide) (fun K hK => ?_)
    refine box_step ?hg (N := 6) ?hd (cs := #[.int .u64 0, .string (⟨#[]⟩ : ByteArray), .bool false, .int .i64 0]) (t := 25) ?hr ?_; (case hd => rfl); (case hg => rfl); (case hr => first | (go_simp; done) | (go_simp; rfl))
    intro gb339 hg w11 hbox hb
    have n0_ := Aside0.mk (Kd.R_below (Kd.R_elderB (by (with_reducible repeat (first | apply Kd.R_alloc | apply Kd.R_drewN | apply Kd.R_drew)); exact HO334.out) gb339 (Nat.le_of_eq hg.symm)) hb)
    have n1_ := Aside0.mk (blk_below (g := gb331) (o := .cells #[.slice A0_0 l0_0.length c0_0, .int .u64 a0_1, .int .u64 a0_2, .int .u64 a0_3, .string a0_4, .bool a0_5, .int .i64 a0_6] 56 (0, 0)) (by (with_reducible repeat (first | refine blk_drewN ?_ _ | refine blk_drew ?_ | refine blk_alloc ?_ _)); exact BK331.out) hb)
    have n2_ := Aside0.mk (below_step (by repeat (first | (with_reducible first | exact HB.out | apply below_alloc | apply pw_below_drewN | apply below_drew1 | refine below_set ?_ GE331.out) | exact HB.out)) hb)
    have n3_ := Aside0.mk (hbox)
    have n4_ := Aside0.mk ((by rw [hg]; exact (below_size (by repeat (first | (with_reducible first | exact HB.out | apply below_alloc | apply pw_below_drewN | apply below_drew1 | refine below_set ?_ GE331.out) | exact HB.out))) : w.heap.size ≤ gb339))
    have n5_ := Aside0.mk ((by rw [hg]; exact (below_size (by repeat (first | (with_reducible first | exact HB.out | apply below_alloc | apply pw_below_drewN | apply below_drew1 | refine below_set ?_ GE331.out) | exact HB.out))) : w.heap.size ≤ gb339))
    have n6_ := Aside0.mk ((by rw [hg]; exact Nat.ne_of_lt (blk_lt (g := gb331) (o := .cells #[.slice A0_0 l0_0.length c0_0, .int .u64 a0_1, .int .u64 a0_2, .int .u64 a0_3, .string a0_4, .bool a0_5, .int .i64 a0_6] 56 (0, 0)) (by (with_reducible repeat (first | refine blk_drewN ?_ _ | refine blk_drew ?_ | refine blk_alloc ?_ _)); exact BK331.out)) : gb331 ≠ gb339))
    have n7_ := Aside0.mk ((by rw [hg]; exact Nat.ne_of_gt (blk_lt (g := gb331) (o := .cells #[.slice A0_0 l0_0.length c0_0, .int .u64 a0_1, .int .u64 a0_2, .int .u64 a0_3, .string a0_4, .bool a0_5, .int .i64 a0_6] 56 (0, 0)) (by (with_reducible repeat (first | refine blk_drewN ?_ _ | refine blk_drew ?_ | refine blk_alloc ?_ _)); exact BK331.out)) : gb339 ≠ gb331))
    clear HO334
    clear BK331
    clear HB
    have HO334 := n0_
    have BK331 := n1_
    have HB := n2_
    have BK339 := n3_
    have GW339 := n4_
    have GE339 := n5_
    have NB331_339 := n6_
    have NB339_331 := n7_
    clear n0_ n1_ n2_ n3_ n4_ n5_ n6_ n7_
    clear hb hbox hg
    refine hK.out _ _ ⟨(blk_cell BK331.out 0).trans rfl, (blk_cell BK331.out 1).trans rfl, (blk_cell BK331.out 2).trans rfl, (blk_cell BK331.out 3).trans rfl, (blk_cell BK331.out 4).trans rfl, (blk_cell BK331.out 5).trans rfl, (blk_cell BK331.out 6).trans rfl⟩ (fun hHeld => ?_)
    clear hK K
    refine norm_ (a' := ?_) ?_ ?_
    rotate_left
    ·show Act.put _ (some 6) _ = _
     simp only [Act.put, List.setIfInBounds_toArray, List.set_cons_zero, List.set_cons_succ, i64_w, i32_w]
     rfl
    exact norm_ (by simp only [putAll, Act.put, List.setIfInBounds_toArray, List.set_cons_zero, List.set_cons_succ]) (hCont (v333, gb339) _ ⟨hHeld, (by (with_reducible repeat (first | apply Kd.R_alloc | apply Kd.R_drewN | apply Kd.R_drew)); exact Kd.R_mono HO334.out (fun _ hk => hk.2)), (by (with_reducible repeat (first | refine blk_drewN ?_ _ | refine blk_drew ?_ | refine blk_alloc ?_ _)); exact BK331.out), (by (with_reducible repeat (first | refine blk_drewN ?_ _ | refine blk_drew ?_ | refine blk_alloc ?_ _)); exact BK339.out), GW339.out, GE339.out, NB331_339.out, NB339_331.out, (by repeat (first | (with_reducible first | exact HB.out | apply below_alloc | apply pw_below_drewN | apply below_drew1 | refine below_set ?_ GE331.out | refine below_set ?_ GE339.out) | exact HB.out))⟩)
   ·skip
    refine box_step ?hg (N := 6) ?hd (cs := #[.int .u64 0, .string (⟨#[]⟩ : ByteArray), .bool false, .int .i64 0]) (t := 25) ?hr ?_; (case hd => rfl); (case hg => rfl); (case hr => first | (go_simp; done) | (go_simp; rfl))
    intro gb339 hg w10 hbox hb
    have n0_ := Aside0.mk (Kd.R_below (Kd.R_elderB (by (with_reducible repeat (first | apply Kd.R_alloc | apply Kd.R_drewN | apply Kd.R_drew)); exact HO334.out) gb339 (Nat.le_of_eq hg.symm)) hb)
    have n1_ := Aside0.mk (blk_below (g := gb331) (o := .cells #[.slice A0_0 l0_0.length c0_0, .int .u64 a0_1, .int .u64 a0_2, .int .u64 a0_3, .string a0_4, .bool a0_5, .int .i64 a0_6] 56 (0, 0)) (by (with_reducible repeat (first | refine blk_drewN ?_ _ | refine blk_drew ?_ | refine blk_alloc ?_ _)); exact BK331.out) hb)
    have n2_ := Aside0.mk (below_step (by repeat (first | (with_reducible first | exact HB.out | apply below_alloc | apply pw_below_drewN | apply below_drew1 | refine below_set ?_ GE331.out) | exact HB.out)) hb)
    have n3_ := Aside0.mk (hbox)
    have n4_ := Aside0.mk ((by rw [hg]; exact (below_size (by repeat (first | (with_reducible first | exact HB.out | apply below_alloc | apply pw_below_drewN | apply below_drew1 | refine below_set ?_ GE331.out) | exact HB.out))) : w.heap.size ≤ gb339))
    have n5_ := Aside0.mk ((by rw [hg]; exact (below_size (by repeat (first | (with_reducible first | exact HB.out | apply below_alloc | apply pw_below_drewN | apply below_drew1 | refine below_set ?_ GE331.out) | exact HB.out))) : w.heap.size ≤ gb339))
    have n6_ := Aside0.mk ((by rw [hg]; exact Nat.ne_of_lt (blk_lt (g := gb331) (o := .cells #[.slice A0_0 l0_0.length c0_0, .int .u64 a0_1, .int .u64 a0_2, .int .u64 a0_3, .string a0_4, .bool a0_5, .int .i64 a0_6] 56 (0, 0)) (by (with_reducible repeat (first | refine blk_drewN ?_ _ | refine blk_drew ?_ | refine blk_alloc ?_ _)); exact BK331.out)) : gb331 ≠ gb339))
    have n7_ := Aside0.mk ((by rw [hg]; exact Nat.ne_of_gt (blk_lt (g := gb331) (o := .cells #[.slice A0_0 l0_0.length c0_0, .int .u64 a0_1, .int .u64 a0_2, .int .u64 a0_3, .string a0_4, .bool a0_5, .int .i64 a0_6] 56 (0, 0)) (by (with_reducible repeat (first | refine blk_drewN ?_ _ | refine blk_drew ?_ | refine blk_alloc ?_ _)); exact BK331.out)) : gb339 ≠ gb331))
    clear HO334
    clear BK331
    clear HB
    have HO334 := n0_
    have BK331 := n1_
    have HB := n2_
    have BK339 := n3_
    have GW339 := n4_
    have GE339 := n5_
    have NB331_339 := n6_
    have NB339_331 := n7_
    clear n0_ n1_ n2_ n3_ n4_ n5_ n6_ n7_
    clear hb hbox hg
    refine hK.out _ _ ⟨(blk_cell BK331.out 0).trans rfl, (blk_cell BK331.out 1).trans rfl, (blk_cell BK331.out 2).trans rfl, (blk_cell BK331.out 3).trans rfl, (blk_cell BK331.out 4).trans rfl, (blk_cell BK331.out 5).trans rfl, (blk_cell BK331.out 6).trans rfl⟩ (fun hHeld => ?_)
    clear hK K
    refine norm_ (a' := ?_) ?_ ?_
    rotate_left
    ·show Act.put _ (some 6) _ = _
     simp only [Act.put, List.setIfInBounds_toArray, List.set_cons_zero, List.set_cons_succ, i64_w, i32_w]
     rfl
    refine one_ (i := 9) (N := some 30) (cellarerlaw05_ChainTurns.bs 15 2047) rfl rfl (one_of HT_.out (by kernel_rfl)) (by decide) (fun K hK => ?_)
    refine goes_ Try.func11 (by kernel_rfl) rfl #[.agg #[.int .u64 a0_3, .string a0_4, .bool a0_5, .int .i64 a0_6]] (by rfl) rfl rfl (by (try simp only [List.map_toArray, List.map_cons, List.map_nil]); first | done | rfl | (simp only [List.length_drop, List.length_take]; rfl)) ?_
    with_reducible refine (cellarerlaw05_One.calls a0_3 a0_4 a0_5 a0_6 t335 t336 t337 t338 _ A3.out).mono ?_
    rintro e w11 ⟨rfl, hb⟩
    refine ⟨_, rfl, ?_⟩
    have n0_ := Aside0.mk (Kd.R_below (by (with_reducible repeat (first | apply Kd.R_alloc | apply Kd.R_drewN | apply Kd.R_drew)); exact HO334.out) hb)
    have n1_ := Aside0.mk (blk_below (g := gb331) (o := .cells #[.slice A0_0 l0_0.length c0_0, .int .u64 a0_1, .int .u64 a0_2, .int .u64 a0_3, .string a0_4, .bool a0_5, .int .i64 a0_6] 56 (0, 0)) (by (with_reducible repeat (first | refine blk_drewN ?_ _ | refine blk_drew ?_ | refine blk_alloc ?_ _)); exact BK331.out) hb)
    have n2_ := Aside0.mk (blk_below (g := gb339) (o := .cells #[.int .u64 0, .string (⟨#[]⟩ : ByteArray), .bool false, .int .i64 0] 25 (0, 0)) (by (with_reducible repeat (first | refine blk_drewN ?_ _ | refine blk_drew ?_ | refine blk_alloc ?_ _)); exact BK339.out) hb)
    have n3_ := Aside0.mk (below_step (by repeat (first | (with_reducible first | exact HB.out | apply below_alloc | apply pw_below_drewN | apply below_drew1 | refine below_set ?_ GE331.out | refine below_set ?_ GE339.out) | exact HB.out)) hb)
    clear HO334
    clear BK331
    clear BK339
    clear HB
    have HO334 := n0_
    have BK331 := n1_
    have BK339 := n2_
    have HB := n3_
    clear n0_ n1_ n2_ n3_
    (try clear hb)
    (try clear hb2)
    (try clear hk)
    (try clear hi)
    refine hK.out _ _ ⟨(blk_cell BK331.out 0).trans rfl, (blk_cell BK331.out 1).trans rfl, (blk_cell BK331.out 2).trans rfl, (blk_cell BK331.out 3).trans rfl, (blk_cell BK331.out 4).trans rfl, (blk_cell BK331.out 5).trans rfl, (blk_cell BK331.out 6).trans rfl⟩ (fun hHeld => ?_)
    clear hK K
    refine norm_ (a' := ?_) ?_ ?_
    rotate_left
    ·show Act.put _ (some 30) _ = _
     simp only [Act.put, List.setIfInBounds_toArray, List.set_cons_zero, List.set_cons_succ, i64_w, i32_w]
     rfl
    exact norm_ (by simp only [putAll, Act.put, List.setIfInBounds_toArray, List.set_cons_zero, List.set_cons_succ]) (hCont (v333, gb339) _ ⟨hHeld, (by (with_reducible repeat (first | apply Kd.R_alloc | apply Kd.R_drewN | apply Kd.R_drew)); exact Kd.R_mono HO334.out (fun _ hk => hk.2)), (by (with_reducible repeat (first | refine blk_drewN ?_ _ | refine blk_drew ?_ | refine blk_alloc ?_ _)); exact BK331.out), (by (with_reducible repeat (first | refine blk_drewN ?_ _ | refine blk_drew ?_ | refine blk_alloc ?_ _)); exact BK339.out), GW339.out, GE339.out, NB331_339.out, NB339_331.out, (by repeat (first | (with_reducible first | exact HB.out | apply below_alloc | apply pw_below_drewN | apply below_drew1 | refine below_set ?_ GE331.out | refine below_set ?_ GE339.out) | exact HB.out))⟩)
  ·skip
   refine box_step ?hg (N := 6) ?hd (cs := #[.int .u64 0, .string (⟨#[]⟩ : ByteArray), .bool false, .int .i64 0]) (t := 25) ?hr ?_; (case hd => rfl); (case hg => rfl); (case hr => first | (go_simp; done) | (go_simp; rfl))
   intro gb339 hg w9 hbox hb
   have n0_ := Aside0.mk (blk_below (g := gb331) (o := .cells #[.slice A0_0 l0_0.length c0_0, .int .u64 a0_1, .int .u64 a0_2, .int .u64 a0_3, .string a0_4, .bool a0_5, .int .i64 a0_6] 56 (0, 0)) (by (with_reducible repeat (first | refine blk_drewN ?_ _ | refine blk_drew ?_ | refine blk_alloc ?_ _)); exact BK331.out) hb)
   have n1_ := Aside0.mk (below_step (by repeat (first | (with_reducible first | exact HB.out | apply below_alloc | apply pw_below_drewN | apply below_drew1 | refine below_set ?_ GE331.out) | exact HB.out)) hb)
   have n2_ := Aside0.mk (hbox)
   have n3_ := Aside0.mk ((by rw [hg]; exact (below_size (by repeat (first | (with_reducible first | exact HB.out | apply below_alloc | apply pw_below_drewN | apply below_drew1 | refine below_set ?_ GE331.out) | exact HB.out))) : w.heap.size ≤ gb339))
   have n4_ := Aside0.mk ((by rw [hg]; exact (below_size (by repeat (first | (with_reducible first | exact HB.out | apply below_alloc | apply pw_below_drewN | apply below_drew1 | refine below_set ?_ GE331.out) | exact HB.out))) : w.heap.size ≤ gb339))
   have n5_ := Aside0.mk ((by rw [hg]; exact Nat.ne_of_lt (blk_lt (g := gb331) (o := .cells #[.slice A0_0 l0_0.length c0_0, .int .u64 a0_1, .int .u64 a0_2, .int .u64 a0_3, .string a0_4, .bool a0_5, .int .i64 a0_6] 56 (0, 0)) (by (with_reducible repeat (first | refine blk_drewN ?_ _ | refine blk_drew ?_ | refine blk_alloc ?_ _)); exact BK331.out)) : gb331 ≠ gb339))
   have n6_ := Aside0.mk ((by rw [hg]; exact Nat.ne_of_gt (blk_lt (g := gb331) (o := .cells #[.slice A0_0 l0_0.length c0_0, .int .u64 a0_1, .int .u64 a0_2, .int .u64 a0_3, .string a0_4, .bool a0_5, .int .i64 a0_6] 56 (0, 0)) (by (with_reducible repeat (first | refine blk_drewN ?_ _ | refine blk_drew ?_ | refine blk_alloc ?_ _)); exact BK331.out)) : gb339 ≠ gb331))
   clear BK331
   clear HB
   have BK331 := n0_
   have HB := n1_
   have BK339 := n2_
   have GW339 := n3_
   have GE339 := n4_
   have NB331_339 := n5_
   have NB339_331 := n6_
   clear n0_ n1_ n2_ n3_ n4_ n5_ n6_
   clear hb hbox hg
   refine hK.out _ _ ⟨(blk_cell BK331.out 0).trans rfl, (blk_cell BK331.out 1).trans rfl, (blk_cell BK331.out 2).trans rfl, (blk_cell BK331.out 3).trans rfl, (blk_cell BK331.out 4).trans rfl, (blk_cell BK331.out 5).trans rfl, (blk_cell BK331.out 6).trans rfl⟩ (fun hHeld => ?_)
   clear hK K
   refine norm_ (a' := ?_) ?_ ?_
   rotate_left
   ·show Act.put _ (some 6) _ = _
    simp only [Act.put, List.setIfInBounds_toArray, List.set_cons_zero, List.set_cons_succ, i64_w, i32_w]
    rfl
   refine one_ (i := 2) (N := some 23) (cellarerlaw05_ChainTurns.bs 15 1535) rfl rfl (one_of HT_.out (by kernel_rfl)) (by decide) (fun K hK => ?_)
   refine goes_ Try.func10 (by kernel_rfl) rfl #[.slice A0_0 l0_0.length c0_0] (by rfl) rfl rfl (by (try simp only [List.map_toArray, List.map_cons, List.map_nil]); first | done | rfl | (simp only [List.length_drop, List.length_take]; rfl)) ?_
   with_reducible refine (cellarerlaw05_Few.calls k _ _ l0_0 t332 _ ?side1 ?side2 A2.out).mono ?_
   (case side1 => repeat (first | exact (Kd.C_below HR0_0.out HB.out) | (with_reducible refine Kd.C_alloc ?_ _) | (with_reducible refine Kd.C_drewN ?_ _) | (with_reducible refine Kd.C_drew ?_)))
   (case side2 => exact HC0_0.out)
   rintro e w10 ⟨v333, rfl, ho0, hb⟩
   refine ⟨_, rfl, ?_⟩
   have n0_ := Aside0.mk (Kd.R_lower (Kd.R_newB ho0 (g := gb339) (o := .cells #[.int .u64 0, .string (⟨#[]⟩ : ByteArray), .bool false, .int .i64 0] 25 (0, 0)) (by (with_reducible repeat (first | refine blk_drewN ?_ _ | refine blk_drew ?_ | refine blk_alloc ?_ _)); exact BK339.out)) (below_size (by repeat (first | (with_reducible first | exact HB.out | apply below_alloc | apply pw_below_drewN | apply below_drew1 | refine below_set ?_ GE331.out | refine below_set ?_ GE339.out) | exact HB.out))))
   have n1_ := Aside0.mk (blk_below (g := gb331) (o := .cells #[.slice A0_0 l0_0.length c0_0, .int .u64 a0_1, .int .u64 a0_2, .int .u64 a0_3, .string a0_4, .bool a0_5, .int .i64 a0_6] 56 (0, 0)) (by (with_reducible repeat (first | refine blk_drewN ?_ _ | refine blk_drew ?_ | refine blk_alloc ?_ _)); exact BK331.out) hb)
   have n2_ := Aside0.mk (blk_below (g := gb339) (o := .cells #[.int .u64 0, .string (⟨#[]⟩ : ByteArray), .bool false, .int .i64 0] 25 (0, 0)) (by (with_reducible repeat (first | refine blk_drewN ?_ _ | refine blk_drew ?_ | refine blk_alloc ?_ _)); exact BK339.out) hb)
   have n3_ := Aside0.mk (below_step (by repeat (first | (with_reducible first | exact HB.out | apply below_alloc | apply pw_below_drewN | apply below_drew1 | refine below_set ?_ GE331.out | refine below_set ?_ GE339.out) | exact HB.out)) hb)
   clear BK331
   clear BK339
   clear HB
   have HO334 := n0_
   have BK331 := n1_
   have BK339 := n2_
   have HB := n3_
   clear n0_ n1_ n2_ n3_
   (try clear hb)
   (try clear hb2)
   (try clear hk)
   (try clear hi)
   (try clear ho0)
   refine hK.out _ _ ⟨(blk_cell BK331.out 0).trans rfl, (blk_cell BK331.out 1).trans rfl, (blk_cell BK331.out 2).trans rfl, (blk_cell BK331.out 3).trans rfl, (blk_cell BK331.out 4).trans rfl, (blk_cell BK331.out 5).trans rfl, (blk_cell BK331.out 6).trans rfl⟩ (fun hHeld => ?_)
   clear hK K
   refine norm_ (a' := ?_) ?_ ?_
   rotate_left
   ·show Act.put _ (some 23) _ = _
    simp only [Act.put, List.setIfInBounds_toArray, List.set_cons_zero, List.set_cons_succ, i64_w, i32_w]
    rfl
   refine one_ (i := 9) (N := some 30) (cellarerlaw05_ChainTurns.bs 15 2047) rfl rfl (one_of HT_.out (by kernel_rfl)) (by decide) (fun K hK => ?_)
   refine goes_ Try.func11 (by kernel_rfl) rfl #[.agg #[.int .u64 a0_3, .string a0_4, .bool a0_5, .int .i64 a0_6]] (by rfl) rfl rfl (by (try simp only [List.map_toArray, List.map_cons, List.map_nil]); first | done | rfl | (simp only [List.length_drop, List.length_take]; rfl)) ?_
   with_reducible refine (cellarerlaw05_One.calls a0_3 a0_4 a0_5 a0_6 t335 t336 t337 t338 _ A3.out).mono ?_
   rintro e w11 ⟨rfl, hb⟩
   refine ⟨_, rfl, ?_⟩
   have n0_ := Aside0.mk (Kd.R_below (by (with_reducible repeat (first | apply Kd.R_alloc | apply Kd.R_drewN | apply Kd.R_drew)); exact HO334.out) hb)
   have n1_ := Aside0.mk (blk_below (g := gb331) (o := .cells #[.slice A0_0 l0_0.length c0_0, .int .u64 a0_1, .int .u64 a0_2, .int .u64 a0_3, .string a0_4, .bool a0_5, .int .i64 a0_6] 56 (0, 0)) (by (with_reducible repeat (first | refine blk_drewN ?_ _ | refine blk_drew ?_ | refine blk_alloc ?_ _)); exact BK331.out) hb)
   have n2_ := Aside0.mk (blk_below (g := gb339) (o := .cells #[.int .u64 0, .string (⟨#[]⟩ : ByteArray), .bool false, .int .i64 0] 25 (0, 0)) (by (with_reducible repeat (first | refine blk_drewN ?_ _ | refine blk_drew ?_ | refine blk_alloc ?_ _)); exact BK339.out) hb)
   have n3_ := Aside0.mk (below_step (by repeat (first | (with_reducible first | exact HB.out | apply below_alloc | apply pw_below_drewN | apply below_drew1 | refine below_set ?_ GE331.out | refine below_set ?_ GE339.out) | exact HB.out)) hb)
   clear HO334
   clear BK331
   clear BK339
   clear HB
   have HO334 := n0_
   have BK331 := n1_
   have BK339 := n2_
   have HB := n3_
   clear n0_ n1_ n2_ n3_
   (try clear hb)
   (try clear hb2)
   (try clear hk)
   (try clear hi)
   refine hK.out _ _ ⟨(blk_cell BK331.out 0).trans rfl, (blk_cell BK331.out 1).trans rfl, (blk_cell BK331.out 2).trans rfl, (blk_cell BK331.out 3).trans rfl, (blk_cell BK331.out 4).trans rfl, (blk_cell BK331.out 5).trans rfl, (blk_cell BK331.out 6).trans rfl⟩ (fun hHeld => ?_)
   clear hK K
   refine norm_ (a' := ?_) ?_ ?_
   rotate_left
   ·show Act.put _ (some 30) _ = _
    simp only [Act.put, List.setIfInBounds_toArray, List.set_cons_zero, List.set_cons_succ, i64_w, i32_w]
    rfl
   exact norm_ (by simp only [putAll, Act.put, List.setIfInBounds_toArray, List.set_cons_zero, List.set_cons_succ]) (hCont (v333, gb339) _ ⟨hHeld, (by (with_reducible repeat (first | apply Kd.R_alloc | apply Kd.R_drewN | apply Kd.R_drew)); exact Kd.R_mono HO334.out (fun _ hk => hk.2)), (by (with_reducible repeat (first | refine blk_drewN ?_ _ | refine blk_drew ?_ | refine blk_alloc ?_ _)); exact BK331.out), (by (with_reducible repeat (first | refine blk_drewN ?_ _ | refine blk_drew ?_ | refine blk_alloc ?_ _)); exact BK339.out), GW339.out, GE339.out, NB331_339.out, NB339_331.out, (by repeat (first | (with_reducible first | exact HB.out | apply below_alloc | apply pw_below_drewN | apply below_drew1 | refine below_set ?_ GE331.out | refine below_set ?_ GE339.out) | exact HB.out))⟩)
 rintro ⟨v333, gb339⟩ w12 ⟨hS_, h0_, h1_, h2_, h3_, h4_, h5_, h6_, h7_⟩
 have n0_ : Aside0 (Kd.R k25 25 w12 w.heap.size (fun k_ => k_ ≠ gb339) v333 t332) := ⟨h0_⟩
 have n1_ : Aside0 (w12.heap[gb331]? = some (.cells #[.slice A0_0 l0_0.length c0_0, .int .u64 a0_1, .int .u64 a0_2, .int .u64 a0_3, .string a0_4, .bool a0_5, .int .i64 a0_6] 56 (0, 0))) := ⟨h1_⟩
 have n2_ : Aside0 (w12.heap[gb339]? = some (.cells #[.int .u64 0, .string (⟨#[]⟩ : ByteArray), .bool false, .int .i64 0] 25 (0, 0))) := ⟨h2_⟩
 have n3_ : Aside0 (w.heap.size ≤ gb339) := ⟨h3_⟩
 have n4_ : Aside0 (w.heap.size ≤ gb339) := ⟨h4_⟩
 have n5_ : Aside0 (gb331 ≠ gb339) := ⟨h5_⟩
 have n6_ : Aside0 (gb339 ≠ gb331) := ⟨h6_⟩
 have n7_ : Aside0 (Below w.heap.size w w12) := ⟨h7_⟩
 clear BK331
 clear HB
 clear h0_ h1_ h2_ h3_ h4_ h5_ h6_ h7_
 have HO334 := n0_
 have BK331 := n1_
 have BK339 := n2_
 have GW339 := n3_
 have GE339 := n4_
 have NB331_339 := n5_
 have NB339_331 := n6_
 have HB := n7_
 clear n0_ n1_ n2_ n3_ n4_ n5_ n6_ n7_
 have hHeld : w12.cell? ⟨gb331, 0, none⟩ = some (.slice A0_0 l0_0.length c0_0) ∧ w12.cell? ⟨gb331, 1, none⟩ = some (.int .u64 a0_1) ∧ w12.cell? ⟨gb331, 2, none⟩ = some (.int .u64 a0_2) ∧ w12.cell? ⟨gb331, 3, none⟩ = some (.int .u64 a0_3) ∧ w12.cell? ⟨gb331, 4, none⟩ = some (.string a0_4) ∧ w12.cell? ⟨gb331, 5, none⟩ = some (.bool a0_5) ∧ w12.cell? ⟨gb331, 6, none⟩ = some (.int .i64 a0_6) := hS_
 refine norm_ (a' := ?_) ?_ ?_
 rotate_left
 ·simp only [putAll, Act.put, List.setIfInBounds_toArray, List.set_cons_zero, List.set_cons_succ]
  rfl
 refine pure_ (i := 11) (N := some 3) (v := ?_) (a' := ?_) (cellarerlaw05_ChainTurns.bs 15 4095) rfl rfl (any_of HT_.out (by kernel_rfl)) (fun _ _ _ h => h) (Or.inl ⟨by rfl, ?_⟩) ?_ ?_
 rotate_left
 ·intro w'
  go_simp
  with_reducible rfl
 rotate_left
 ·simp only [Act.put, List.setIfInBounds_toArray, List.set_cons_zero, List.set_cons_succ, i64_w, i32_w]
  rfl
 refine pure_ (i := 12) (N := some 4) (v := ?_) (a' := ?_) (cellarerlaw05_ChainTurns.bs 15 8191) rfl rfl (any_of HT_.out (by kernel_rfl)) (fun _ _ _ h => h) (Or.inl ⟨by rfl, ?_⟩) ?_ ?_
 rotate_left
 ·intro w'
  go_simp
  with_reducible rfl
 rotate_left
 ·simp only [Act.put, List.setIfInBounds_toArray, List.set_cons_zero, List.set_cons_succ, i64_w, i32_w]
  rfl
 refine pure_ (i := 13) (N := some 5) (v := ?_) (a' := ?_) (cellarerlaw05_ChainTurns.bs 15 16383) rfl rfl (any_of HT_.out (by kernel_rfl)) (fun _ _ _ h => h) (Or.inl ⟨by rfl, ?_⟩) ?_ ?_
 rotate_left
 ·intro w'
  go_simp
  with_reducible rfl
 rotate_left
 ·simp only [Act.put, List.setIfInBounds_toArray, List.set_cons_zero, List.set_cons_succ, i64_w, i32_w]
  rfl
 refine one_ (i := 14) (N := none) (cellarerlaw05_ChainTurns.bs 15 32767) rfl rfl (one_of HT_.out (by kernel_rfl)) (by decide) (fun K hK => ?_)
 have hs13 : w12.cell? ⟨gb339, 0, none⟩ = some (.int .u64 0) := (blk_cell BK339.out 0).trans rfl
 have hfs13 := blk_frozen BK339.out 0
 have hns13_0 := NB331_339.out
 have hms13_0 := NB339_331.out
 have hs14 : w12.cell? ⟨gb339, 1, none⟩ = some (.string (⟨#[]⟩ : ByteArray)) := (blk_cell BK339.out 1).trans rfl
 have hfs14 := blk_frozen BK339.out 1
 have hns14_0 := NB331_339.out
 have hms14_0 := NB339_331.out
 have hs15 : w12.cell? ⟨gb339, 2, none⟩ = some (.bool false) := (blk_cell BK339.out 2).trans rfl
 have hfs15 := blk_frozen BK339.out 2
 have hns15_0 := NB331_339.out
 have hms15_0 := NB339_331.out
 have hs16 : w12.cell? ⟨gb339, 3, none⟩ = some (.int .i64 0) := (blk_cell BK339.out 3).trans rfl
 have hfs16 := blk_frozen BK339.out 3
 have hns16_0 := NB331_339.out
 have hms16_0 := NB339_331.out
 refine skip_ (w1 := ?_) (by rfl) rfl ?_ ?_
 rotate_left
 ·go_simp
  rfl
 refine hK.out _ _ ⟨((cell_far (p := ⟨gb339, _, none⟩) NB331_339.out _).trans (((cell_far (p := ⟨gb339, _, none⟩) NB331_339.out _).trans (((cell_far (p := ⟨gb339, _, none⟩) NB331_339.out _).trans (((cell_far (p := ⟨gb339, _, none⟩) NB331_339.out _).trans (hHeld.1)))))))), ((cell_far (p := ⟨gb339, _, none⟩) NB331_339.out _).trans (((cell_far (p := ⟨gb339, _, none⟩) NB331_339.out _).trans (((cell_far (p := ⟨gb339, _, none⟩) NB331_339.out _).trans (((cell_far (p := ⟨gb339, _, none⟩) NB331_339.out _).trans (hHeld.2.1)))))))), ((cell_far (p := ⟨gb339, _, none⟩) NB331_339.out _).trans (((cell_far (p := ⟨gb339, _, none⟩) NB331_339.out _).trans (((cell_far (p := ⟨gb339, _, none⟩) NB331_339.out _).trans (((cell_far (p := ⟨gb339, _, none⟩) NB331_339.out _).trans (hHeld.2.2.1)))))))), ((cell_far (p := ⟨gb339, _, none⟩) NB331_339.out _).trans (((cell_far (p := ⟨gb339, _, none⟩) NB331_339.out _).trans (((cell_far (p := ⟨gb339, _, none⟩) NB331_339.out _).trans (((cell_far (p := ⟨gb339, _, none⟩) NB331_339.out _).trans (hHeld.2.2.2.1)))))))), ((cell_far (p := ⟨gb339, _, none⟩) NB331_339.out _).trans (((cell_far (p := ⟨gb339, _, none⟩) NB331_339.out _).trans (((cell_far (p := ⟨gb339, _, none⟩) NB331_339.out _).trans (((cell_far (p := ⟨gb339, _, none⟩) NB331_339.out _).trans (hHeld.2.2.2.2.1)))))))), ((cell_far (p := ⟨gb339, _, none⟩) NB331_339.out _).trans (((cell_far (p := ⟨gb339, _, none⟩) NB331_339.out _).trans (((cell_far (p := ⟨gb339, _, none⟩) NB331_339.out _).trans (((cell_far (p := ⟨gb339, _, none⟩) NB331_339.out _).trans (hHeld.2.2.2.2.2.1)))))))), ((cell_far (p := ⟨gb339, _, none⟩) NB331_339.out _).trans (((cell_far (p := ⟨gb339, _, none⟩) NB331_339.out _).trans (((cell_far (p := ⟨gb339, _, none⟩) NB331_339.out _).trans (((cell_far (p := ⟨gb339, _, none⟩) NB331_339.out _).trans (hHeld.2.2.2.2.2.2))))))))⟩ (fun hHeld => ?_)
 clear hK K
 refine done_ (done_of HT_.out (by kernel_rfl)) ?_
 obtain ⟨Ao17, co17, eo17⟩ := Kd.R_slice HO334.out
 subst eo17
 go_upto_region 4 with (first | ((with_reducible refine gate_callee (f := 20) rfl ?_); refine goesL_ (some 34) rfl rfl Try.func20 (by kernel_rfl) rfl #[.slice Ao17 t332.length co17, .int .u64 a0_1] rfl (by (try simp only [List.map_toArray, List.map_cons, List.map_nil]); first | done | rfl | (simp only [List.length_drop, List.length_take]; rfl)) ?_; (with_reducible refine (chain_Drop.calls k _ _ t332 a0_1 t340 t341 _ ?side1 ?side2 A4.out).mono ?_); (case side1 => refine (Kd.R_reads' (e := 25) (base := w.heap.size) (ok := fun k_ => k_ ≠ gb339) (n := t332.length) (c := co17) ?_).2.2; exact (by (with_reducible repeat (first | apply Kd.R_alloc | apply Kd.R_drewN | apply Kd.R_drew)); exact (Kd.R_mono (Kd.R_far (p := ⟨gb339, 3, none⟩) (Kd.R_far (p := ⟨gb339, 2, none⟩) (Kd.R_far (p := ⟨gb339, 1, none⟩) (Kd.R_far (p := ⟨gb339, 0, none⟩) (Kd.R_mono HO334.out (fun k_ hk => (⟨hk, hk⟩ : _ ∧ k_ ≠ gb339))) (fun _ hk => hk.2) (.int .u64 t335)) (fun _ hk => hk.2) (.string t336)) (fun _ hk => hk.2) (.bool t337)) (fun _ hk => hk.2) (.int .i64 t338)) (fun _ h_ => h_.1)))); (case side2 => exact (Kd.R_reads' HO334.out).2.1); rintro e w18 ⟨v342, rfl, ho0, hb⟩; refine ⟨_, rfl, ?_⟩; have n0_ := Aside0.mk (Kd.R_elder' (by (with_reducible repeat (first | apply Kd.R_alloc | apply Kd.R_drewN | apply Kd.R_drew)); exact (Kd.R_mono (Kd.R_far (p := ⟨gb339, 3, none⟩) (Kd.R_far (p := ⟨gb339, 2, none⟩) (Kd.R_far (p := ⟨gb339, 1, none⟩) (Kd.R_far (p := ⟨gb339, 0, none⟩) (Kd.R_mono HO334.out (fun k_ hk => (⟨hk, hk⟩ : _ ∧ k_ ≠ gb339))) (fun _ hk => hk.2) (.int .u64 t335)) (fun _ hk => hk.2) (.string t336)) (fun _ hk => hk.2) (.bool t337)) (fun _ hk => hk.2) (.int .i64 t338)) (fun _ h_ => h_.1))) (Kd.R_base ho0) hb); have n1_ := Aside0.mk (Kd.R_lower (Kd.R_newB (Kd.R_new' ho0 (Kd.R_lt (by (with_reducible repeat (first | apply Kd.R_alloc | apply Kd.R_drewN | apply Kd.R_drew)); exact (Kd.R_mono (Kd.R_far (p := ⟨gb339, 3, none⟩) (Kd.R_far (p := ⟨gb339, 2, none⟩) (Kd.R_far (p := ⟨gb339, 1, none⟩) (Kd.R_far (p := ⟨gb339, 0, none⟩) (Kd.R_mono HO334.out (fun k_ hk => (⟨hk, hk⟩ : _ ∧ k_ ≠ gb339))) (fun _ hk => hk.2) (.int .u64 t335)) (fun _ hk => hk.2) (.string t336)) (fun _ hk => hk.2) (.bool t337)) (fun _ hk => hk.2) (.int .i64 t338)) (fun _ h_ => h_.1))))) (g := gb339) (o := .cells #[.int .u64 t335, .string t336, .bool t337, .int .i64 t338] 25 (0, 0)) (by (with_reducible repeat (first | refine blk_drewN ?_ _ | refine blk_drew ?_ | refine blk_alloc ?_ _)); refine blk_put (cs := #[.int .u64 t335, .string t336, .bool t337, .int .i64 0]) ?_ 3 _ rfl; (with_reducible repeat (first | refine blk_drewN ?_ _ | refine blk_drew ?_ | refine blk_alloc ?_ _)); refine blk_put (cs := #[.int .u64 t335, .string t336, .bool false, .int .i64 0]) ?_ 2 _ rfl; (with_reducible repeat (first | refine blk_drewN ?_ _ | refine blk_drew ?_ | refine blk_alloc ?_ _)); refine blk_put (cs := #[.int .u64 t335, .string (⟨#[]⟩ : ByteArray), .bool false, .int .i64 0]) ?_ 1 _ rfl; (with_reducible repeat (first | refine blk_drewN ?_ _ | refine blk_drew ?_ | refine blk_alloc ?_ _)); refine blk_put (cs := #[.int .u64 0, .string (⟨#[]⟩ : ByteArray), .bool false, .int .i64 0]) ?_ 0 _ rfl; (with_reducible repeat (first | refine blk_drewN ?_ _ | refine blk_drew ?_ | refine blk_alloc ?_ _)); exact BK339.out)) (below_size (by repeat (first | (with_reducible first | exact HB.out | apply below_alloc | apply pw_below_drewN | apply below_drew1 | refine below_set ?_ GE331.out | refine below_set ?_ GE339.out) | exact HB.out)))); have n2_ := Aside0.mk (blk_below (g := gb331) (o := .cells #[.slice A0_0 l0_0.length c0_0, .int .u64 a0_1, .int .u64 a0_2, .int .u64 a0_3, .string a0_4, .bool a0_5, .int .i64 a0_6] 56 (0, 0)) (by (with_reducible repeat (first | refine blk_drewN ?_ _ | refine blk_drew ?_ | refine blk_alloc ?_ _)); refine blk_far ?_ NB331_339.out _; (with_reducible repeat (first | refine blk_drewN ?_ _ | refine blk_drew ?_ | refine blk_alloc ?_ _)); refine blk_far ?_ NB331_339.out _; (with_reducible repeat (first | refine blk_drewN ?_ _ | refine blk_drew ?_ | refine blk_alloc ?_ _)); refine blk_far ?_ NB331_339.out _; (with_reducible repeat (first | refine blk_drewN ?_ _ | refine blk_drew ?_ | refine blk_alloc ?_ _)); refine blk_far ?_ NB331_339.out _; (with_reducible repeat (first | refine blk_drewN ?_ _ | refine blk_drew ?_ | refine blk_alloc ?_ _)); exact BK331.out) hb); have n3_ := Aside0.mk (blk_below (g := gb339) (o := .cells #[.int .u64 t335, .string t336, .bool t337, .int .i64 t338] 25 (0, 0)) (by (with_reducible repeat (first | refine blk_drewN ?_ _ | refine blk_drew ?_ | refine blk_alloc ?_ _)); refine blk_put (cs := #[.int .u64 t335, .string t336, .bool t337, .int .i64 0]) ?_ 3 _ rfl; (with_reducible repeat (first | refine blk_drewN ?_ _ | refine blk_drew ?_ | refine blk_alloc ?_ _)); refine blk_put (cs := #[.int .u64 t335, .string t336, .bool false, .int .i64 0]) ?_ 2 _ rfl; (with_reducible repeat (first | refine blk_drewN ?_ _ | refine blk_drew ?_ | refine blk_alloc ?_ _)); refine blk_put (cs := #[.int .u64 t335, .string (⟨#[]⟩ : ByteArray), .bool false, .int .i64 0]) ?_ 1 _ rfl; (with_reducible repeat (first | refine blk_drewN ?_ _ | refine blk_drew ?_ | refine blk_alloc ?_ _)); refine blk_put (cs := #[.int .u64 0, .string (⟨#[]⟩ : ByteArray), .bool false, .int .i64 0]) ?_ 0 _ rfl; (with_reducible repeat (first | refine blk_drewN ?_ _ | refine blk_drew ?_ | refine blk_alloc ?_ _)); exact BK339.out) hb); have n4_ := Aside0.mk (below_step (by repeat (first | (with_reducible first | exact HB.out | apply below_alloc | apply pw_below_drewN | apply below_drew1 | refine below_set ?_ GE331.out | refine below_set ?_ GE339.out) | exact HB.out)) hb); clear HO334; clear BK331; clear BK339; clear HB; have HO334 := n0_; have HO343 := n1_; have BK331 := n2_; have BK339 := n3_; have HB := n4_; clear n0_ n1_ n2_ n3_ n4_; (try clear hb); (try clear hb2); (try clear hk); (try clear hi); (try clear ho0)) | ((with_reducible refine gate_callee (f := 20) rfl ?_); refine goesL_ (some 40) rfl rfl Try.func20 (by kernel_rfl) rfl #[.slice Ao17 t332.length co17, .int .u64 a0_2] rfl (by (try simp only [List.map_toArray, List.map_cons, List.map_nil]); first | done | rfl | (simp only [List.length_drop, List.length_take]; rfl)) ?_; (with_reducible refine (chain_Drop.calls k _ _ t332 a0_2 t344 t345 _ ?side1 ?side2 A5.out).mono ?_); (case side1 => repeat (first | exact (Kd.R_reads' HO334.out).2.2 | (with_reducible refine Kd.C_alloc ?_ _) | (with_reducible refine Kd.C_drewN ?_ _) | (with_reducible refine Kd.C_drew ?_))); (case side2 => exact (Kd.R_reads' HO334.out).2.1); rintro e w19 ⟨v346, rfl, ho0, hb⟩; refine ⟨_, rfl, ?_⟩; have n0_ := Aside0.mk (Kd.R_elder' (by (with_reducible repeat (first | apply Kd.R_alloc | apply Kd.R_drewN | apply Kd.R_drew)); exact HO334.out) (Kd.R_base ho0) hb); have n1_ := Aside0.mk (Kd.R_elder' (by (with_reducible repeat (first | apply Kd.R_alloc | apply Kd.R_drewN | apply Kd.R_drew)); exact HO343.out) (Kd.R_base ho0) hb); have n2_ := Aside0.mk (Kd.R_lower (Kd.R_newB (Kd.R_new' (Kd.R_new' ho0 (Kd.R_lt (by (with_reducible repeat (first | apply Kd.R_alloc | apply Kd.R_drewN | apply Kd.R_drew)); exact HO334.out))) (Kd.R_lt (by (with_reducible repeat (first | apply Kd.R_alloc | apply Kd.R_drewN | apply Kd.R_drew)); exact HO343.out))) (g := gb339) (o := .cells #[.int .u64 t335, .string t336, .bool t337, .int .i64 t338] 25 (0, 0)) (by (with_reducible repeat (first | refine blk_drewN ?_ _ | refine blk_drew ?_ | refine blk_alloc ?_ _)); exact BK339.out)) (below_size (by repeat (first | (with_reducible first | exact HB.out | apply below_alloc | apply pw_below_drewN | apply below_drew1 | refine below_set ?_ GE331.out | refine below_set ?_ GE339.out) | exact HB.out)))); have n3_ := Aside0.mk (blk_below (g := gb331) (o := .cells #[.slice A0_0 l0_0.length c0_0, .int .u64 a0_1, .int .u64 a0_2, .int .u64 a0_3, .string a0_4, .bool a0_5, .int .i64 a0_6] 56 (0, 0)) (by (with_reducible repeat (first | refine blk_drewN ?_ _ | refine blk_drew ?_ | refine blk_alloc ?_ _)); exact BK331.out) hb); have n4_ := Aside0.mk (blk_below (g := gb339) (o := .cells #[.int .u64 t335, .string t336, .bool t337, .int .i64 t338] 25 (0, 0)) (by (with_reducible repeat (first | refine blk_drewN ?_ _ | refine blk_drew ?_ | refine blk_alloc ?_ _)); exact BK339.out) hb); have n5_ := Aside0.mk (below_step (by repeat (first | (with_reducible first | exact HB.out | apply below_alloc | apply pw_below_drewN | apply below_drew1 | refine below_set ?_ GE331.out | refine below_set ?_ GE339.out) | exact HB.out)) hb); clear HO334; clear HO343; clear BK331; clear BK339; clear HB; have HO334 := n0_; have HO343 := n1_; have HO347 := n2_; have BK331 := n3_; have BK339 := n4_; have HB := n5_; clear n0_ n1_ n2_ n3_ n4_ n5_; (try clear hb); (try clear hb2); (try clear hk); (try clear hi); (try clear ho0)))
 (try simp only [Act.put, List.setIfInBounds_toArray, List.set_cons_zero, List.set_cons_succ])
 go_cut [53] (fun v53 wc => ∃ (kq : Nat) (x53_5 : Bool), v53 = .bool x53_5 ∧ Aside0 (cellarerlaw05_ChainTurns.j0 kq t332 a0_1 a0_2 t340 t341 t344 x53_5 t335 t336 t337 t338 = some r) ∧ Aside0 (kq ≤ k) ∧ Aside0 (Kd.R k25 25 wc w.heap.size (fun k_ => some k_ ≠ (v342 : Value).ownBlock ∧ some k_ ≠ (v346 : Value).ownBlock ∧ k_ ≠ gb339) (.slice Ao17 t332.length co17) t332) ∧ Aside0 (Kd.R k25 25 wc w.heap.size (fun k_ => some k_ ≠ ((.slice Ao17 t332.length co17) : Value).ownBlock ∧ some k_ ≠ (v346 : Value).ownBlock ∧ k_ ≠ gb339) v342 t340) ∧ Aside0 (Kd.R k25 25 wc w.heap.size (fun k_ => some k_ ≠ ((.slice Ao17 t332.length co17) : Value).ownBlock ∧ some k_ ≠ (v342 : Value).ownBlock ∧ k_ ≠ gb339) v346 t344) ∧ Aside0 (wc.heap[gb331]? = some (.cells #[(.slice A0_0 l0_0.length c0_0), .int .u64 a0_1, .int .u64 a0_2, .int .u64 a0_3, .string a0_4, .bool a0_5, .int .i64 a0_6] 56 (0, 0))) ∧ Aside0 (wc.heap[gb339]? = some (.cells #[.int .u64 t335, .string t336, .bool t337, .int .i64 t338] 25 (0, 0))) ∧ Aside0 (Below w.heap.size w wc))
 case first =>
  have H := HC6.out
  clear HC6
  by_cases c20 : t341 = 0
  ·rw [if_pos c20] at H
   have c20b0 : (t341 == 0) = true := beq_iff_eq.mpr c20
   have c20b1 : (t341 != 0) = false := bne_eq_false_iff_eq.mpr c20
   clear c20
   (first | rw [c20b0] | rw [c20b1] | (simp only [i64_w, i32_w]; rw [c20b0]) | skip)
   by_cases c21 : t345 = 0
   ·rw [if_pos c21] at H
    have c21b0 : (t345 == 0) = true := beq_iff_eq.mpr c21
    have c21b1 : (t345 != 0) = false := bne_eq_false_iff_eq.mpr c21
    clear c21
    have H' := Aside0.mk H
    clear H
    go_wp2
    go_meet
    case rel => exact ⟨_, ((a0_1 != a0_2)), (by first | rfl | (simp; done) | (simp [*]; done)), H', ⟨by first | omega | exact Nat.le_refl _⟩, ⟨by (with_reducible repeat (first | apply Kd.R_alloc | apply Kd.R_drewN | apply Kd.R_drew)); exact Kd.R_mono HO334.out (fun _ hk => ⟨hk.1.2, ⟨hk.2, hk.1.1⟩⟩)⟩, ⟨by (with_reducible repeat (first | apply Kd.R_alloc | apply Kd.R_drewN | apply Kd.R_drew)); exact Kd.R_mono HO343.out (fun _ hk => ⟨hk.1.1.2, ⟨hk.2, hk.1.2⟩⟩)⟩, ⟨by (with_reducible repeat (first | apply Kd.R_alloc | apply Kd.R_drewN | apply Kd.R_drew)); exact Kd.R_mono HO347.out (fun _ hk => ⟨hk.1.1.2, ⟨hk.1.2, hk.2⟩⟩)⟩, ⟨by (with_reducible repeat (first | refine blk_drewN ?_ _ | refine blk_drew ?_ | refine blk_alloc ?_ _)); exact BK331.out⟩, ⟨by (with_reducible repeat (first | refine blk_drewN ?_ _ | refine blk_drew ?_ | refine blk_alloc ?_ _)); exact BK339.out⟩, ⟨by repeat (first | (with_reducible first | exact HB.out | apply below_alloc | apply pw_below_drewN | apply below_drew1 | refine below_set ?_ GE331.out | refine below_set ?_ GE339.out) | exact HB.out)⟩⟩
   ·rw [if_neg c21] at H
    have c21b0 : (t345 == 0) = false := beq_eq_false_iff_ne.mpr c21
    have c21b1 : (t345 != 0) = true := bne_iff_ne.mpr c21
    have H' := Aside0.mk H
    clear H
    go_wp2
    go_meet
    case rel => exact ⟨_, (false), (by first | rfl | (simp; done) | (simp [*]; done)), H', ⟨by first | omega | exact Nat.le_refl _⟩, ⟨by (with_reducible repeat (first | apply Kd.R_alloc | apply Kd.R_drewN | apply Kd.R_drew)); exact Kd.R_mono HO334.out (fun _ hk => ⟨hk.1.2, ⟨hk.2, hk.1.1⟩⟩)⟩, ⟨by (with_reducible repeat (first | apply Kd.R_alloc | apply Kd.R_drewN | apply Kd.R_drew)); exact Kd.R_mono HO343.out (fun _ hk => ⟨hk.1.1.2, ⟨hk.2, hk.1.2⟩⟩)⟩, ⟨by (with_reducible repeat (first | apply Kd.R_alloc | apply Kd.R_drewN | apply Kd.R_drew)); exact Kd.R_mono HO347.out (fun _ hk => ⟨hk.1.1.2, ⟨hk.1.2, hk.2⟩⟩)⟩, ⟨by (with_reducible repeat (first | refine blk_drewN ?_ _ | refine blk_drew ?_ | refine blk_alloc ?_ _)); exact BK331.out⟩, ⟨by (with_reducible repeat (first | refine blk_drewN ?_ _ | refine blk_drew ?_ | refine blk_alloc ?_ _)); exact BK339.out⟩, ⟨by repeat (first | (with_reducible first | exact HB.out | apply below_alloc | apply pw_below_drewN | apply below_drew1 | refine below_set ?_ GE331.out | refine below_set ?_ GE339.out) | exact HB.out)⟩⟩
  ·rw [if_neg c20] at H
   have c20b0 : (t341 == 0) = false := beq_eq_false_iff_ne.mpr c20
   have c20b1 : (t341 != 0) = true := bne_iff_ne.mpr c20
   (first | rw [c20b0] | rw [c20b1] | (simp only [i64_w, i32_w]; rw [c20b0]) | skip)
   have H' := Aside0.mk H
   clear H
   go_wp2
   go_meet
   case rel => exact ⟨_, (false), (by first | rfl | (simp; done) | (simp [*]; done)), H', ⟨by first | omega | exact Nat.le_refl _⟩, ⟨by (with_reducible repeat (first | apply Kd.R_alloc | apply Kd.R_drewN | apply Kd.R_drew)); exact Kd.R_mono HO334.out (fun _ hk => ⟨hk.1.2, ⟨hk.2, hk.1.1⟩⟩)⟩, ⟨by (with_reducible repeat (first | apply Kd.R_alloc | apply Kd.R_drewN | apply Kd.R_drew)); exact Kd.R_mono HO343.out (fun _ hk => ⟨hk.1.1.2, ⟨hk.2, hk.1.2⟩⟩)⟩, ⟨by (with_reducible repeat (first | apply Kd.R_alloc | apply Kd.R_drewN | apply Kd.R_drew)); exact Kd.R_mono HO347.out (fun _ hk => ⟨hk.1.1.2, ⟨hk.1.2, hk.2⟩⟩)⟩, ⟨by (with_reducible repeat (first | refine blk_drewN ?_ _ | refine blk_drew ?_ | refine blk_alloc ?_ _)); exact BK331.out⟩, ⟨by (with_reducible repeat (first | refine blk_drewN ?_ _ | refine blk_drew ?_ | refine blk_alloc ?_ _)); exact BK339.out⟩, ⟨by repeat (first | (with_reducible first | exact HB.out | apply below_alloc | apply pw_below_drewN | apply below_drew1 | refine below_set ?_ GE331.out | refine below_set ?_ GE339.out) | exact HB.out)⟩⟩
 case rest =>
  clear HC6
  try clear c1
  try clear c2
  try clear p2
  try clear c8
  try clear c10
  try clear c11
  try clear c20
  try clear c20b0
  try clear c20b1
  try clear c21
  try clear c21b0
  try clear c21b1
  obtain ⟨kq, x53_5, rfl, HA, HJ5, HO_3, HO_7, HO_9, BK331, BK339, HB⟩ := hcut
  cases kq with
  | zero => exact absurd HA.out (by simp [cellarerlaw05_ChainTurns.j0])
  | succ kj5 =>
   have H := HA.out
   clear HA
   simp only [cellarerlaw05_ChainTurns.j0] at H
   have HC22 := Aside0.mk H
   clear H
   go_upto_if 53 with (fail)
   go_cut [] (fun wc => ∃ (kq : Nat), Aside0 (cellarerlaw05_ChainTurns.j2 kq t332 a0_1 t340 t341 t335 t336 t337 t338 = some r) ∧ Aside0 (kq ≤ kj5) ∧ Aside0 (Kd.R k25 25 wc w.heap.size (fun k_ => some k_ ≠ (v342 : Value).ownBlock ∧ k_ ≠ gb339) (.slice Ao17 t332.length co17) t332) ∧ Aside0 (Kd.R k25 25 wc w.heap.size (fun k_ => some k_ ≠ ((.slice Ao17 t332.length co17) : Value).ownBlock ∧ k_ ≠ gb339) v342 t340) ∧ Aside0 (wc.heap[gb331]? = some (.cells #[(.slice A0_0 l0_0.length c0_0), .int .u64 a0_1, .int .u64 a0_2, .int .u64 a0_3, .string a0_4, .bool a0_5, .int .i64 a0_6] 56 (0, 0))) ∧ Aside0 (wc.heap[gb339]? = some (.cells #[.int .u64 t335, .string t336, .bool t337, .int .i64 t338] 25 (0, 0))) ∧ Aside0 (Below w.heap.size w wc))
   case first =>
    have H := HC22.out
    clear HC22
    by_cases c23 : x53_5 = true
    ·subst c23
     have H1 : ((chain_Drop.f kj5 t340 a0_2).bind fun bt348 => ((chain_Drop.f kj5 t344 a0_1).bind fun bt352 => (if bt348.2 = 0 then (if bt352.2 = 0 then ((cellarerref05_Same.f kj5 bt348.1 bt352.1).bind fun t356 => (cellarerlaw05_ChainTurns.j1 kj5 t332 a0_1 t340 t341 (!t356) t335 t336 t337 t338)) else (cellarerlaw05_ChainTurns.j1 kj5 t332 a0_1 t340 t341 true t335 t336 t337 t338)) else (cellarerlaw05_ChainTurns.j1 kj5 t332 a0_1 t340 t341 true t335 t336 t337 t338)))) = some r := by rw [if_pos rfl] at H; exact H
     clear H
     have H := H1
     clear H1
     replace H := Option.bind_eq_some_iff.mp H
     obtain ⟨⟨t348, t349⟩, A240, H⟩ := H
     replace H : ((chain_Drop.f kj5 t344 a0_1).bind fun bt352 => (if t349 = 0 then (if bt352.2 = 0 then ((cellarerref05_Same.f kj5 t348 bt352.1).bind fun t356 => (cellarerlaw05_ChainTurns.j1 kj5 t332 a0_1 t340 t341 (!t356) t335 t336 t337 t338)) else (cellarerlaw05_ChainTurns.j1 kj5 t332 a0_1 t340 t341 true t335 t336 t337 t338)) else (cellarerlaw05_ChainTurns.j1 kj5 t332 a0_1 t340 t341 true t335 t336 t337 t338))) = some r := H
     have A24 := Aside0.mk A240
     clear A240
     replace H := Option.bind_eq_some_iff.mp H
     obtain ⟨⟨t352, t353⟩, A250, H⟩ := H
     replace H : (if t349 = 0 then (if t353 = 0 then ((cellarerref05_Same.f kj5 t348 t352).bind fun t356 => (cellarerlaw05_ChainTurns.j1 kj5 t332 a0_1 t340 t341 (!t356) t335 t336 t337 t338)) else (cellarerlaw05_ChainTurns.j1 kj5 t332 a0_1 t340 t341 true t335 t336 t337 t338)) else (cellarerlaw05_ChainTurns.j1 kj5 t332 a0_1 t340 t341 true t335 t336 t337 t338)) = some r := H
     have A25 := Aside0.mk A250
     clear A250
     have HC26 := Aside0.mk H
     clear H
     obtain ⟨Ao27, co27, eo27⟩ := Kd.R_slice HO_7.out
     subst eo27
     go_upto_region 7 with (first | ((with_reducible refine gate_callee (f := 20) rfl ?_); refine goesL_ (some 57) rfl rfl Try.func20 (by kernel_rfl) rfl #[.slice Ao27 t340.length co27, .int .u64 a0_2] rfl (by (try simp only [List.map_toArray, List.map_cons, List.map_nil]); first | done | rfl | (simp only [List.length_drop, List.length_take]; rfl)) ?_; (with_reducible refine (chain_Drop.calls kj5 _ _ t340 a0_2 t348 t349 _ ?side1 ?side2 A24.out).mono ?_); (case side1 => repeat (first | exact (Kd.R_reads' HO_7.out).2.2 | (with_reducible refine Kd.C_alloc ?_ _) | (with_reducible refine Kd.C_drewN ?_ _) | (with_reducible refine Kd.C_drew ?_))); (case side2 => exact (Kd.R_reads' HO_7.out).2.1); rintro e w28 ⟨v350, rfl, ho0, hb⟩; refine ⟨_, rfl, ?_⟩; have n0_ := Aside0.mk (Kd.R_elder' (by (with_reducible repeat (first | apply Kd.R_alloc | apply Kd.R_drewN | apply Kd.R_drew)); exact HO_3.out) (Kd.R_base ho0) hb); have n1_ := Aside0.mk (Kd.R_elder' (by (with_reducible repeat (first | apply Kd.R_alloc | apply Kd.R_drewN | apply Kd.R_drew)); exact HO_7.out) (Kd.R_base ho0) hb); have n2_ := Aside0.mk (Kd.R_elder' (by (with_reducible repeat (first | apply Kd.R_alloc | apply Kd.R_drewN | apply Kd.R_drew)); exact HO_9.out) (Kd.R_base ho0) hb); have n3_ := Aside0.mk (Kd.R_lower (Kd.R_newB (Kd.R_new' (Kd.R_new' (Kd.R_new' ho0 (Kd.R_lt (by (with_reducible repeat (first | apply Kd.R_alloc | apply Kd.R_drewN | apply Kd.R_drew)); exact HO_3.out))) (Kd.R_lt (by (with_reducible repeat (first | apply Kd.R_alloc | apply Kd.R_drewN | apply Kd.R_drew)); exact HO_7.out))) (Kd.R_lt (by (with_reducible repeat (first | apply Kd.R_alloc | apply Kd.R_drewN | apply Kd.R_drew)); exact HO_9.out))) (g := gb339) (o := .cells #[.int .u64 t335, .string t336, .bool t337, .int .i64 t338] 25 (0, 0)) (by (with_reducible repeat (first | refine blk_drewN ?_ _ | refine blk_drew ?_ | refine blk_alloc ?_ _)); exact BK339.out)) (below_size (by repeat (first | (with_reducible first | exact HB.out | apply below_alloc | apply pw_below_drewN | apply below_drew1 | refine below_set ?_ GE331.out | refine below_set ?_ GE339.out) | exact HB.out)))); have n4_ := Aside0.mk (blk_below (g := gb331) (o := .cells #[.slice A0_0 l0_0.length c0_0, .int .u64 a0_1, .int .u64 a0_2, .int .u64 a0_3, .string a0_4, .bool a0_5, .int .i64 a0_6] 56 (0, 0)) (by (with_reducible repeat (first | refine blk_drewN ?_ _ | refine blk_drew ?_ | refine blk_alloc ?_ _)); exact BK331.out) hb); have n5_ := Aside0.mk (blk_below (g := gb339) (o := .cells #[.int .u64 t335, .string t336, .bool t337, .int .i64 t338] 25 (0, 0)) (by (with_reducible repeat (first | refine blk_drewN ?_ _ | refine blk_drew ?_ | refine blk_alloc ?_ _)); exact BK339.out) hb); have n6_ := Aside0.mk (below_step (by repeat (first | (with_reducible first | exact HB.out | apply below_alloc | apply pw_below_drewN | apply below_drew1 | refine below_set ?_ GE331.out | refine below_set ?_ GE339.out) | exact HB.out)) hb); clear HO_3; clear HO_7; clear HO_9; clear BK331; clear BK339; clear HB; have HO_3 := n0_; have HO_7 := n1_; have HO_9 := n2_; have HO351 := n3_; have BK331 := n4_; have BK339 := n5_; have HB := n6_; clear n0_ n1_ n2_ n3_ n4_ n5_ n6_; (try clear hb); (try clear hb2); (try clear hk); (try clear hi); (try clear ho0); obtain ⟨Ao29, co29, eo29⟩ := Kd.R_slice HO_9.out; subst eo29) | ((with_reducible refine gate_callee (f := 20) rfl ?_); refine goesL_ (some 63) rfl rfl Try.func20 (by kernel_rfl) rfl #[.slice Ao29 t344.length co29, .int .u64 a0_1] rfl (by (try simp only [List.map_toArray, List.map_cons, List.map_nil]); first | done | rfl | (simp only [List.length_drop, List.length_take]; rfl)) ?_; (with_reducible refine (chain_Drop.calls kj5 _ _ t344 a0_1 t352 t353 _ ?side1 ?side2 A25.out).mono ?_); (case side1 => repeat (first | exact (Kd.R_reads' HO_9.out).2.2 | (with_reducible refine Kd.C_alloc ?_ _) | (with_reducible refine Kd.C_drewN ?_ _) | (with_reducible refine Kd.C_drew ?_))); (case side2 => exact (Kd.R_reads' HO_9.out).2.1); rintro e w30 ⟨v354, rfl, ho0, hb⟩; refine ⟨_, rfl, ?_⟩; have n0_ := Aside0.mk (Kd.R_elder' (by (with_reducible repeat (first | apply Kd.R_alloc | apply Kd.R_drewN | apply Kd.R_drew)); exact HO_3.out) (Kd.R_base ho0) hb); have n1_ := Aside0.mk (Kd.R_elder' (by (with_reducible repeat (first | apply Kd.R_alloc | apply Kd.R_drewN | apply Kd.R_drew)); exact HO_7.out) (Kd.R_base ho0) hb); have n2_ := Aside0.mk (Kd.R_elder' (by (with_reducible repeat (first | apply Kd.R_alloc | apply Kd.R_drewN | apply Kd.R_drew)); exact HO_9.out) (Kd.R_base ho0) hb); have n3_ := Aside0.mk (Kd.R_elder' (by (with_reducible repeat (first | apply Kd.R_alloc | apply Kd.R_drewN | apply Kd.R_drew)); exact HO351.out) (Kd.R_base ho0) hb); have n4_ := Aside0.mk (Kd.R_lower (Kd.R_newB (Kd.R_new' (Kd.R_new' (Kd.R_new' (Kd.R_new' ho0 (Kd.R_lt (by (with_reducible repeat (first | apply Kd.R_alloc | apply Kd.R_drewN | apply Kd.R_drew)); exact HO_3.out))) (Kd.R_lt (by (with_reducible repeat (first | apply Kd.R_alloc | apply Kd.R_drewN | apply Kd.R_drew)); exact HO_7.out))) (Kd.R_lt (by (with_reducible repeat (first | apply Kd.R_alloc | apply Kd.R_drewN | apply Kd.R_drew)); exact HO_9.out))) (Kd.R_lt (by (with_reducible repeat (first | apply Kd.R_alloc | apply Kd.R_drewN | apply Kd.R_drew)); exact HO351.out))) (g := gb339) (o := .cells #[.int .u64 t335, .string t336, .bool t337, .int .i64 t338] 25 (0, 0)) (by (with_reducible repeat (first | refine blk_drewN ?_ _ | refine blk_drew ?_ | refine blk_alloc ?_ _)); exact BK339.out)) (below_size (by repeat (first | (with_reducible first | exact HB.out | apply below_alloc | apply pw_below_drewN | apply below_drew1 | refine below_set ?_ GE331.out | refine below_set ?_ GE339.out) | exact HB.out)))); have n5_ := Aside0.mk (blk_below (g := gb331) (o := .cells #[.slice A0_0 l0_0.length c0_0, .int .u64 a0_1, .int .u64 a0_2, .int .u64 a0_3, .string a0_4, .bool a0_5, .int .i64 a0_6] 56 (0, 0)) (by (with_reducible repeat (first | refine blk_drewN ?_ _ | refine blk_drew ?_ | refine blk_alloc ?_ _)); exact BK331.out) hb); have n6_ := Aside0.mk (blk_below (g := gb339) (o := .cells #[.int .u64 t335, .string t336, .bool t337, .int .i64 t338] 25 (0, 0)) (by (with_reducible repeat (first | refine blk_drewN ?_ _ | refine blk_drew ?_ | refine blk_alloc ?_ _)); exact BK339.out) hb); have n7_ := Aside0.mk (below_step (by repeat (first | (with_reducible first | exact HB.out | apply below_alloc | apply pw_below_drewN | apply below_drew1 | refine below_set ?_ GE331.out | refine below_set ?_ GE339.out) | exact HB.out)) hb); clear HO_3; clear HO_7; clear HO_9; clear HO351; clear BK331; clear BK339; clear HB; have HO_3 := n0_; have HO_7 := n1_; have HO_9 := n2_; have HO351 := n3_; have HO355 := n4_; have BK331 := n5_; have BK339 := n6_; have HB := n7_; clear n0_ n1_ n2_ n3_ n4_ n5_ n6_ n7_; (try clear hb); (try clear hb2); (try clear hk); (try clear hi); (try clear ho0)))
     (try simp only [Act.put, List.setIfInBounds_toArray, List.set_cons_zero, List.set_cons_succ])
     go_cut [77] (fun v77 wc => ∃ (kq : Nat) (x77_25 : Bool), v77 = .bool x77_25 ∧ Aside0 (cellarerlaw05_ChainTurns.j1 kq t332 a0_1 t340 t341 x77_25 t335 t336 t337 t338 = some r) ∧ Aside0 (kq ≤ kj5) ∧ Aside0 (Kd.R k25 25 wc w.heap.size (fun k_ => some k_ ≠ ((.slice Ao27 t340.length co27) : Value).ownBlock ∧ k_ ≠ gb339) (.slice Ao17 t332.length co17) t332) ∧ Aside0 (Kd.R k25 25 wc w.heap.size (fun k_ => some k_ ≠ ((.slice Ao17 t332.length co17) : Value).ownBlock ∧ k_ ≠ gb339) (.slice Ao27 t340.length co27) t340) ∧ Aside0 (wc.heap[gb331]? = some (.cells #[(.slice A0_0 l0_0.length c0_0), .int .u64 a0_1, .int .u64 a0_2, .int .u64 a0_3, .string a0_4, .bool a0_5, .int .i64 a0_6] 56 (0, 0))) ∧ Aside0 (wc.heap[gb339]? = some (.cells #[.int .u64 t335, .string t336, .bool t337, .int .i64 t338] 25 (0, 0))) ∧ Aside0 (Below w.heap.size w wc))
     case first =>
      have H := HC26.out
      clear HC26
      by_cases c31 : t349 = 0
      ·rw [if_pos c31] at H
       have c31b0 : (t349 == 0) = true := beq_iff_eq.mpr c31
       have c31b1 : (t349 != 0) = false := bne_eq_false_iff_eq.mpr c31
       clear c31
       (first | rw [c31b0] | rw [c31b1] | (simp only [i64_w, i32_w]; rw [c31b0]) | skip)
       by_cases c32 : t353 = 0
       ·rw [if_pos c32] at H
        have c32b0 : (t353 == 0) = true := beq_iff_eq.mpr c32
        have c32b1 : (t353 != 0) = false := bne_eq_false_iff_eq.mpr c32
        clear c32
        replace H := Option.bind_eq_some_iff.mp H
        obtain ⟨t356, A330, H⟩ := H
        replace H : (cellarerlaw05_ChainTurns.j1 kj5 t332 a0_1 t340 t341 (!t356) t335 t336 t337 t338) = some r := H
        have A33 := Aside0.mk A330
        clear A330
        have H' := Aside0.mk H
        clear H
        obtain ⟨Ao34, co34, eo34⟩ := Kd.R_slice HO351.out
        subst eo34
        obtain ⟨Ao35, co35, eo35⟩ := Kd.R_slice HO355.out
        subst eo35
        go_wp2_with (first | (go_at_call 16; (with_reducible refine (cellarerref05_Same.calls kj5 _ _ t348 _ _ t352 t356 _ ?side1 ?side2 ?side3 ?side4 A33.out).mono ?_); (case side1 => repeat (first | exact (Kd.R_reads' HO351.out).2.2 | (with_reducible refine Kd.C_alloc ?_ _) | (with_reducible refine Kd.C_drewN ?_ _) | (with_reducible refine Kd.C_drew ?_))); (case side2 => exact (Kd.R_reads' HO351.out).2.1); (case side3 => repeat (first | exact (Kd.R_reads' HO355.out).2.2 | (with_reducible refine Kd.C_alloc ?_ _) | (with_reducible refine Kd.C_drewN ?_ _) | (with_reducible refine Kd.C_drew ?_))); (case side4 => exact (Kd.R_reads' HO355.out).2.1); rintro e w' ⟨rfl, ⟨nd, rfl⟩⟩))
        go_meet
        case rel => exact ⟨_, (!t356), (by first | rfl | (simp; done) | (simp [*]; done)), H', ⟨by have := HJ5.out; first | omega | exact Nat.le_refl _⟩, ⟨by (with_reducible repeat (first | apply Kd.R_alloc | apply Kd.R_drewN | apply Kd.R_drew)); exact Kd.R_mono HO_3.out (fun _ hk => ⟨hk.1.1.1, hk.1.1.2.2⟩)⟩, ⟨by (with_reducible repeat (first | apply Kd.R_alloc | apply Kd.R_drewN | apply Kd.R_drew)); exact Kd.R_mono HO_7.out (fun _ hk => ⟨hk.1.1.1, hk.1.1.2.2⟩)⟩, ⟨by (with_reducible repeat (first | refine blk_drewN ?_ _ | refine blk_drew ?_ | refine blk_alloc ?_ _)); exact BK331.out⟩, ⟨by (with_reducible repeat (first | refine blk_drewN ?_ _ | refine blk_drew ?_ | refine blk_alloc ?_ _)); exact BK339.out⟩, ⟨by repeat (first | (with_reducible first | exact HB.out | apply below_alloc | apply pw_below_drewN | apply below_drew1 | refine below_set ?_ GE331.out | refine below_set ?_ GE339.out) | exact HB.out)⟩⟩
       ·rw [if_neg c32] at H
        have c32b0 : (t353 == 0) = false := beq_eq_false_iff_ne.mpr c32
        have c32b1 : (t353 != 0) = true := bne_iff_ne.mpr c32
        have H' := Aside0.mk H
        clear H
        go_wp2
        go_meet
        case rel => exact ⟨_, (true), (by first | rfl | (simp; done) | (simp [*]; done)), H', ⟨by have := HJ5.out; first | omega | exact Nat.le_refl _⟩, ⟨by (with_reducible repeat (first | apply Kd.R_alloc | apply Kd.R_drewN | apply Kd.R_drew)); exact Kd.R_mono HO_3.out (fun _ hk => ⟨hk.1.1.1, hk.1.1.2.2⟩)⟩, ⟨by (with_reducible repeat (first | apply Kd.R_alloc | apply Kd.R_drewN | apply Kd.R_drew)); exact Kd.R_mono HO_7.out (fun _ hk => ⟨hk.1.1.1, hk.1.1.2.2⟩)⟩, ⟨by (with_reducible repeat (first | refine blk_drewN ?_ _ | refine blk_drew ?_ | refine blk_alloc ?_ _)); exact BK331.out⟩, ⟨by (with_reducible repeat (first | refine blk_drewN ?_ _ | refine blk_drew ?_ | refine blk_alloc ?_ _)); exact BK339.out⟩, ⟨by repeat (first | (with_reducible first | exact HB.out | apply below_alloc | apply pw_below_drewN | apply below_drew1 | refine below_set ?_ GE331.out | refine below_set ?_ GE339.out) | exact HB.out)⟩⟩
      ·rw [if_neg c31] at H
       have c31b0 : (t349 == 0) = false := beq_eq_false_iff_ne.mpr c31
       have c31b1 : (t349 != 0) = true := bne_iff_ne.mpr c31
       (first | rw [c31b0] | rw [c31b1] | (simp only [i64_w, i32_w]; rw [c31b0]) | skip)
       have H' := Aside0.mk H
       clear H
       go_wp2
       go_meet
       case rel => exact ⟨_, (true), (by first | rfl | (simp; done) | (simp [*]; done)), H', ⟨by have := HJ5.out; first | omega | exact Nat.le_refl _⟩, ⟨by (with_reducible repeat (first | apply Kd.R_alloc | apply Kd.R_drewN | apply Kd.R_drew)); exact Kd.R_mono HO_3.out (fun _ hk => ⟨hk.1.1.1, hk.1.1.2.2⟩)⟩, ⟨by (with_reducible repeat (first | apply Kd.R_alloc | apply Kd.R_drewN | apply Kd.R_drew)); exact Kd.R_mono HO_7.out (fun _ hk => ⟨hk.1.1.1, hk.1.1.2.2⟩)⟩, ⟨by (with_reducible repeat (first | refine blk_drewN ?_ _ | refine blk_drew ?_ | refine blk_alloc ?_ _)); exact BK331.out⟩, ⟨by (with_reducible repeat (first | refine blk_drewN ?_ _ | refine blk_drew ?_ | refine blk_alloc ?_ _)); exact BK339.out⟩, ⟨by repeat (first | (with_reducible first | exact HB.out | apply below_alloc | apply pw_below_drewN | apply below_drew1 | refine below_set ?_ GE331.out | refine below_set ?_ GE339.out) | exact HB.out)⟩⟩
     case rest =>
      clear HC26
      try clear c1
      try clear c2
      try clear p2
      try clear c3
      try clear c8
      try clear c10
      try clear c11
      try clear c20
      try clear c20b0
      try clear c20b1
      try clear c21
      try clear c21b0
      try clear c21b1
      try clear c23
      try clear c31
      try clear c31b0
      try clear c31b1
      try clear c32
      try clear c32b0
      try clear c32b1
      try clear p2
      obtain ⟨kq, x77_25, rfl, HA, HJ25, HO_3, HO_7, BK331, BK339, HB⟩ := hcut
      cases kq with
      | zero => exact absurd HA.out (by simp [cellarerlaw05_ChainTurns.j1])
      | succ kj25 =>
       have H := HA.out
       clear HA
       simp only [cellarerlaw05_ChainTurns.j1] at H
       by_cases c36 : x77_25 = true
       ·subst c36
        have H1 : (some false) = some r := by rw [if_pos rfl] at H; exact H
        clear H
        have H := H1
        clear H1
        obtain rfl := Option.some.inj H
        go_wp2
        go_ret
        exact ⟨by first | rfl | (simp [errW_none, errW_some] <;> rfl) | (simp [*, errW_none, errW_some] <;> rfl), by repeat (first | (with_reducible first | exact HB.out | apply below_alloc | apply pw_below_drewN | apply below_drew1 | refine below_set ?_ GE331.out | refine below_set ?_ GE339.out) | exact HB.out)⟩
       ·replace c36 := Bool.eq_false_iff.mpr c36
        subst c36
        have H1 : (cellarerlaw05_ChainTurns.j2 kj25 t332 a0_1 t340 t341 t335 t336 t337 t338) = some r := by rw [if_neg (show ¬ (false = true) by decide)] at H; exact H
        clear H
        have H := H1
        clear H1
        have H' := Aside0.mk H
        clear H
        go_wp2
        go_meet
        case rel => exact ⟨_, H', ⟨by have := HJ5.out; have := HJ25.out; first | omega | exact Nat.le_refl _⟩, ⟨by (with_reducible repeat (first | apply Kd.R_alloc | apply Kd.R_drewN | apply Kd.R_drew)); exact HO_3.out⟩, ⟨by (with_reducible repeat (first | apply Kd.R_alloc | apply Kd.R_drewN | apply Kd.R_drew)); exact HO_7.out⟩, ⟨by (with_reducible repeat (first | refine blk_drewN ?_ _ | refine blk_drew ?_ | refine blk_alloc ?_ _)); exact BK331.out⟩, ⟨by (with_reducible repeat (first | refine blk_drewN ?_ _ | refine blk_drew ?_ | refine blk_alloc ?_ _)); exact BK339.out⟩, ⟨by repeat (first | (with_reducible first | exact HB.out | apply below_alloc | apply pw_below_drewN | apply below_drew1 | refine below_set ?_ GE331.out | refine below_set ?_ GE339.out) | exact HB.out)⟩⟩
    ·replace c23 := Bool.eq_false_iff.mpr c23
     subst c23
     have H1 : (cellarerlaw05_ChainTurns.j2 kj5 t332 a0_1 t340 t341 t335 t336 t337 t338) = some r := by rw [if_neg (show ¬ (false = true) by decide)] at H; exact H
     clear H
     have H := H1
     clear H1
     have H' := Aside0.mk H
     clear H
     go_wp2
     go_meet
     case rel => exact ⟨_, H', ⟨by have := HJ5.out; first | omega | exact Nat.le_refl _⟩, ⟨by (with_reducible repeat (first | apply Kd.R_alloc | apply Kd.R_drewN | apply Kd.R_drew)); exact Kd.R_mono HO_3.out (fun _ hk => ⟨hk.1, hk.2.2⟩)⟩, ⟨by (with_reducible repeat (first | apply Kd.R_alloc | apply Kd.R_drewN | apply Kd.R_drew)); exact Kd.R_mono HO_7.out (fun _ hk => ⟨hk.1, hk.2.2⟩)⟩, ⟨by (with_reducible repeat (first | refine blk_drewN ?_ _ | refine blk_drew ?_ | refine blk_alloc ?_ _)); exact BK331.out⟩, ⟨by (with_reducible repeat (first | refine blk_drewN ?_ _ | refine blk_drew ?_ | refine blk_alloc ?_ _)); exact BK339.out⟩, ⟨by repeat (first | (with_reducible first | exact HB.out | apply below_alloc | apply pw_below_drewN | apply below_drew1 | refine below_set ?_ GE331.out | refine below_set ?_ GE339.out) | exact HB.out)⟩⟩
   case rest =>
    clear HC22
    try clear c1
    try clear c2
    try clear p2
    try clear c3
    try clear c8
    try clear c10
    try clear c11
    try clear c20
    try clear c20b0
    try clear c20b1
    try clear c21
    try clear c21b0
    try clear c21b1
    try clear c23
    try clear c31
    try clear c31b0
    try clear c31b1
    try clear c32
    try clear c32b0
    try clear c32b1
    try clear c36
    try clear p2
    obtain ⟨kq, HA, HJ21, HO_3, HO_7, BK331, BK339, HB⟩ := hcut
    cases kq with
    | zero => exact absurd HA.out (by simp [cellarerlaw05_ChainTurns.j2])
    | succ kj21 =>
     have H := HA.out
     clear HA
     simp only [cellarerlaw05_ChainTurns.j2] at H
     replace H := Option.bind_eq_some_iff.mp H
     obtain ⟨⟨t357, t358, t359, t360, t361⟩, A370, H⟩ := H
     replace H : (if t341 = 0 then (cellarerlaw05_ChainTurns.j3 kj21 t332 (t361 != 4) t335 t336 t337 t338) else (cellarerlaw05_ChainTurns.j3 kj21 t332 false t335 t336 t337 t338)) = some r := H
     have A37 := Aside0.mk A370
     clear A370
     have HC38 := Aside0.mk H
     clear H
     obtain ⟨Ao39, co39, eo39⟩ := Kd.R_slice HO_7.out
     subst eo39
     go_upto_region 10 with (first | ((with_reducible refine gate_callee (f := 24) rfl ?_); refine goesL_ (some 81) rfl rfl Try.func24 (by kernel_rfl) rfl #[.slice Ao39 t340.length co39, .int .u64 a0_1] rfl (by (try simp only [List.map_toArray, List.map_cons, List.map_nil]); first | done | rfl | (simp only [List.length_drop, List.length_take]; rfl)) ?_; (with_reducible refine (chain_Find.calls kj21 _ _ t340 a0_1 t357 t358 t359 t360 t361 _ ?side1 ?side2 A37.out).mono ?_); (case side1 => repeat (first | exact (Kd.R_reads' HO_7.out).2.2 | (with_reducible refine Kd.C_alloc ?_ _) | (with_reducible refine Kd.C_drewN ?_ _) | (with_reducible refine Kd.C_drew ?_))); (case side2 => exact (Kd.R_reads' HO_7.out).2.1); rintro e w40 ⟨rfl, hb⟩; refine ⟨_, rfl, ?_⟩; have n0_ := Aside0.mk (Kd.R_below (by (with_reducible repeat (first | apply Kd.R_alloc | apply Kd.R_drewN | apply Kd.R_drew)); exact HO_3.out) hb); have n1_ := Aside0.mk (Kd.R_below (by (with_reducible repeat (first | apply Kd.R_alloc | apply Kd.R_drewN | apply Kd.R_drew)); exact HO_7.out) hb); have n2_ := Aside0.mk (blk_below (g := gb331) (o := .cells #[.slice A0_0 l0_0.length c0_0, .int .u64 a0_1, .int .u64 a0_2, .int .u64 a0_3, .string a0_4, .bool a0_5, .int .i64 a0_6] 56 (0, 0)) (by (with_reducible repeat (first | refine blk_drewN ?_ _ | refine blk_drew ?_ | refine blk_alloc ?_ _)); exact BK331.out) hb); have n3_ := Aside0.mk (blk_below (g := gb339) (o := .cells #[.int .u64 t335, .string t336, .bool t337, .int .i64 t338] 25 (0, 0)) (by (with_reducible repeat (first | refine blk_drewN ?_ _ | refine blk_drew ?_ | refine blk_alloc ?_ _)); exact BK339.out) hb); have n4_ := Aside0.mk (below_step (by repeat (first | (with_reducible first | exact HB.out | apply below_alloc | apply pw_below_drewN | apply below_drew1 | refine below_set ?_ GE331.out | refine below_set ?_ GE339.out) | exact HB.out)) hb); clear HO_3; clear HO_7; clear BK331; clear BK339; clear HB; have HO_3 := n0_; have HO_7 := n1_; have BK331 := n2_; have BK339 := n3_; have HB := n4_; clear n0_ n1_ n2_ n3_ n4_; (try clear hb); (try clear hb2); (try clear hk); (try clear hi)) | ((with_reducible refine gate_dst (N := 15) rfl ?_); refine box_event ?hg (N := 15) ?hd (cs := #[.int .u64 0, .string (⟨#[]⟩ : ByteArray), .bool false, .int .i64 0]) (t := 25) ?hr ?_; (case hd => rfl); (case hg => rfl); (case hr => first | (go_simp; done) | (go_simp; rfl)); intro gb362 hg w41 hbox hb; have n0_ := Aside0.mk (Kd.R_below (Kd.R_elderB (by (with_reducible repeat (first | apply Kd.R_alloc | apply Kd.R_drewN | apply Kd.R_drew)); exact HO_3.out) gb362 (Nat.le_of_eq hg.symm)) hb); have n1_ := Aside0.mk (Kd.R_below (Kd.R_elderB (by (with_reducible repeat (first | apply Kd.R_alloc | apply Kd.R_drewN | apply Kd.R_drew)); exact HO_7.out) gb362 (Nat.le_of_eq hg.symm)) hb); have n2_ := Aside0.mk (blk_below (g := gb331) (o := .cells #[.slice A0_0 l0_0.length c0_0, .int .u64 a0_1, .int .u64 a0_2, .int .u64 a0_3, .string a0_4, .bool a0_5, .int .i64 a0_6] 56 (0, 0)) (by (with_reducible repeat (first | refine blk_drewN ?_ _ | refine blk_drew ?_ | refine blk_alloc ?_ _)); exact BK331.out) hb); have n3_ := Aside0.mk (blk_below (g := gb339) (o := .cells #[.int .u64 t335, .string t336, .bool t337, .int .i64 t338] 25 (0, 0)) (by (with_reducible repeat (first | refine blk_drewN ?_ _ | refine blk_drew ?_ | refine blk_alloc ?_ _)); exact BK339.out) hb); have n4_ := Aside0.mk (below_step (by repeat (first | (with_reducible first | exact HB.out | apply below_alloc | apply pw_below_drewN | apply below_drew1 | refine below_set ?_ GE331.out | refine below_set ?_ GE339.out) | exact HB.out)) hb); have n5_ := Aside0.mk (hbox); have n6_ := Aside0.mk ((by rw [hg]; exact (below_size (by repeat (first | (with_reducible first | exact HB.out | apply below_alloc | apply pw_below_drewN | apply below_drew1 | refine below_set ?_ GE331.out | refine below_set ?_ GE339.out) | exact HB.out))) : w.heap.size ≤ gb362)); have n7_ := Aside0.mk ((by rw [hg]; exact (below_size (by repeat (first | (with_reducible first | exact HB.out | apply below_alloc | apply pw_below_drewN | apply below_drew1 | refine below_set ?_ GE331.out | refine below_set ?_ GE339.out) | exact HB.out))) : w.heap.size ≤ gb362)); have n8_ := Aside0.mk ((by rw [hg]; exact Nat.ne_of_lt (blk_lt (g := gb331) (o := .cells #[.slice A0_0 l0_0.length c0_0, .int .u64 a0_1, .int .u64 a0_2, .int .u64 a0_3, .string a0_4, .bool a0_5, .int .i64 a0_6] 56 (0, 0)) (by (with_reducible repeat (first | refine blk_drewN ?_ _ | refine blk_drew ?_ | refine blk_alloc ?_ _)); exact BK331.out)) : gb331 ≠ gb362)); have n9_ := Aside0.mk ((by rw [hg]; exact Nat.ne_of_gt (blk_lt (g := gb331) (o := .cells #[.slice A0_0 l0_0.length c0_0, .int .u64 a0_1, .int .u64 a0_2, .int .u64 a0_3, .string a0_4, .bool a0_5, .int .i64 a0_6] 56 (0, 0)) (by (with_reducible repeat (first | refine blk_drewN ?_ _ | refine blk_drew ?_ | refine blk_alloc ?_ _)); exact BK331.out)) : gb362 ≠ gb331)); have n10_ := Aside0.mk ((by rw [hg]; exact Nat.ne_of_lt (blk_lt (g := gb339) (o := .cells #[.int .u64 t335, .string t336, .bool t337, .int .i64 t338] 25 (0, 0)) (by (with_reducible repeat (first | refine blk_drewN ?_ _ | refine blk_drew ?_ | refine blk_alloc ?_ _)); exact BK339.out)) : gb339 ≠ gb362)); have n11_ := Aside0.mk ((by rw [hg]; exact Nat.ne_of_gt (blk_lt (g := gb339) (o := .cells #[.int .u64 t335, .string t336, .bool t337, .int .i64 t338] 25 (0, 0)) (by (with_reducible repeat (first | refine blk_drewN ?_ _ | refine blk_drew ?_ | refine blk_alloc ?_ _)); exact BK339.out)) : gb362 ≠ gb339)); clear HO_3; clear HO_7; clear BK331; clear BK339; clear HB; have HO_3 := n0_; have HO_7 := n1_; have BK331 := n2_; have BK339 := n3_; have HB := n4_; have BK362 := n5_; have GW362 := n6_; have GE362 := n7_; have NB331_362 := n8_; have NB362_331 := n9_; have NB339_362 := n10_; have NB362_339 := n11_; clear n0_ n1_ n2_ n3_ n4_ n5_ n6_ n7_ n8_ n9_ n10_ n11_; clear hb hbox hg; have hnb42 := NB362_331.out; have hnc42 := NB331_362.out; have hnb43 := NB362_339.out; have hnc43 := NB339_362.out; have hcz44_0 : w41.cell? ⟨gb362, 0, none⟩ = some (.int .u64 0) := (blk_cell BK362.out 0).trans rfl; have hcz44_1 : w41.cell? ⟨gb362, 1, none⟩ = some (.string (⟨#[]⟩ : ByteArray)) := (blk_cell BK362.out 1).trans rfl; have hcz44_2 : w41.cell? ⟨gb362, 2, none⟩ = some (.bool false) := (blk_cell BK362.out 2).trans rfl; have hcz44_3 : w41.cell? ⟨gb362, 3, none⟩ = some (.int .i64 0) := (blk_cell BK362.out 3).trans rfl; have hfz44_0 := blk_frozen BK362.out 0; have hfz44_1 := blk_frozen BK362.out 1; have hfz44_2 := blk_frozen BK362.out 2; have hfz44_3 := blk_frozen BK362.out 3))
     (try simp only [Act.put, List.setIfInBounds_toArray, List.set_cons_zero, List.set_cons_succ])
     go_cut [89] (fun v89 wc => ∃ (kq : Nat) (x89_37 : Bool), v89 = .bool x89_37 ∧ Aside0 (cellarerlaw05_ChainTurns.j3 kq t332 x89_37 t335 t336 t337 t338 = some r) ∧ Aside0 (kq ≤ kj21) ∧ Aside0 (Kd.R k25 25 wc w.heap.size (fun k_ => k_ ≠ gb339 ∧ k_ ≠ gb362) (.slice Ao17 t332.length co17) t332) ∧ Aside0 (wc.heap[gb331]? = some (.cells #[(.slice A0_0 l0_0.length c0_0), .int .u64 a0_1, .int .u64 a0_2, .int .u64 a0_3, .string a0_4, .bool a0_5, .int .i64 a0_6] 56 (0, 0))) ∧ Aside0 (wc.heap[gb339]? = some (.cells #[.int .u64 t335, .string t336, .bool t337, .int .i64 t338] 25 (0, 0))) ∧ Aside0 (wc.heap[gb362]? = some (.cells #[.int .u64 t357, .string t358, .bool t359, .int .i64 t360] 25 (0, 0))) ∧ Aside0 (Below w.heap.size w wc))
     case first =>
      have H := HC38.out
      clear HC38
      by_cases c45 : t341 = 0
      ·rw [if_pos c45] at H
       have c45b0 : (t341 == 0) = true := beq_iff_eq.mpr c45
       have c45b1 : (t341 != 0) = false := bne_eq_false_iff_eq.mpr c45
       clear c45
       (first | rw [c45b0] | rw [c45b1] | (simp only [i64_w, i32_w]; rw [c45b0]) | skip)
       have H' := Aside0.mk H
       clear H
       go_wp2
       go_meet
       case rel => exact ⟨_, ((t361 != 4)), (by first | rfl | (simp; done) | (simp [*]; done)), H', ⟨by have := HJ5.out; have := HJ21.out; first | omega | exact Nat.le_refl _⟩, ⟨by (with_reducible repeat (first | apply Kd.R_alloc | apply Kd.R_drewN | apply Kd.R_drew)); exact Kd.R_mono (Kd.R_far (p := ⟨gb362, 3, none⟩) (Kd.R_far (p := ⟨gb362, 2, none⟩) (Kd.R_far (p := ⟨gb362, 1, none⟩) (Kd.R_far (p := ⟨gb362, 0, none⟩) (Kd.R_mono HO_3.out (fun k_ hk => (⟨hk, hk.2⟩ : _ ∧ k_ ≠ gb362))) (fun _ hk => hk.2) (.int .u64 t357)) (fun _ hk => hk.2) (.string t358)) (fun _ hk => hk.2) (.bool t359)) (fun _ hk => hk.2) (.int .i64 t360)) (fun _ hk => ⟨hk.1.1.2, hk.1.2⟩)⟩, ⟨by (with_reducible repeat (first | refine blk_drewN ?_ _ | refine blk_drew ?_ | refine blk_alloc ?_ _)); refine blk_far ?_ NB331_362.out _; (with_reducible repeat (first | refine blk_drewN ?_ _ | refine blk_drew ?_ | refine blk_alloc ?_ _)); refine blk_far ?_ NB331_362.out _; (with_reducible repeat (first | refine blk_drewN ?_ _ | refine blk_drew ?_ | refine blk_alloc ?_ _)); refine blk_far ?_ NB331_362.out _; (with_reducible repeat (first | refine blk_drewN ?_ _ | refine blk_drew ?_ | refine blk_alloc ?_ _)); refine blk_far ?_ NB331_362.out _; (with_reducible repeat (first | refine blk_drewN ?_ _ | refine blk_drew ?_ | refine blk_alloc ?_ _)); exact BK331.out⟩, ⟨by (with_reducible repeat (first | refine blk_drewN ?_ _ | refine blk_drew ?_ | refine blk_alloc ?_ _)); refine blk_far ?_ NB339_362.out _; (with_reducible repeat (first | refine blk_drewN ?_ _ | refine blk_drew ?_ | refine blk_alloc ?_ _)); refine blk_far ?_ NB339_362.out _; (with_reducible repeat (first | refine blk_drewN ?_ _ | refine blk_drew ?_ | refine blk_alloc ?_ _)); refine blk_far ?_ NB339_362.out _; (with_reducible repeat (first | refine blk_drewN ?_ _ | refine blk_drew ?_ | refine blk_alloc ?_ _)); refine blk_far ?_ NB339_362.out _; (with_reducible repeat (first | refine blk_drewN ?_ _ | refine blk_drew ?_ | refine blk_alloc ?_ _)); exact BK339.out⟩, ⟨by (with_reducible repeat (first | refine blk_drewN ?_ _ | refine blk_drew ?_ | refine blk_alloc ?_ _)); refine blk_put (cs := #[.int .u64 t357, .string t358, .bool t359, .int .i64 0]) ?_ 3 _ rfl; (with_reducible repeat (first | refine blk_drewN ?_ _ | refine blk_drew ?_ | refine blk_alloc ?_ _)); refine blk_put (cs := #[.int .u64 t357, .string t358, .bool false, .int .i64 0]) ?_ 2 _ rfl; (with_reducible repeat (first | refine blk_drewN ?_ _ | refine blk_drew ?_ | refine blk_alloc ?_ _)); refine blk_put (cs := #[.int .u64 t357, .string (⟨#[]⟩ : ByteArray), .bool false, .int .i64 0]) ?_ 1 _ rfl; (with_reducible repeat (first | refine blk_drewN ?_ _ | refine blk_drew ?_ | refine blk_alloc ?_ _)); refine blk_put (cs := #[.int .u64 0, .string (⟨#[]⟩ : ByteArray), .bool false, .int .i64 0]) ?_ 0 _ rfl; (with_reducible repeat (first | refine blk_drewN ?_ _ | refine blk_drew ?_ | refine blk_alloc ?_ _)); exact BK362.out⟩, ⟨by repeat (first | (with_reducible first | exact HB.out | apply below_alloc | apply pw_below_drewN | apply below_drew1 | refine below_set ?_ GE331.out | refine below_set ?_ GE339.out | refine below_set ?_ GE362.out) | exact HB.out)⟩⟩
      ·rw [if_neg c45] at H
       have c45b0 : (t341 == 0) = false := beq_eq_false_iff_ne.mpr c45
       have c45b1 : (t341 != 0) = true := bne_iff_ne.mpr c45
       (first | rw [c45b0] | rw [c45b1] | (simp only [i64_w, i32_w]; rw [c45b0]) | skip)
       have H' := Aside0.mk H
       clear H
       go_wp2
       go_meet
       case rel => exact ⟨_, (false), (by first | rfl | (simp; done) | (simp [*]; done)), H', ⟨by have := HJ5.out; have := HJ21.out; first | omega | exact Nat.le_refl _⟩, ⟨by (with_reducible repeat (first | apply Kd.R_alloc | apply Kd.R_drewN | apply Kd.R_drew)); exact Kd.R_mono (Kd.R_far (p := ⟨gb362, 3, none⟩) (Kd.R_far (p := ⟨gb362, 2, none⟩) (Kd.R_far (p := ⟨gb362, 1, none⟩) (Kd.R_far (p := ⟨gb362, 0, none⟩) (Kd.R_mono HO_3.out (fun k_ hk => (⟨hk, hk.2⟩ : _ ∧ k_ ≠ gb362))) (fun _ hk => hk.2) (.int .u64 t357)) (fun _ hk => hk.2) (.string t358)) (fun _ hk => hk.2) (.bool t359)) (fun _ hk => hk.2) (.int .i64 t360)) (fun _ hk => ⟨hk.1.1.2, hk.1.2⟩)⟩, ⟨by (with_reducible repeat (first | refine blk_drewN ?_ _ | refine blk_drew ?_ | refine blk_alloc ?_ _)); refine blk_far ?_ NB331_362.out _; (with_reducible repeat (first | refine blk_drewN ?_ _ | refine blk_drew ?_ | refine blk_alloc ?_ _)); refine blk_far ?_ NB331_362.out _; (with_reducible repeat (first | refine blk_drewN ?_ _ | refine blk_drew ?_ | refine blk_alloc ?_ _)); refine blk_far ?_ NB331_362.out _; (with_reducible repeat (first | refine blk_drewN ?_ _ | refine blk_drew ?_ | refine blk_alloc ?_ _)); refine blk_far ?_ NB331_362.out _; (with_reducible repeat (first | refine blk_drewN ?_ _ | refine blk_drew ?_ | refine blk_alloc ?_ _)); exact BK331.out⟩, ⟨by (with_reducible repeat (first | refine blk_drewN ?_ _ | refine blk_drew ?_ | refine blk_alloc ?_ _)); refine blk_far ?_ NB339_362.out _; (with_reducible repeat (first | refine blk_drewN ?_ _ | refine blk_drew ?_ | refine blk_alloc ?_ _)); refine blk_far ?_ NB339_362.out _; (with_reducible repeat (first | refine blk_drewN ?_ _ | refine blk_drew ?_ | refine blk_alloc ?_ _)); refine blk_far ?_ NB339_362.out _; (with_reducible repeat (first | refine blk_drewN ?_ _ | refine blk_drew ?_ | refine blk_alloc ?_ _)); refine blk_far ?_ NB339_362.out _; (with_reducible repeat (first | refine blk_drewN ?_ _ | refine blk_drew ?_ | refine blk_alloc ?_ _)); exact BK339.out⟩, ⟨by (with_reducible repeat (first | refine blk_drewN ?_ _ | refine blk_drew ?_ | refine blk_alloc ?_ _)); refine blk_put (cs := #[.int .u64 t357, .string t358, .bool t359, .int .i64 0]) ?_ 3 _ rfl; (with_reducible repeat (first | refine blk_drewN ?_ _ | refine blk_drew ?_ | refine blk_alloc ?_ _)); refine blk_put (cs := #[.int .u64 t357, .string t358, .bool false, .int .i64 0]) ?_ 2 _ rfl; (with_reducible repeat (first | refine blk_drewN ?_ _ | refine blk_drew ?_ | refine blk_alloc ?_ _)); refine blk_put (cs := #[.int .u64 t357, .string (⟨#[]⟩ : ByteArray), .bool false, .int .i64 0]) ?_ 1 _ rfl; (with_reducible repeat (first | refine blk_drewN ?_ _ | refine blk_drew ?_ | refine blk_alloc ?_ _)); refine blk_put (cs := #[.int .u64 0, .string (⟨#[]⟩ : ByteArray), .bool false, .int .i64 0]) ?_ 0 _ rfl; (with_reducible repeat (first | refine blk_drewN ?_ _ | refine blk_drew ?_ | refine blk_alloc ?_ _)); exact BK362.out⟩, ⟨by repeat (first | (with_reducible first | exact HB.out | apply below_alloc | apply pw_below_drewN | apply below_drew1 | refine below_set ?_ GE331.out | refine below_set ?_ GE339.out | refine below_set ?_ GE362.out) | exact HB.out)⟩⟩
     case rest =>
      clear HC38
      try clear c1
      try clear c2
      try clear p2
      try clear c3
      try clear c4
      try clear c8
      try clear c10
      try clear c11
      try clear c20
      try clear c20b0
      try clear c20b1
      try clear c21
      try clear c21b0
      try clear c21b1
      try clear c23
      try clear c24
      try clear c31
      try clear c31b0
      try clear c31b1
      try clear c32
      try clear c32b0
      try clear c32b1
      try clear c36
      try clear c42
      try clear c43
      try clear c45
      try clear c45b0
      try clear c45b1
      try clear hcz44_0
      try clear hcz44_1
      try clear hcz44_2
      try clear hcz44_3
      try clear hfz44_0
      try clear hfz44_1
      try clear hfz44_2
      try clear hfz44_3
      try clear p2
      obtain ⟨kq, x89_37, rfl, HA, HJ37, HO_3, BK331, BK339, BK362, HB⟩ := hcut
      cases kq with
      | zero => exact absurd HA.out (by simp [cellarerlaw05_ChainTurns.j3])
      | succ kj37 =>
       have H := HA.out
       clear HA
       simp only [cellarerlaw05_ChainTurns.j3] at H
       by_cases c46 : x89_37 = true
       ·subst c46
        have H1 : (some false) = some r := by rw [if_pos rfl] at H; exact H
        clear H
        have H := H1
        clear H1
        obtain rfl := Option.some.inj H
        go_wp2
        go_ret
        exact ⟨by first | rfl | (simp [errW_none, errW_some] <;> rfl) | (simp [*, errW_none, errW_some] <;> rfl), by repeat (first | (with_reducible first | exact HB.out | apply below_alloc | apply pw_below_drewN | apply below_drew1 | refine below_set ?_ GE331.out | refine below_set ?_ GE339.out | refine below_set ?_ GE362.out) | exact HB.out)⟩
       ·replace c46 := Bool.eq_false_iff.mpr c46
        subst c46
        have H1 : ((chain_Put.f t332 1 t335 t336 t337 t338).bind fun bt363 => (if bt363.2 = 0 then ((chain_Drop.f kj37 bt363.1 t335).bind fun bt368 => ((cellarerref05_Same.f kj37 bt368.1 t332).bind fun t372 => (if t372 = true then (if bt368.2 = 0 then ((cellarerlaw05_awake.f).bind fun t373 => (some t373)) else (some false)) else (some false)))) else ((cellarerlaw05_awake.f).bind fun t367 => (some t367)))) = some r := by rw [if_neg (show ¬ (false = true) by decide)] at H; exact H
        clear H
        have H := H1
        clear H1
        replace H := Option.bind_eq_some_iff.mp H
        obtain ⟨⟨t363, t366⟩, A470, H⟩ := H
        replace H : (if t366 = 0 then ((chain_Drop.f kj37 t363 t335).bind fun bt368 => ((cellarerref05_Same.f kj37 bt368.1 t332).bind fun t372 => (if t372 = true then (if bt368.2 = 0 then ((cellarerlaw05_awake.f).bind fun t373 => (some t373)) else (some false)) else (some false)))) else ((cellarerlaw05_awake.f).bind fun t367 => (some t367))) = some r := H
        have A47 := Aside0.mk A470
        clear A470
        by_cases c48 : t366 = 0
        ·rw [if_pos c48] at H
         have c48b0 : (t366 == 0) = true := beq_iff_eq.mpr c48
         have c48b1 : (t366 != 0) = false := bne_eq_false_iff_eq.mpr c48
         clear c48
         replace H := Option.bind_eq_some_iff.mp H
         obtain ⟨⟨t368, t369⟩, A490, H⟩ := H
         replace H : ((cellarerref05_Same.f kj37 t368 t332).bind fun t372 => (if t372 = true then (if t369 = 0 then ((cellarerlaw05_awake.f).bind fun t373 => (some t373)) else (some false)) else (some false))) = some r := H
         have A49 := Aside0.mk A490
         clear A490
         replace H := Option.bind_eq_some_iff.mp H
         obtain ⟨t372, A500, H⟩ := H
         replace H : (if t372 = true then (if t369 = 0 then ((cellarerlaw05_awake.f).bind fun t373 => (some t373)) else (some false)) else (some false)) = some r := H
         have A50 := Aside0.mk A500
         clear A500
         by_cases c51 : t372 = true
         ·subst c51
          have H1 : (if t369 = 0 then ((cellarerlaw05_awake.f).bind fun t373 => (some t373)) else (some false)) = some r := by rw [if_pos rfl] at H; exact H
          clear H
          have H := H1
          clear H1
          by_cases c52 : t369 = 0
          ·rw [if_pos c52] at H
           have c52b0 : (t369 == 0) = true := beq_iff_eq.mpr c52
           have c52b1 : (t369 != 0) = false := bne_eq_false_iff_eq.mpr c52
           clear c52
           replace H := Option.bind_eq_some_iff.mp H
           obtain ⟨t373, A530, H⟩ := H
           replace H : (some t373) = some r := H
           have A53 := Aside0.mk A530
           clear A530
           obtain rfl := Option.some.inj H
           have hnb54 := NB339_331.out
           have hnc54 := NB331_339.out
           have hnb55 := NB339_362.out
           have hnc55 := NB362_339.out
           have hcz56_0 : wc.cell? ⟨gb339, 0, none⟩ = some (.int .u64 t335) := (blk_cell BK339.out 0).trans rfl
           have hcz56_1 : wc.cell? ⟨gb339, 1, none⟩ = some (.string t336) := (blk_cell BK339.out 1).trans rfl
           have hcz56_2 : wc.cell? ⟨gb339, 2, none⟩ = some (.bool t337) := (blk_cell BK339.out 2).trans rfl
           have hcz56_3 : wc.cell? ⟨gb339, 3, none⟩ = some (.int .i64 t338) := (blk_cell BK339.out 3).trans rfl
           have hfz56_0 := blk_frozen BK339.out 0
           have hfz56_1 := blk_frozen BK339.out 1
           have hfz56_2 := blk_frozen BK339.out 2
           have hfz56_3 := blk_frozen BK339.out 3
           go_wp2_with (first | ((with_reducible refine gate_callee (f := 12) rfl ?_); refine goesL_ (some 93) rfl rfl Try.func12 (by kernel_rfl) rfl #[.slice Ao17 t332.length co17, .int .i64 1, .agg #[.int .u64 t335, .string t336, .bool t337, .int .i64 t338]] rfl (by (try simp only [List.map_toArray, List.map_cons, List.map_nil]); first | done | rfl | (simp only [List.length_drop, List.length_take]; rfl)) ?_; (with_reducible refine (chain_Put.calls _ _ t332 1 t335 t336 t337 t338 t363 t366 _ ?side1 ?side2 A47.out).mono ?_); (case side1 => repeat (first | exact (Kd.R_reads' HO_3.out).2.2 | (with_reducible refine Kd.C_alloc ?_ _) | (with_reducible refine Kd.C_drewN ?_ _) | (with_reducible refine Kd.C_drew ?_))); (case side2 => exact (Kd.R_reads' HO_3.out).2.1); rintro e w57 ⟨v364, rfl, ho0, hb⟩; refine ⟨_, rfl, ?_⟩; have n0_ := Aside0.mk (Kd.R_elder' (by (with_reducible repeat (first | apply Kd.R_alloc | apply Kd.R_drewN | apply Kd.R_drew)); exact HO_3.out) (Kd.R_base ho0) hb); have n1_ := Aside0.mk (Kd.R_lower (Kd.R_newB (Kd.R_newB (Kd.R_new' ho0 (Kd.R_lt (by (with_reducible repeat (first | apply Kd.R_alloc | apply Kd.R_drewN | apply Kd.R_drew)); exact HO_3.out))) (g := gb339) (o := .cells #[.int .u64 t335, .string t336, .bool t337, .int .i64 t338] 25 (0, 0)) (by (with_reducible repeat (first | refine blk_drewN ?_ _ | refine blk_drew ?_ | refine blk_alloc ?_ _)); exact BK339.out)) (g := gb362) (o := .cells #[.int .u64 t357, .string t358, .bool t359, .int .i64 t360] 25 (0, 0)) (by (with_reducible repeat (first | refine blk_drewN ?_ _ | refine blk_drew ?_ | refine blk_alloc ?_ _)); exact BK362.out)) (below_size (by repeat (first | (with_reducible first | exact HB.out | apply below_alloc | apply pw_below_drewN | apply below_drew1 | refine below_set ?_ GE331.out | refine below_set ?_ GE339.out | refine below_set ?_ GE362.out) | exact HB.out)))); have n2_ := Aside0.mk (blk_below (g := gb331) (o := .cells #[.slice A0_0 l0_0.length c0_0, .int .u64 a0_1, .int .u64 a0_2, .int .u64 a0_3, .string a0_4, .bool a0_5, .int .i64 a0_6] 56 (0, 0)) (by (with_reducible repeat (first | refine blk_drewN ?_ _ | refine blk_drew ?_ | refine blk_alloc ?_ _)); exact BK331.out) hb); have n3_ := Aside0.mk (blk_below (g := gb339) (o := .cells #[.int .u64 t335, .string t336, .bool t337, .int .i64 t338] 25 (0, 0)) (by (with_reducible repeat (first | refine blk_drewN ?_ _ | refine blk_drew ?_ | refine blk_alloc ?_ _)); exact BK339.out) hb); have n4_ := Aside0.mk (blk_below (g := gb362) (o := .cells #[.int .u64 t357, .string t358, .bool t359, .int .i64 t360] 25 (0, 0)) (by (with_reducible repeat (first | refine blk_drewN ?_ _ | refine blk_drew ?_ | refine blk_alloc ?_ _)); exact BK362.out) hb); have n5_ := Aside0.mk (below_step (by repeat (first | (with_reducible first | exact HB.out | apply below_alloc | apply pw_below_drewN | apply below_drew1 | refine below_set ?_ GE331.out | refine below_set ?_ GE339.out | refine below_set ?_ GE362.out) | exact HB.out)) hb); clear HO_3; clear BK331; clear BK339; clear BK362; clear HB; have HO_3 := n0_; have HO365 := n1_; have BK331 := n2_; have BK339 := n3_; have BK362 := n4_; have HB := n5_; clear n0_ n1_ n2_ n3_ n4_ n5_; (try clear hb); (try clear hb2); (try clear hk); (try clear hi); (try clear ho0); have hcz58_0 : w57.cell? ⟨gb339, 0, none⟩ = some (.int .u64 t335) := (blk_cell BK339.out 0).trans rfl; have hcz58_1 : w57.cell? ⟨gb339, 1, none⟩ = some (.string t336) := (blk_cell BK339.out 1).trans rfl; have hcz58_2 : w57.cell? ⟨gb339, 2, none⟩ = some (.bool t337) := (blk_cell BK339.out 2).trans rfl; have hcz58_3 : w57.cell? ⟨gb339, 3, none⟩ = some (.int .i64 t338) := (blk_cell BK339.out 3).trans rfl; have hfz58_0 := blk_frozen BK339.out 0; have hfz58_1 := blk_frozen BK339.out 1; have hfz58_2 := blk_frozen BK339.out 2; have hfz58_3 := blk_frozen BK339.out 3; obtain ⟨Ao59, co59, eo59⟩ := Kd.R_slice HO365.out; subst eo59) | ((with_reducible refine gate_callee (f := 20) rfl ?_); refine goesL_ (some 103) rfl rfl Try.func20 (by kernel_rfl) rfl #[.slice Ao59 t363.length co59, .int .u64 t335] rfl (by (try simp only [List.map_toArray, List.map_cons, List.map_nil]); first | done | rfl | (simp only [List.length_drop, List.length_take]; rfl)) ?_; (with_reducible refine (chain_Drop.calls kj37 _ _ t363 t335 t368 t369 _ ?side1 ?side2 A49.out).mono ?_); (case side1 => repeat (first | exact (Kd.R_reads' HO365.out).2.2 | (with_reducible refine Kd.C_alloc ?_ _) | (with_reducible refine Kd.C_drewN ?_ _) | (with_reducible refine Kd.C_drew ?_))); (case side2 => exact (Kd.R_reads' HO365.out).2.1); rintro e w60 ⟨v370, rfl, ho0, hb⟩; refine ⟨_, rfl, ?_⟩; have n0_ := Aside0.mk (Kd.R_elder' (by (with_reducible repeat (first | apply Kd.R_alloc | apply Kd.R_drewN | apply Kd.R_drew)); exact HO_3.out) (Kd.R_base ho0) hb); have n1_ := Aside0.mk (Kd.R_elder' (by (with_reducible repeat (first | apply Kd.R_alloc | apply Kd.R_drewN | apply Kd.R_drew)); exact HO365.out) (Kd.R_base ho0) hb); have n2_ := Aside0.mk (Kd.R_lower (Kd.R_newB (Kd.R_newB (Kd.R_new' (Kd.R_new' ho0 (Kd.R_lt (by (with_reducible repeat (first | apply Kd.R_alloc | apply Kd.R_drewN | apply Kd.R_drew)); exact HO_3.out))) (Kd.R_lt (by (with_reducible repeat (first | apply Kd.R_alloc | apply Kd.R_drewN | apply Kd.R_drew)); exact HO365.out))) (g := gb339) (o := .cells #[.int .u64 t335, .string t336, .bool t337, .int .i64 t338] 25 (0, 0)) (by (with_reducible repeat (first | refine blk_drewN ?_ _ | refine blk_drew ?_ | refine blk_alloc ?_ _)); exact BK339.out)) (g := gb362) (o := .cells #[.int .u64 t357, .string t358, .bool t359, .int .i64 t360] 25 (0, 0)) (by (with_reducible repeat (first | refine blk_drewN ?_ _ | refine blk_drew ?_ | refine blk_alloc ?_ _)); exact BK362.out)) (below_size (by repeat (first | (with_reducible first | exact HB.out | apply below_alloc | apply pw_below_drewN | apply below_drew1 | refine below_set ?_ GE331.out | refine below_set ?_ GE339.out | refine below_set ?_ GE362.out) | exact HB.out)))); have n3_ := Aside0.mk (blk_below (g := gb331) (o := .cells #[.slice A0_0 l0_0.length c0_0, .int .u64 a0_1, .int .u64 a0_2, .int .u64 a0_3, .string a0_4, .bool a0_5, .int .i64 a0_6] 56 (0, 0)) (by (with_reducible repeat (first | refine blk_drewN ?_ _ | refine blk_drew ?_ | refine blk_alloc ?_ _)); exact BK331.out) hb); have n4_ := Aside0.mk (blk_below (g := gb339) (o := .cells #[.int .u64 t335, .string t336, .bool t337, .int .i64 t338] 25 (0, 0)) (by (with_reducible repeat (first | refine blk_drewN ?_ _ | refine blk_drew ?_ | refine blk_alloc ?_ _)); exact BK339.out) hb); have n5_ := Aside0.mk (blk_below (g := gb362) (o := .cells #[.int .u64 t357, .string t358, .bool t359, .int .i64 t360] 25 (0, 0)) (by (with_reducible repeat (first | refine blk_drewN ?_ _ | refine blk_drew ?_ | refine blk_alloc ?_ _)); exact BK362.out) hb); have n6_ := Aside0.mk (below_step (by repeat (first | (with_reducible first | exact HB.out | apply below_alloc | apply pw_below_drewN | apply below_drew1 | refine below_set ?_ GE331.out | refine below_set ?_ GE339.out | refine below_set ?_ GE362.out) | exact HB.out)) hb); clear HO_3; clear HO365; clear BK331; clear BK339; clear BK362; clear HB; have HO_3 := n0_; have HO365 := n1_; have HO371 := n2_; have BK331 := n3_; have BK339 := n4_; have BK362 := n5_; have HB := n6_; clear n0_ n1_ n2_ n3_ n4_ n5_ n6_; (try clear hb); (try clear hb2); (try clear hk); (try clear hi); (try clear ho0); obtain ⟨Ao61, co61, eo61⟩ := Kd.R_slice HO371.out; subst eo61) | ((with_reducible refine gate_callee (f := 16) rfl ?_); refine goesL_ (some 108) rfl rfl Try.func16 (by kernel_rfl) rfl #[.slice Ao61 t368.length co61, .slice Ao17 t332.length co17] rfl (by (try simp only [List.map_toArray, List.map_cons, List.map_nil]); first | done | rfl | (simp only [List.length_drop, List.length_take]; rfl)) ?_; (with_reducible refine (cellarerref05_Same.calls kj37 _ _ t368 _ _ t332 true _ ?side1 ?side2 ?side3 ?side4 A50.out).mono ?_); (case side1 => repeat (first | exact (Kd.R_reads' HO371.out).2.2 | (with_reducible refine Kd.C_alloc ?_ _) | (with_reducible refine Kd.C_drewN ?_ _) | (with_reducible refine Kd.C_drew ?_))); (case side2 => exact (Kd.R_reads' HO371.out).2.1); (case side3 => repeat (first | exact (Kd.R_reads' HO_3.out).2.2 | (with_reducible refine Kd.C_alloc ?_ _) | (with_reducible refine Kd.C_drewN ?_ _) | (with_reducible refine Kd.C_drew ?_))); (case side4 => exact (Kd.R_reads' HO_3.out).2.1); rintro e w' ⟨rfl, ⟨nd, rfl⟩⟩; refine ⟨_, rfl, ?_⟩) | (go_at_call 19; (with_reducible refine (cellarerlaw05_awake.calls  t373 _ A53.out).mono ?_); rintro e w62 ⟨rfl, hb⟩; have n0_ := Aside0.mk (Kd.R_below (by (with_reducible repeat (first | apply Kd.R_alloc | apply Kd.R_drewN | apply Kd.R_drew)); exact HO_3.out) hb); have n1_ := Aside0.mk (Kd.R_below (by (with_reducible repeat (first | apply Kd.R_alloc | apply Kd.R_drewN | apply Kd.R_drew)); exact HO365.out) hb); have n2_ := Aside0.mk (Kd.R_below (by (with_reducible repeat (first | apply Kd.R_alloc | apply Kd.R_drewN | apply Kd.R_drew)); exact HO371.out) hb); have n3_ := Aside0.mk (blk_below (g := gb331) (o := .cells #[.slice A0_0 l0_0.length c0_0, .int .u64 a0_1, .int .u64 a0_2, .int .u64 a0_3, .string a0_4, .bool a0_5, .int .i64 a0_6] 56 (0, 0)) (by (with_reducible repeat (first | refine blk_drewN ?_ _ | refine blk_drew ?_ | refine blk_alloc ?_ _)); exact BK331.out) hb); have n4_ := Aside0.mk (blk_below (g := gb339) (o := .cells #[.int .u64 t335, .string t336, .bool t337, .int .i64 t338] 25 (0, 0)) (by (with_reducible repeat (first | refine blk_drewN ?_ _ | refine blk_drew ?_ | refine blk_alloc ?_ _)); exact BK339.out) hb); have n5_ := Aside0.mk (blk_below (g := gb362) (o := .cells #[.int .u64 t357, .string t358, .bool t359, .int .i64 t360] 25 (0, 0)) (by (with_reducible repeat (first | refine blk_drewN ?_ _ | refine blk_drew ?_ | refine blk_alloc ?_ _)); exact BK362.out) hb); have n6_ := Aside0.mk (below_step (by repeat (first | (with_reducible first | exact HB.out | apply below_alloc | apply pw_below_drewN | apply below_drew1 | refine below_set ?_ GE331.out | refine below_set ?_ GE339.out | refine below_set ?_ GE362.out) | exact HB.out)) hb); clear HO_3; clear HO365; clear HO371; clear BK331; clear BK339; clear BK362; clear HB; have HO_3 := n0_; have HO365 := n1_; have HO371 := n2_; have BK331 := n3_; have BK339 := n4_; have BK362 := n5_; have HB := n6_; clear n0_ n1_ n2_ n3_ n4_ n5_ n6_; (try clear hb); (try clear hb2); (try clear hk); (try clear hi)))
           go_ret
           exact ⟨by first | rfl | (simp [errW_none, errW_some] <;> rfl) | (simp [*, errW_none, errW_some] <;> rfl), by repeat (first | (with_reducible first | exact HB.out | apply below_alloc | apply pw_below_drewN | apply below_drew1 | refine below_set ?_ GE331.out | refine below_set ?_ GE339.out | refine below_set ?_ GE362.out) | exact HB.out)⟩
          ·rw [if_neg c52] at H
           have c52b0 : (t369 == 0) = false := beq_eq_false_iff_ne.mpr c52
           have c52b1 : (t369 != 0) = true := bne_iff_ne.mpr c52
           obtain rfl := Option.some.inj H
           have hnb63 := NB339_331.out
           have hnc63 := NB331_339.out
           have hnb64 := NB339_362.out
           have hnc64 := NB362_339.out
           have hcz65_0 : wc.cell? ⟨gb339, 0, none⟩ = some (.int .u64 t335) := (blk_cell BK339.out 0).trans rfl
           have hcz65_1 : wc.cell? ⟨gb339, 1, none⟩ = some (.string t336) := (blk_cell BK339.out 1).trans rfl
           have hcz65_2 : wc.cell? ⟨gb339, 2, none⟩ = some (.bool t337) := (blk_cell BK339.out 2).trans rfl
           have hcz65_3 : wc.cell? ⟨gb339, 3, none⟩ = some (.int .i64 t338) := (blk_cell BK339.out 3).trans rfl
           have hfz65_0 := blk_frozen BK339.out 0
           have hfz65_1 := blk_frozen BK339.out 1
           have hfz65_2 := blk_frozen BK339.out 2
           have hfz65_3 := blk_frozen BK339.out 3
           go_wp2_with (first | ((with_reducible refine gate_callee (f := 12) rfl ?_); refine goesL_ (some 93) rfl rfl Try.func12 (by kernel_rfl) rfl #[.slice Ao17 t332.length co17, .int .i64 1, .agg #[.int .u64 t335, .string t336, .bool t337, .int .i64 t338]] rfl (by (try simp only [List.map_toArray, List.map_cons, List.map_nil]); first | done | rfl | (simp only [List.length_drop, List.length_take]; rfl)) ?_; (with_reducible refine (chain_Put.calls _ _ t332 1 t335 t336 t337 t338 t363 t366 _ ?side1 ?side2 A47.out).mono ?_); (case side1 => repeat (first | exact (Kd.R_reads' HO_3.out).2.2 | (with_reducible refine Kd.C_alloc ?_ _) | (with_reducible refine Kd.C_drewN ?_ _) | (with_reducible refine Kd.C_drew ?_))); (case side2 => exact (Kd.R_reads' HO_3.out).2.1); rintro e w66 ⟨v364, rfl, ho0, hb⟩; refine ⟨_, rfl, ?_⟩; have n0_ := Aside0.mk (Kd.R_elder' (by (with_reducible repeat (first | apply Kd.R_alloc | apply Kd.R_drewN | apply Kd.R_drew)); exact HO_3.out) (Kd.R_base ho0) hb); have n1_ := Aside0.mk (Kd.R_lower (Kd.R_newB (Kd.R_newB (Kd.R_new' ho0 (Kd.R_lt (by (with_reducible repeat (first | apply Kd.R_alloc | apply Kd.R_drewN | apply Kd.R_drew)); exact HO_3.out))) (g := gb339) (o := .cells #[.int .u64 t335, .string t336, .bool t337, .int .i64 t338] 25 (0, 0)) (by (with_reducible repeat (first | refine blk_drewN ?_ _ | refine blk_drew ?_ | refine blk_alloc ?_ _)); exact BK339.out)) (g := gb362) (o := .cells #[.int .u64 t357, .string t358, .bool t359, .int .i64 t360] 25 (0, 0)) (by (with_reducible repeat (first | refine blk_drewN ?_ _ | refine blk_drew ?_ | refine blk_alloc ?_ _)); exact BK362.out)) (below_size (by repeat (first | (with_reducible first | exact HB.out | apply below_alloc | apply pw_below_drewN | apply below_drew1 | refine below_set ?_ GE331.out | refine below_set ?_ GE339.out | refine below_set ?_ GE362.out) | exact HB.out)))); have n2_ := Aside0.mk (blk_below (g := gb331) (o := .cells #[.slice A0_0 l0_0.length c0_0, .int .u64 a0_1, .int .u64 a0_2, .int .u64 a0_3, .string a0_4, .bool a0_5, .int .i64 a0_6] 56 (0, 0)) (by (with_reducible repeat (first | refine blk_drewN ?_ _ | refine blk_drew ?_ | refine blk_alloc ?_ _)); exact BK331.out) hb); have n3_ := Aside0.mk (blk_below (g := gb339) (o := .cells #[.int .u64 t335, .string t336, .bool t337, .int .i64 t338] 25 (0, 0)) (by (with_reducible repeat (first | refine blk_drewN ?_ _ | refine blk_drew ?_ | refine blk_alloc ?_ _)); exact BK339.out) hb); have n4_ := Aside0.mk (blk_below (g := gb362) (o := .cells #[.int .u64 t357, .string t358, .bool t359, .int .i64 t360] 25 (0, 0)) (by (with_reducible repeat (first | refine blk_drewN ?_ _ | refine blk_drew ?_ | refine blk_alloc ?_ _)); exact BK362.out) hb); have n5_ := Aside0.mk (below_step (by repeat (first | (with_reducible first | exact HB.out | apply below_alloc | apply pw_below_drewN | apply below_drew1 | refine below_set ?_ GE331.out | refine below_set ?_ GE339.out | refine below_set ?_ GE362.out) | exact HB.out)) hb); clear HO_3; clear BK331; clear BK339; clear BK362; clear HB; have HO_3 := n0_; have HO365 := n1_; have BK331 := n2_; have BK339 := n3_; have BK362 := n4_; have HB := n5_; clear n0_ n1_ n2_ n3_ n4_ n5_; (try clear hb); (try clear hb2); (try clear hk); (try clear hi); (try clear ho0); have hcz67_0 : w66.cell? ⟨gb339, 0, none⟩ = some (.int .u64 t335) := (blk_cell BK339.out 0).trans rfl; have hcz67_1 : w66.cell? ⟨gb339, 1, none⟩ = some (.string t336) := (blk_cell BK339.out 1).trans rfl; have hcz67_2 : w66.cell? ⟨gb339, 2, none⟩ = some (.bool t337) := (blk_cell BK339.out 2).trans rfl; have hcz67_3 : w66.cell? ⟨gb339, 3, none⟩ = some (.int .i64 t338) := (blk_cell BK339.out 3).trans rfl; have hfz67_0 := blk_frozen BK339.out 0; have hfz67_1 := blk_frozen BK339.out 1; have hfz67_2 := blk_frozen BK339.out 2; have hfz67_3 := blk_frozen BK339.out 3; obtain ⟨Ao68, co68, eo68⟩ := Kd.R_slice HO365.out; subst eo68) | ((with_reducible refine gate_callee (f := 20) rfl ?_); refine goesL_ (some 103) rfl rfl Try.func20 (by kernel_rfl) rfl #[.slice Ao68 t363.length co68, .int .u64 t335] rfl (by (try simp only [List.map_toArray, List.map_cons, List.map_nil]); first | done | rfl | (simp only [List.length_drop, List.length_take]; rfl)) ?_; (with_reducible refine (chain_Drop.calls kj37 _ _ t363 t335 t368 t369 _ ?side1 ?side2 A49.out).mono ?_); (case side1 => repeat (first | exact (Kd.R_reads' HO365.out).2.2 | (with_reducible refine Kd.C_alloc ?_ _) | (with_reducible refine Kd.C_drewN ?_ _) | (with_reducible refine Kd.C_drew ?_))); (case side2 => exact (Kd.R_reads' HO365.out).2.1); rintro e w69 ⟨v370, rfl, ho0, hb⟩; refine ⟨_, rfl, ?_⟩; have n0_ := Aside0.mk (Kd.R_elder' (by (with_reducible repeat (first | apply Kd.R_alloc | apply Kd.R_drewN | apply Kd.R_drew)); exact HO_3.out) (Kd.R_base ho0) hb); have n1_ := Aside0.mk (Kd.R_elder' (by (with_reducible repeat (first | apply Kd.R_alloc | apply Kd.R_drewN | apply Kd.R_drew)); exact HO365.out) (Kd.R_base ho0) hb); have n2_ := Aside0.mk (Kd.R_lower (Kd.R_newB (Kd.R_newB (Kd.R_new' (Kd.R_new' ho0 (Kd.R_lt (by (with_reducible repeat (first | apply Kd.R_alloc | apply Kd.R_drewN | apply Kd.R_drew)); exact HO_3.out))) (Kd.R_lt (by (with_reducible repeat (first | apply Kd.R_alloc | apply Kd.R_drewN | apply Kd.R_drew)); exact HO365.out))) (g := gb339) (o := .cells #[.int .u64 t335, .string t336, .bool t337, .int .i64 t338] 25 (0, 0)) (by (with_reducible repeat (first | refine blk_drewN ?_ _ | refine blk_drew ?_ | refine blk_alloc ?_ _)); exact BK339.out)) (g := gb362) (o := .cells #[.int .u64 t357, .string t358, .bool t359, .int .i64 t360] 25 (0, 0)) (by (with_reducible repeat (first | refine blk_drewN ?_ _ | refine blk_drew ?_ | refine blk_alloc ?_ _)); exact BK362.out)) (below_size (by repeat (first | (with_reducible first | exact HB.out | apply below_alloc | apply pw_below_drewN | apply below_drew1 | refine below_set ?_ GE331.out | refine below_set ?_ GE339.out | refine below_set ?_ GE362.out) | exact HB.out)))); have n3_ := Aside0.mk (blk_below (g := gb331) (o := .cells #[.slice A0_0 l0_0.length c0_0, .int .u64 a0_1, .int .u64 a0_2, .int .u64 a0_3, .string a0_4, .bool a0_5, .int .i64 a0_6] 56 (0, 0)) (by (with_reducible repeat (first | refine blk_drewN ?_ _ | refine blk_drew ?_ | refine blk_alloc ?_ _)); exact BK331.out) hb); have n4_ := Aside0.mk (blk_below (g := gb339) (o := .cells #[.int .u64 t335, .string t336, .bool t337, .int .i64 t338] 25 (0, 0)) (by (with_reducible repeat (first | refine blk_drewN ?_ _ | refine blk_drew ?_ | refine blk_alloc ?_ _)); exact BK339.out) hb); have n5_ := Aside0.mk (blk_below (g := gb362) (o := .cells #[.int .u64 t357, .string t358, .bool t359, .int .i64 t360] 25 (0, 0)) (by (with_reducible repeat (first | refine blk_drewN ?_ _ | refine blk_drew ?_ | refine blk_alloc ?_ _)); exact BK362.out) hb); have n6_ := Aside0.mk (below_step (by repeat (first | (with_reducible first | exact HB.out | apply below_alloc | apply pw_below_drewN | apply below_drew1 | refine below_set ?_ GE331.out | refine below_set ?_ GE339.out | refine below_set ?_ GE362.out) | exact HB.out)) hb); clear HO_3; clear HO365; clear BK331; clear BK339; clear BK362; clear HB; have HO_3 := n0_; have HO365 := n1_; have HO371 := n2_; have BK331 := n3_; have BK339 := n4_; have BK362 := n5_; have HB := n6_; clear n0_ n1_ n2_ n3_ n4_ n5_ n6_; (try clear hb); (try clear hb2); (try clear hk); (try clear hi); (try clear ho0); obtain ⟨Ao70, co70, eo70⟩ := Kd.R_slice HO371.out; subst eo70) | ((with_reducible refine gate_callee (f := 16) rfl ?_); refine goesL_ (some 108) rfl rfl Try.func16 (by kernel_rfl) rfl #[.slice Ao70 t368.length co70, .slice Ao17 t332.length co17] rfl (by (try simp only [List.map_toArray, List.map_cons, List.map_nil]); first | done | rfl | (simp only [List.length_drop, List.length_take]; rfl)) ?_; (with_reducible refine (cellarerref05_Same.calls kj37 _ _ t368 _ _ t332 true _ ?side1 ?side2 ?side3 ?side4 A50.out).mono ?_); (case side1 => repeat (first | exact (Kd.R_reads' HO371.out).2.2 | (with_reducible refine Kd.C_alloc ?_ _) | (with_reducible refine Kd.C_drewN ?_ _) | (with_reducible refine Kd.C_drew ?_))); (case side2 => exact (Kd.R_reads' HO371.out).2.1); (case side3 => repeat (first | exact (Kd.R_reads' HO_3.out).2.2 | (with_reducible refine Kd.C_alloc ?_ _) | (with_reducible refine Kd.C_drewN ?_ _) | (with_reducible refine Kd.C_drew ?_))); (case side4 => exact (Kd.R_reads' HO_3.out).2.1); rintro e w' ⟨rfl, ⟨nd, rfl⟩⟩; refine ⟨_, rfl, ?_⟩))
           go_ret
           exact ⟨by first | rfl | (simp [errW_none, errW_some] <;> rfl) | (simp [*, errW_none, errW_some] <;> rfl), by repeat (first | (with_reducible first | exact HB.out | apply below_alloc | apply pw_below_drewN | apply below_drew1 | refine below_set ?_ GE331.out | refine below_set ?_ GE339.out | refine below_set ?_ GE362.out) | exact HB.out)⟩
         ·replace c51 := Bool.eq_false_iff.mpr c51
          subst c51
          have H1 : (some false) = some r := by rw [if_neg (show ¬ (false = true) by decide)] at H; exact H
          clear H
          have H := H1
          clear H1
          obtain rfl := Option.some.inj H
          have hnb71 := NB339_331.out
          have hnc71 := NB331_339.out
          have hnb72 := NB339_362.out
          have hnc72 := NB362_339.out
          have hcz73_0 : wc.cell? ⟨gb339, 0, none⟩ = some (.int .u64 t335) := (blk_cell BK339.out 0).trans rfl
          have hcz73_1 : wc.cell? ⟨gb339, 1, none⟩ = some (.string t336) := (blk_cell BK339.out 1).trans rfl
          have hcz73_2 : wc.cell? ⟨gb339, 2, none⟩ = some (.bool t337) := (blk_cell BK339.out 2).trans rfl
          have hcz73_3 : wc.cell? ⟨gb339, 3, none⟩ = some (.int .i64 t338) := (blk_cell BK339.out 3).trans rfl
          have hfz73_0 := blk_frozen BK339.out 0
          have hfz73_1 := blk_frozen BK339.out 1
          have hfz73_2 := blk_frozen BK339.out 2
          have hfz73_3 := blk_frozen BK339.out 3
          go_wp2_with (first | ((with_reducible refine gate_callee (f := 12) rfl ?_); refine goesL_ (some 93) rfl rfl Try.func12 (by kernel_rfl) rfl #[.slice Ao17 t332.length co17, .int .i64 1, .agg #[.int .u64 t335, .string t336, .bool t337, .int .i64 t338]] rfl (by (try simp only [List.map_toArray, List.map_cons, List.map_nil]); first | done | rfl | (simp only [List.length_drop, List.length_take]; rfl)) ?_; (with_reducible refine (chain_Put.calls _ _ t332 1 t335 t336 t337 t338 t363 t366 _ ?side1 ?side2 A47.out).mono ?_); (case side1 => repeat (first | exact (Kd.R_reads' HO_3.out).2.2 | (with_reducible refine Kd.C_alloc ?_ _) | (with_reducible refine Kd.C_drewN ?_ _) | (with_reducible refine Kd.C_drew ?_))); (case side2 => exact (Kd.R_reads' HO_3.out).2.1); rintro e w74 ⟨v364, rfl, ho0, hb⟩; refine ⟨_, rfl, ?_⟩; have n0_ := Aside0.mk (Kd.R_elder' (by (with_reducible repeat (first | apply Kd.R_alloc | apply Kd.R_drewN | apply Kd.R_drew)); exact HO_3.out) (Kd.R_base ho0) hb); have n1_ := Aside0.mk (Kd.R_lower (Kd.R_newB (Kd.R_newB (Kd.R_new' ho0 (Kd.R_lt (by (with_reducible repeat (first | apply Kd.R_alloc | apply Kd.R_drewN | apply Kd.R_drew)); exact HO_3.out))) (g := gb339) (o := .cells #[.int .u64 t335, .string t336, .bool t337, .int .i64 t338] 25 (0, 0)) (by (with_reducible repeat (first | refine blk_drewN ?_ _ | refine blk_drew ?_ | refine blk_alloc ?_ _)); exact BK339.out)) (g := gb362) (o := .cells #[.int .u64 t357, .string t358, .bool t359, .int .i64 t360] 25 (0, 0)) (by (with_reducible repeat (first | refine blk_drewN ?_ _ | refine blk_drew ?_ | refine blk_alloc ?_ _)); exact BK362.out)) (below_size (by repeat (first | (with_reducible first | exact HB.out | apply below_alloc | apply pw_below_drewN | apply below_drew1 | refine below_set ?_ GE331.out | refine below_set ?_ GE339.out | refine below_set ?_ GE362.out) | exact HB.out)))); have n2_ := Aside0.mk (blk_below (g := gb331) (o := .cells #[.slice A0_0 l0_0.length c0_0, .int .u64 a0_1, .int .u64 a0_2, .int .u64 a0_3, .string a0_4, .bool a0_5, .int .i64 a0_6] 56 (0, 0)) (by (with_reducible repeat (first | refine blk_drewN ?_ _ | refine blk_drew ?_ | refine blk_alloc ?_ _)); exact BK331.out) hb); have n3_ := Aside0.mk (blk_below (g := gb339) (o := .cells #[.int .u64 t335, .string t336, .bool t337, .int .i64 t338] 25 (0, 0)) (by (with_reducible repeat (first | refine blk_drewN ?_ _ | refine blk_drew ?_ | refine blk_alloc ?_ _)); exact BK339.out) hb); have n4_ := Aside0.mk (blk_below (g := gb362) (o := .cells #[.int .u64 t357, .string t358, .bool t359, .int .i64 t360] 25 (0, 0)) (by (with_reducible repeat (first | refine blk_drewN ?_ _ | refine blk_drew ?_ | refine blk_alloc ?_ _)); exact BK362.out) hb); have n5_ := Aside0.mk (below_step (by repeat (first | (with_reducible first | exact HB.out | apply below_alloc | apply pw_below_drewN | apply below_drew1 | refine below_set ?_ GE331.out | refine below_set ?_ GE339.out | refine below_set ?_ GE362.out) | exact HB.out)) hb); clear HO_3; clear BK331; clear BK339; clear BK362; clear HB; have HO_3 := n0_; have HO365 := n1_; have BK331 := n2_; have BK339 := n3_; have BK362 := n4_; have HB := n5_; clear n0_ n1_ n2_ n3_ n4_ n5_; (try clear hb); (try clear hb2); (try clear hk); (try clear hi); (try clear ho0); have hcz75_0 : w74.cell? ⟨gb339, 0, none⟩ = some (.int .u64 t335) := (blk_cell BK339.out 0).trans rfl; have hcz75_1 : w74.cell? ⟨gb339, 1, none⟩ = some (.string t336) := (blk_cell BK339.out 1).trans rfl; have hcz75_2 : w74.cell? ⟨gb339, 2, none⟩ = some (.bool t337) := (blk_cell BK339.out 2).trans rfl; have hcz75_3 : w74.cell? ⟨gb339, 3, none⟩ = some (.int .i64 t338) := (blk_cell BK339.out 3).trans rfl; have hfz75_0 := blk_frozen BK339.out 0; have hfz75_1 := blk_frozen BK339.out 1; have hfz75_2 := blk_frozen BK339.out 2; have hfz75_3 := blk_frozen BK339.out 3; obtain ⟨Ao76, co76, eo76⟩ := Kd.R_slice HO365.out; subst eo76) | ((with_reducible refine gate_callee (f := 20) rfl ?_); refine goesL_ (some 103) rfl rfl Try.func20 (by kernel_rfl) rfl #[.slice Ao76 t363.length co76, .int .u64 t335] rfl (by (try simp only [List.map_toArray, List.map_cons, List.map_nil]); first | done | rfl | (simp only [List.length_drop, List.length_take]; rfl)) ?_; (with_reducible refine (chain_Drop.calls kj37 _ _ t363 t335 t368 t369 _ ?side1 ?side2 A49.out).mono ?_); (case side1 => repeat (first | exact (Kd.R_reads' HO365.out).2.2 | (with_reducible refine Kd.C_alloc ?_ _) | (with_reducible refine Kd.C_drewN ?_ _) | (with_reducible refine Kd.C_drew ?_))); (case side2 => exact (Kd.R_reads' HO365.out).2.1); rintro e w77 ⟨v370, rfl, ho0, hb⟩; refine ⟨_, rfl, ?_⟩; have n0_ := Aside0.mk (Kd.R_elder' (by (with_reducible repeat (first | apply Kd.R_alloc | apply Kd.R_drewN | apply Kd.R_drew)); exact HO_3.out) (Kd.R_base ho0) hb); have n1_ := Aside0.mk (Kd.R_elder' (by (with_reducible repeat (first | apply Kd.R_alloc | apply Kd.R_drewN | apply Kd.R_drew)); exact HO365.out) (Kd.R_base ho0) hb); have n2_ := Aside0.mk (Kd.R_lower (Kd.R_newB (Kd.R_newB (Kd.R_new' (Kd.R_new' ho0 (Kd.R_lt (by (with_reducible repeat (first | apply Kd.R_alloc | apply Kd.R_drewN | apply Kd.R_drew)); exact HO_3.out))) (Kd.R_lt (by (with_reducible repeat (first | apply Kd.R_alloc | apply Kd.R_drewN | apply Kd.R_drew)); exact HO365.out))) (g := gb339) (o := .cells #[.int .u64 t335, .string t336, .bool t337, .int .i64 t338] 25 (0, 0)) (by (with_reducible repeat (first | refine blk_drewN ?_ _ | refine blk_drew ?_ | refine blk_alloc ?_ _)); exact BK339.out)) (g := gb362) (o := .cells #[.int .u64 t357, .string t358, .bool t359, .int .i64 t360] 25 (0, 0)) (by (with_reducible repeat (first | refine blk_drewN ?_ _ | refine blk_drew ?_ | refine blk_alloc ?_ _)); exact BK362.out)) (below_size (by repeat (first | (with_reducible first | exact HB.out | apply below_alloc | apply pw_below_drewN | apply below_drew1 | refine below_set ?_ GE331.out | refine below_set ?_ GE339.out | refine below_set ?_ GE362.out) | exact HB.out)))); have n3_ := Aside0.mk (blk_below (g := gb331) (o := .cells #[.slice A0_0 l0_0.length c0_0, .int .u64 a0_1, .int .u64 a0_2, .int .u64 a0_3, .string a0_4, .bool a0_5, .int .i64 a0_6] 56 (0, 0)) (by (with_reducible repeat (first | refine blk_drewN ?_ _ | refine blk_drew ?_ | refine blk_alloc ?_ _)); exact BK331.out) hb); have n4_ := Aside0.mk (blk_below (g := gb339) (o := .cells #[.int .u64 t335, .string t336, .bool t337, .int .i64 t338] 25 (0, 0)) (by (with_reducible repeat (first | refine blk_drewN ?_ _ | refine blk_drew ?_ | refine blk_alloc ?_ _)); exact BK339.out) hb); have n5_ := Aside0.mk (blk_below (g := gb362) (o := .cells #[.int .u64 t357, .string t358, .bool t359, .int .i64 t360] 25 (0, 0)) (by (with_reducible repeat (first | refine blk_drewN ?_ _ | refine blk_drew ?_ | refine blk_alloc ?_ _)); exact BK362.out) hb); have n6_ := Aside0.mk (below_step (by repeat (first | (with_reducible first | exact HB.out | apply below_alloc | apply pw_below_drewN | apply below_drew1 | refine below_set ?_ GE331.out | refine below_set ?_ GE339.out | refine below_set ?_ GE362.out) | exact HB.out)) hb); clear HO_3; clear HO365; clear BK331; clear BK339; clear BK362; clear HB; have HO_3 := n0_; have HO365 := n1_; have HO371 := n2_; have BK331 := n3_; have BK339 := n4_; have BK362 := n5_; have HB := n6_; clear n0_ n1_ n2_ n3_ n4_ n5_ n6_; (try clear hb); (try clear hb2); (try clear hk); (try clear hi); (try clear ho0); obtain ⟨Ao78, co78, eo78⟩ := Kd.R_slice HO371.out; subst eo78) | ((with_reducible refine gate_callee (f := 16) rfl ?_); refine goesL_ (some 108) rfl rfl Try.func16 (by kernel_rfl) rfl #[.slice Ao78 t368.length co78, .slice Ao17 t332.length co17] rfl (by (try simp only [List.map_toArray, List.map_cons, List.map_nil]); first | done | rfl | (simp only [List.length_drop, List.length_take]; rfl)) ?_; (with_reducible refine (cellarerref05_Same.calls kj37 _ _ t368 _ _ t332 false _ ?side1 ?side2 ?side3 ?side4 A50.out).mono ?_); (case side1 => repeat (first | exact (Kd.R_reads' HO371.out).2.2 | (with_reducible refine Kd.C_alloc ?_ _) | (with_reducible refine Kd.C_drewN ?_ _) | (with_reducible refine Kd.C_drew ?_))); (case side2 => exact (Kd.R_reads' HO371.out).2.1); (case side3 => repeat (first | exact (Kd.R_reads' HO_3.out).2.2 | (with_reducible refine Kd.C_alloc ?_ _) | (with_reducible refine Kd.C_drewN ?_ _) | (with_reducible refine Kd.C_drew ?_))); (case side4 => exact (Kd.R_reads' HO_3.out).2.1); rintro e w' ⟨rfl, ⟨nd, rfl⟩⟩; refine ⟨_, rfl, ?_⟩))
          go_ret
          exact ⟨by first | rfl | (simp [errW_none, errW_some] <;> rfl) | (simp [*, errW_none, errW_some] <;> rfl), by repeat (first | (with_reducible first | exact HB.out | apply below_alloc | apply pw_below_drewN | apply below_drew1 | refine below_set ?_ GE331.out | refine below_set ?_ GE339.out | refine below_set ?_ GE362.out) | exact HB.out)⟩
        ·rw [if_neg c48] at H
         have c48b0 : (t366 == 0) = false := beq_eq_false_iff_ne.mpr c48
         have c48b1 : (t366 != 0) = true := bne_iff_ne.mpr c48
         replace H := Option.bind_eq_some_iff.mp H
         obtain ⟨t367, A790, H⟩ := H
         replace H : (some t367) = some r := H
         have A79 := Aside0.mk A790
         clear A790
         obtain rfl := Option.some.inj H
         have hnb80 := NB339_331.out
         have hnc80 := NB331_339.out
         have hnb81 := NB339_362.out
         have hnc81 := NB362_339.out
         have hcz82_0 : wc.cell? ⟨gb339, 0, none⟩ = some (.int .u64 t335) := (blk_cell BK339.out 0).trans rfl
         have hcz82_1 : wc.cell? ⟨gb339, 1, none⟩ = some (.string t336) := (blk_cell BK339.out 1).trans rfl
         have hcz82_2 : wc.cell? ⟨gb339, 2, none⟩ = some (.bool t337) := (blk_cell BK339.out 2).trans rfl
         have hcz82_3 : wc.cell? ⟨gb339, 3, none⟩ = some (.int .i64 t338) := (blk_cell BK339.out 3).trans rfl
         have hfz82_0 := blk_frozen BK339.out 0
         have hfz82_1 := blk_frozen BK339.out 1
         have hfz82_2 := blk_frozen BK339.out 2
         have hfz82_3 := blk_frozen BK339.out 3
         go_wp2_with (first | ((with_reducible refine gate_callee (f := 12) rfl ?_); refine goesL_ (some 93) rfl rfl Try.func12 (by kernel_rfl) rfl #[.slice Ao17 t332.length co17, .int .i64 1, .agg #[.int .u64 t335, .string t336, .bool t337, .int .i64 t338]] rfl (by (try simp only [List.map_toArray, List.map_cons, List.map_nil]); first | done | rfl | (simp only [List.length_drop, List.length_take]; rfl)) ?_; (with_reducible refine (chain_Put.calls _ _ t332 1 t335 t336 t337 t338 t363 t366 _ ?side1 ?side2 A47.out).mono ?_); (case side1 => repeat (first | exact (Kd.R_reads' HO_3.out).2.2 | (with_reducible refine Kd.C_alloc ?_ _) | (with_reducible refine Kd.C_drewN ?_ _) | (with_reducible refine Kd.C_drew ?_))); (case side2 => exact (Kd.R_reads' HO_3.out).2.1); rintro e w83 ⟨v364, rfl, ho0, hb⟩; refine ⟨_, rfl, ?_⟩; have n0_ := Aside0.mk (Kd.R_elder' (by (with_reducible repeat (first | apply Kd.R_alloc | apply Kd.R_drewN | apply Kd.R_drew)); exact HO_3.out) (Kd.R_base ho0) hb); have n1_ := Aside0.mk (Kd.R_lower (Kd.R_newB (Kd.R_newB (Kd.R_new' ho0 (Kd.R_lt (by (with_reducible repeat (first | apply Kd.R_alloc | apply Kd.R_drewN | apply Kd.R_drew)); exact HO_3.out))) (g := gb339) (o := .cells #[.int .u64 t335, .string t336, .bool t337, .int .i64 t338] 25 (0, 0)) (by (with_reducible repeat (first | refine blk_drewN ?_ _ | refine blk_drew ?_ | refine blk_alloc ?_ _)); exact BK339.out)) (g := gb362) (o := .cells #[.int .u64 t357, .string t358, .bool t359, .int .i64 t360] 25 (0, 0)) (by (with_reducible repeat (first | refine blk_drewN ?_ _ | refine blk_drew ?_ | refine blk_alloc ?_ _)); exact BK362.out)) (below_size (by repeat (first | (with_reducible first | exact HB.out | apply below_alloc | apply pw_below_drewN | apply below_drew1 | refine below_set ?_ GE331.out | refine below_set ?_ GE339.out | refine below_set ?_ GE362.out) | exact HB.out)))); have n2_ := Aside0.mk (blk_below (g := gb331) (o := .cells #[.slice A0_0 l0_0.length c0_0, .int .u64 a0_1, .int .u64 a0_2, .int .u64 a0_3, .string a0_4, .bool a0_5, .int .i64 a0_6] 56 (0, 0)) (by (with_reducible repeat (first | refine blk_drewN ?_ _ | refine blk_drew ?_ | refine blk_alloc ?_ _)); exact BK331.out) hb); have n3_ := Aside0.mk (blk_below (g := gb339) (o := .cells #[.int .u64 t335, .string t336, .bool t337, .int .i64 t338] 25 (0, 0)) (by (with_reducible repeat (first | refine blk_drewN ?_ _ | refine blk_drew ?_ | refine blk_alloc ?_ _)); exact BK339.out) hb); have n4_ := Aside0.mk (blk_below (g := gb362) (o := .cells #[.int .u64 t357, .string t358, .bool t359, .int .i64 t360] 25 (0, 0)) (by (with_reducible repeat (first | refine blk_drewN ?_ _ | refine blk_drew ?_ | refine blk_alloc ?_ _)); exact BK362.out) hb); have n5_ := Aside0.mk (below_step (by repeat (first | (with_reducible first | exact HB.out | apply below_alloc | apply pw_below_drewN | apply below_drew1 | refine below_set ?_ GE331.out | refine below_set ?_ GE339.out | refine below_set ?_ GE362.out) | exact HB.out)) hb); clear HO_3; clear BK331; clear BK339; clear BK362; clear HB; have HO_3 := n0_; have HO365 := n1_; have BK331 := n2_; have BK339 := n3_; have BK362 := n4_; have HB := n5_; clear n0_ n1_ n2_ n3_ n4_ n5_; (try clear hb); (try clear hb2); (try clear hk); (try clear hi); (try clear ho0)) | ((with_reducible refine gate_callee (f := 19) rfl ?_); refine goesL_ (some 98) rfl rfl Try.func19 (by kernel_rfl) rfl #[] rfl (by (try simp only [List.map_toArray, List.map_cons, List.map_nil]); first | done | rfl | (simp only [List.length_drop, List.length_take]; rfl)) ?_; (with_reducible refine (cellarerlaw05_awake.calls  t367 _ A79.out).mono ?_); rintro e w84 ⟨rfl, hb⟩; refine ⟨_, rfl, ?_⟩; have n0_ := Aside0.mk (Kd.R_below (by (with_reducible repeat (first | apply Kd.R_alloc | apply Kd.R_drewN | apply Kd.R_drew)); exact HO_3.out) hb); have n1_ := Aside0.mk (Kd.R_below (by (with_reducible repeat (first | apply Kd.R_alloc | apply Kd.R_drewN | apply Kd.R_drew)); exact HO365.out) hb); have n2_ := Aside0.mk (blk_below (g := gb331) (o := .cells #[.slice A0_0 l0_0.length c0_0, .int .u64 a0_1, .int .u64 a0_2, .int .u64 a0_3, .string a0_4, .bool a0_5, .int .i64 a0_6] 56 (0, 0)) (by (with_reducible repeat (first | refine blk_drewN ?_ _ | refine blk_drew ?_ | refine blk_alloc ?_ _)); exact BK331.out) hb); have n3_ := Aside0.mk (blk_below (g := gb339) (o := .cells #[.int .u64 t335, .string t336, .bool t337, .int .i64 t338] 25 (0, 0)) (by (with_reducible repeat (first | refine blk_drewN ?_ _ | refine blk_drew ?_ | refine blk_alloc ?_ _)); exact BK339.out) hb); have n4_ := Aside0.mk (blk_below (g := gb362) (o := .cells #[.int .u64 t357, .string t358, .bool t359, .int .i64 t360] 25 (0, 0)) (by (with_reducible repeat (first | refine blk_drewN ?_ _ | refine blk_drew ?_ | refine blk_alloc ?_ _)); exact BK362.out) hb); have n5_ := Aside0.mk (below_step (by repeat (first | (with_reducible first | exact HB.out | apply below_alloc | apply pw_below_drewN | apply below_drew1 | refine below_set ?_ GE331.out | refine below_set ?_ GE339.out | refine below_set ?_ GE362.out) | exact HB.out)) hb); clear HO_3; clear HO365; clear BK331; clear BK339; clear BK362; clear HB; have HO_3 := n0_; have HO365 := n1_; have BK331 := n2_; have BK339 := n3_; have BK362 := n4_; have HB := n5_; clear n0_ n1_ n2_ n3_ n4_ n5_; (try clear hb); (try clear hb2); (try clear hk); (try clear hi)))
         go_ret
         exact ⟨by first | rfl | (simp [errW_none, errW_some] <;> rfl) | (simp [*, errW_none, errW_some] <;> rfl), by repeat (first | (with_reducible first | exact HB.out | apply below_alloc | apply pw_below_drewN | apply below_drew1 | refine below_set ?_ GE331.out | refine below_set ?_ GE339.out | refine below_set ?_ GE362.out) | exact HB.out)⟩

/-- THE ONE PURE STATEMENT of cellarerlaw05_ChainTurns. -/
-- GIVEN cellarerlaw05_ChainTurns.Pure
def cellarerlaw05_ChainTurns.Pure : Prop := ∀ (l0_0 : List (S25)) (a0_1 : Int) (a0_2 : Int) (a0_3 : Int) (a0_4 : ByteArray) (a0_5 : Bool) (a0_6 : Int), okS56 (⟨l0_0, a0_1, a0_2, (⟨a0_3, a0_4, a0_5, a0_6⟩ : S25)⟩ : S56) → ∃ k, cellarerlaw05_ChainTurns.f k l0_0 a0_1 a0_2 a0_3 a0_4 a0_5 a0_6 = some true

end Go.Proofs.Ytldmidoemcdaaaa.P
