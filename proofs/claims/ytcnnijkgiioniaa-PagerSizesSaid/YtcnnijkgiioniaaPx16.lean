/- Printed by a program of this session (wip/tools/gprint.py, over the kit's print) out of the translation: functions and their contracts. -/
import Derived.Test.YtcnnijkgiioniaaPx0
import Derived.Test.YtcnnijkgiioniaaPx2
import Derived.Test.YtcnnijkgiioniaaPx4
import Derived.Test.YtcnnijkgiioniaaPx7
import Derived.Test.YtcnnijkgiioniaaPx9
import Derived.Test.YtcnnijkgiioniaaPxOpens
namespace Go.Proofs.Ytcnnijkgiioniaa.P
open Go.RowKit Go.Proofs.YtcnnijkgiioniaaW.PrintWords Go.Proofs.YtcnnijkgiioniaaW.PrintLast Go.Proofs.YtcnnijkgiioniaaW.PrintMore
attribute [local go_sem] max2_int min2_int max_two min_two max_three min_three max_four min_four   -- for this text's walks alone
set_option linter.unusedVariables false
set_option linter.unusedSimpArgs false

/-! ### cellarerlaw07_PagerSizes: function 7 -/
mutual
def cellarerlaw07_PagerSizes.j0 : Nat → Int → Int → Int → Bool → List ByteArray → List ByteArray → Bool → ByteArray → List ByteArray → List ByteArray → Bool → ByteArray → List ByteArray → List ByteArray → Bool → ByteArray → Option (Bool)
  | 0, _, _, _, _, _, _, _, _, _, _, _, _, _, _, _, _ => none
  | k + 1, x8, x10, x12, x69, x381000, x381001, x381002, x381003, x391000, x391001, x391002, x391003, x401000, x401001, x401002, x401003 => if x69 = true then (if x8 = x10 then (if x10 = x12 then ((cellarerlaw07_awake.f).bind fun t401 => (some t401)) else (some false)) else (some false)) else (if (x381000.length : Int) > (x391000.length : Int) then (cellarerlaw07_PagerSizes.j1 k true x381000 x381001 x381002 x381003 x391000 x391001 x391002 x391003 x401000 x401001 x401002 x401003) else (if (x381001.length : Int) > (x391001.length : Int) then (cellarerlaw07_PagerSizes.j1 k true x381000 x381001 x381002 x381003 x391000 x391001 x391002 x391003 x401000 x401001 x401002 x401003) else (if x391002 = true then (cellarerlaw07_PagerSizes.j1 k (!x381002) x381000 x381001 x381002 x381003 x391000 x391001 x391002 x391003 x401000 x401001 x401002 x401003) else (cellarerlaw07_PagerSizes.j1 k false x381000 x381001 x381002 x381003 x391000 x391001 x391002 x391003 x401000 x401001 x401002 x401003))))
def cellarerlaw07_PagerSizes.j1 : Nat → Bool → List ByteArray → List ByteArray → Bool → ByteArray → List ByteArray → List ByteArray → Bool → ByteArray → List ByteArray → List ByteArray → Bool → ByteArray → Option (Bool)
  | 0, _, _, _, _, _, _, _, _, _, _, _, _, _ => none
  | k + 1, x105, x381000, x381001, x381002, x381003, x391000, x391001, x391002, x391003, x401000, x401001, x401002, x401003 => if x105 = true then (some false) else (if 0 ≤ (x381000.length : Int) then (if (x381000.length : Int) ≤ (x391000.length : Int) then ((cellarerref02_Same.f k x381000 (x391000.take ((x381000.length : Int) : Int).toNat)).bind fun t406 => (if t406 = true then (if 0 ≤ (x381001.length : Int) then (if (x381001.length : Int) ≤ (x391001.length : Int) then ((cellarerref02_Same.f k x381001 (x391001.take ((x381001.length : Int) : Int).toNat)).bind fun t411 => (if t411 = true then (if (wrap64 ((x401000.length : Int) + (x401001.length : Int))) = 0 then (if x401003.toList = ([] : List UInt8) then (if (wrap64 ((x391000.length : Int) + (x391001.length : Int))) > 0 then (if (x401002 == true) = true then ((cellarerlaw07_awake.f).bind fun t412 => (some t412)) else (some false)) else (if (x401002 == x391002) = true then ((cellarerlaw07_awake.f).bind fun t413 => (some t413)) else (some false))) else (some false)) else (some false)) else (some false))) else (none)) else (none)) else (some false))) else (none)) else (none))
end
def cellarerlaw07_PagerSizes.f (k : Nat) (l0_0 : List (S50)) (a0_1 : ByteArray) (a0_2 : ByteArray) (a0_3 : ByteArray) (a0_4 : Int) (a0_5 : Int) (a1 : Int) (a2 : Int) : Option (Bool) := (cellarerlaw07_cut.f k l0_0 a0_1 a0_2 a0_3 a0_4 a0_5).bind fun bt363 => ((pager_Keys.f k bt363.1 bt363.2.1 bt363.2.2.1 bt363.2.2.2.1 (wrap64 (mn a1 a2))).bind fun bt371 => ((pager_Keys.f k bt363.1 bt363.2.1 bt363.2.2.1 bt363.2.2.2.1 (wrap64 (mx a1 a2))).bind fun bt381 => ((pager_Keys.f k bt363.1 bt363.2.1 bt363.2.2.1 bt363.2.2.2.1 0).bind fun bt391 => (if bt371.2.2.2.2 = 0 then (if bt381.2.2.2.2 = 0 then (cellarerlaw07_PagerSizes.j0 k bt371.2.2.2.2 bt381.2.2.2.2 bt391.2.2.2.2 (bt391.2.2.2.2 != 0) bt371.1 bt371.2.1 bt371.2.2.1 bt371.2.2.2.1 bt381.1 bt381.2.1 bt381.2.2.1 bt381.2.2.2.1 bt391.1 bt391.2.1 bt391.2.2.1 bt391.2.2.2.1) else (cellarerlaw07_PagerSizes.j0 k bt371.2.2.2.2 bt381.2.2.2.2 bt391.2.2.2.2 true bt371.1 bt371.2.1 bt371.2.2.1 bt371.2.2.2.1 bt381.1 bt381.2.1 bt381.2.2.1 bt381.2.2.2.1 bt391.1 bt391.2.1 bt391.2.2.1 bt391.2.2.2.1)) else (cellarerlaw07_PagerSizes.j0 k bt371.2.2.2.2 bt381.2.2.2.2 bt391.2.2.2.2 true bt371.1 bt371.2.1 bt371.2.2.1 bt371.2.2.2.1 bt381.1 bt381.2.1 bt381.2.2.1 bt381.2.2.2.1 bt391.1 bt391.2.1 bt391.2.2.1 bt391.2.2.2.1)))))
theorem cellarerlaw07_PagerSizes.mono_l : ∀ k, (∀ y0 y1 y2 y3 y4 y5 y6 y7 y8 y9 y10 y11 y12 y13 y14 y15, LeO (cellarerlaw07_PagerSizes.j0 k y0 y1 y2 y3 y4 y5 y6 y7 y8 y9 y10 y11 y12 y13 y14 y15) (cellarerlaw07_PagerSizes.j0 (k + 1) y0 y1 y2 y3 y4 y5 y6 y7 y8 y9 y10 y11 y12 y13 y14 y15)) ∧ (∀ y0 y1 y2 y3 y4 y5 y6 y7 y8 y9 y10 y11 y12, LeO (cellarerlaw07_PagerSizes.j1 k y0 y1 y2 y3 y4 y5 y6 y7 y8 y9 y10 y11 y12) (cellarerlaw07_PagerSizes.j1 (k + 1) y0 y1 y2 y3 y4 y5 y6 y7 y8 y9 y10 y11 y12))
  | 0 => ⟨fun _ _ _ _ _ _ _ _ _ _ _ _ _ _ _ _ r h => by simp [cellarerlaw07_PagerSizes.j0] at h, fun _ _ _ _ _ _ _ _ _ _ _ _ _ r h => by simp [cellarerlaw07_PagerSizes.j1] at h⟩
  | k + 1 => by
    obtain ⟨ih0, ih1⟩ := cellarerlaw07_PagerSizes.mono_l k
    refine ⟨?_, ?_⟩
    · intro y0 y1 y2 y3 y4 y5 y6 y7 y8 y9 y10 y11 y12 y13 y14 y15
      unfold cellarerlaw07_PagerSizes.j0
      repeat' first
      | (with_reducible exact ih0 _ _ _ _ _ _ _ _ _ _ _ _ _ _ _ _)
      | (with_reducible exact ih1 _ _ _ _ _ _ _ _ _ _ _ _ _)
      | (with_reducible exact cellarerlaw07_cut.mono _ _ _ _ _ _ _)
      | (with_reducible exact cellarerref02_Same.mono _ _ _)
      | (with_reducible exact pager_Keys.mono _ _ _ _ _ _)
      | (with_reducible exact LeO.refl _)
      | (with_reducible exact LeO.none _)
      | (with_reducible refine LeO.ite ?_ ?_)
      | (with_reducible refine LeO.bind ?_ (fun _ => ?_))
      | exact ih0 _ _ _ _ _ _ _ _ _ _ _ _ _ _ _ _
      | exact ih1 _ _ _ _ _ _ _ _ _ _ _ _ _
      | exact cellarerlaw07_cut.mono _ _ _ _ _ _ _
      | exact cellarerref02_Same.mono _ _ _
      | exact pager_Keys.mono _ _ _ _ _ _
      | exact LeO.none _
      | refine LeO.ite ?_ ?_
      | refine LeO.bind ?_ (fun _ => ?_)
    · intro y0 y1 y2 y3 y4 y5 y6 y7 y8 y9 y10 y11 y12
      unfold cellarerlaw07_PagerSizes.j1
      repeat' first
      | (with_reducible exact ih0 _ _ _ _ _ _ _ _ _ _ _ _ _ _ _ _)
      | (with_reducible exact ih1 _ _ _ _ _ _ _ _ _ _ _ _ _)
      | (with_reducible exact cellarerlaw07_cut.mono _ _ _ _ _ _ _)
      | (with_reducible exact cellarerref02_Same.mono _ _ _)
      | (with_reducible exact pager_Keys.mono _ _ _ _ _ _)
      | (with_reducible exact LeO.refl _)
      | (with_reducible exact LeO.none _)
      | (with_reducible refine LeO.ite ?_ ?_)
      | (with_reducible refine LeO.bind ?_ (fun _ => ?_))
      | exact ih0 _ _ _ _ _ _ _ _ _ _ _ _ _ _ _ _
      | exact ih1 _ _ _ _ _ _ _ _ _ _ _ _ _
      | exact cellarerlaw07_cut.mono _ _ _ _ _ _ _
      | exact cellarerref02_Same.mono _ _ _
      | exact pager_Keys.mono _ _ _ _ _ _
      | exact LeO.none _
      | refine LeO.ite ?_ ?_
      | refine LeO.bind ?_ (fun _ => ?_)
theorem cellarerlaw07_PagerSizes.mono : ∀ a0 a1 a2 a3 a4 a5 a6 a7 k, LeO (cellarerlaw07_PagerSizes.f k a0 a1 a2 a3 a4 a5 a6 a7) (cellarerlaw07_PagerSizes.f (k + 1) a0 a1 a2 a3 a4 a5 a6 a7) := by
  intro a0 a1 a2 a3 a4 a5 a6 a7 k
  obtain ⟨ih0, ih1⟩ := cellarerlaw07_PagerSizes.mono_l k
  unfold cellarerlaw07_PagerSizes.f
  repeat' first
      | (with_reducible exact ih0 _ _ _ _ _ _ _ _ _ _ _ _ _ _ _ _)
      | (with_reducible exact ih1 _ _ _ _ _ _ _ _ _ _ _ _ _)
      | (with_reducible exact cellarerlaw07_cut.mono _ _ _ _ _ _ _)
      | (with_reducible exact cellarerref02_Same.mono _ _ _)
      | (with_reducible exact pager_Keys.mono _ _ _ _ _ _)
      | (with_reducible exact LeO.refl _)
      | (with_reducible exact LeO.none _)
      | (with_reducible refine LeO.ite ?_ ?_)
      | (with_reducible refine LeO.bind ?_ (fun _ => ?_))
      | exact ih0 _ _ _ _ _ _ _ _ _ _ _ _ _ _ _ _
      | exact ih1 _ _ _ _ _ _ _ _ _ _ _ _ _
      | exact cellarerlaw07_cut.mono _ _ _ _ _ _ _
      | exact cellarerref02_Same.mono _ _ _
      | exact pager_Keys.mono _ _ _ _ _ _
      | exact LeO.none _
      | refine LeO.ite ?_ ?_
      | refine LeO.bind ?_ (fun _ => ?_)
def cellarerlaw07_PagerSizes.T10 : Bool × List (List Nat × List Nat) := (true, [([], []), ([0], [0]), ([], []), ([2], [2]), ([], []), ([4], [4]), ([5], [5]), ([3, 6], [3, 6]), ([1, 7], [1, 7]), ([8, 8], [8]), ([9], [9]), ([10, 9], [9, 10]), ([9], [9]), ([12, 9], [9, 12]), ([9], [9]), ([14, 9], [9, 14]), ([15, 9], [9, 15]), ([13, 16, 9], [9, 13, 16]), ([11, 17, 9, 9], [9, 11, 17]), ([9, 18], [9, 18]), ([19, 18], [19]), ([20], [20]), ([21, 20], [20, 21]), ([22, 20], [20, 22]), ([20], [20]), ([24, 20], [20, 24]), ([25, 20], [20, 25]), ([23, 26, 20], [20, 23, 26]), ([27, 20], [20, 27]), ([20, 28], [20, 28]), ([29, 20], [29]), ([30], [30]), ([31, 30], [30, 31]), ([32, 30], [30, 32]), ([30, 33], [30, 33]), ([34, 30], [34]), ([35], [35]), ([36, 35], [35, 36]), ([35], [35]), ([38, 35], [35, 38]), ([39, 35, 35], [35, 39]), ([40], [40]), ([41, 40], [40, 41]), ([40, 42, 35], [35, 40, 42]), ([37, 43, 35], [35, 37, 43]), ([35, 44], [35, 44]), ([45, 40], [45]), ([46, 46], [46]), ([46, 47], [46, 47]), ([48, 47, 0, 1, 2, 3, 4, 5, 6, 7, 8, 9, 10, 11, 12, 13, 14, 15, 16, 17, 18, 19, 20, 21, 22, 23, 24, 25, 26, 27, 28, 29, 30, 31, 32, 33, 34, 35, 36, 37, 38, 39, 40, 41, 42, 43, 44, 45, 46, 47, 48], [48])])
def cellarerlaw07_PagerSizes.B10 : List Nat := [0, 1, 0, 4, 0, 16, 48, 124, 255, 511, 1023, 2047, 1023, 5119, 1023, 17407, 50175, 127999, 262143, 524287, 1048575, 2097151, 4194303, 8388607, 2097151, 18874367, 52428799, 134217727, 268435455, 536870911, 1073741823, 2147483647, 4294967295, 8589934591, 17179869183, 34359738367, 68719476735, 137438953471, 68719476735, 343597383679, 893353197567, 1992864825343, 4191888080895, 8589934591999, 17592186044415, 35184372088831, 70368744177663, 140737488355327, 281474976710655, 562949953421311]
theorem cellarerlaw07_PagerSizes.tab10 : rtab .any (opsOf Try.f7 10) = cellarerlaw07_PagerSizes.T10 := by kernel_rfl
theorem cellarerlaw07_PagerSizes.bits10 : waitsOk cellarerlaw07_PagerSizes.T10.2 cellarerlaw07_PagerSizes.B10 = true := by kernel_rfl
def cellarerlaw07_PagerSizes.bs (n m : Nat) : Array Bool := ((List.range n).map fun i => m.testBit i).toArray
set_option maxHeartbeats 8000000 in
set_option maxRecDepth 100000 in
theorem cellarerlaw07_PagerSizes.calls (k : Nat) (A0_0 : Option Addr) (c0_0 : Nat) (l0_0 : List (S50)) (a0_1 : ByteArray) (a0_2 : ByteArray) (a0_3 : ByteArray) (a0_4 : Int) (a0_5 : Int) (a1 : Int) (a2 : Int) (r : Bool) (w : World) (hr0_0 : Kd.C k50 w A0_0 l0_0.length l0_0) (hc0_0 : l0_0.length ≤ c0_0) (h : cellarerlaw07_PagerSizes.f k l0_0 a0_1 a0_2 a0_3 a0_4 a0_5 a1 a2 = some r) (hTR_ : r = true) :
  Calls Try.prog 7 #[.agg #[.slice A0_0 l0_0.length c0_0, .string a0_1, .string a0_2, .string a0_3, .int .u64 a0_4, .int .i64 a0_5], .int .u8 a1, .int .u8 a2] w fun e w' => e = .returned (.bool r) ∧ Below w.heap.size w w' := by
 have hu25 := Try.underlying25
 have hu29 := Try.underlying29
 have HR0_0 := Aside0.mk hr0_0
 have HC0_0 := Aside0.mk hc0_0
 clear hr0_0 hc0_0
 have HB := Aside0.mk (Below.refl w.heap.size w)
 have HTR_ := Aside0.mk hTR_
 clear hTR_
 have H : ((cellarerlaw07_cut.f k l0_0 a0_1 a0_2 a0_3 a0_4 a0_5).bind fun bt363 => ((pager_Keys.f k bt363.1 bt363.2.1 bt363.2.2.1 bt363.2.2.2.1 (wrap64 (mn a1 a2))).bind fun bt371 => ((pager_Keys.f k bt363.1 bt363.2.1 bt363.2.2.1 bt363.2.2.2.1 (wrap64 (mx a1 a2))).bind fun bt381 => ((pager_Keys.f k bt363.1 bt363.2.1 bt363.2.2.1 bt363.2.2.2.1 0).bind fun bt391 => (if bt371.2.2.2.2 = 0 then (if bt381.2.2.2.2 = 0 then (cellarerlaw07_PagerSizes.j0 k bt371.2.2.2.2 bt381.2.2.2.2 bt391.2.2.2.2 (bt391.2.2.2.2 != 0) bt371.1 bt371.2.1 bt371.2.2.1 bt371.2.2.2.1 bt381.1 bt381.2.1 bt381.2.2.1 bt381.2.2.2.1 bt391.1 bt391.2.1 bt391.2.2.1 bt391.2.2.2.1) else (cellarerlaw07_PagerSizes.j0 k bt371.2.2.2.2 bt381.2.2.2.2 bt391.2.2.2.2 true bt371.1 bt371.2.1 bt371.2.2.1 bt371.2.2.2.1 bt381.1 bt381.2.1 bt381.2.2.1 bt381.2.2.2.1 bt391.1 bt391.2.1 bt391.2.2.1 bt391.2.2.2.1)) else (cellarerlaw07_PagerSizes.j0 k bt371.2.2.2.2 bt381.2.2.2.2 bt391.2.2.2.2 true bt371.1 bt371.2.1 bt371.2.2.1 bt371.2.2.2.1 bt381.1 bt381.2.1 bt381.2.2.1 bt381.2.2.2.1 bt391.1 bt391.2.1 bt391.2.2.1 bt391.2.2.2.1)))))) = some r := h
 clear h
 replace H := Option.bind_eq_some_iff.mp H
 obtain ⟨⟨t363, t366, t367, t368, t369, t370⟩, A40, H⟩ := H
 replace H : ((pager_Keys.f k t363 t366 t367 t368 (wrap64 (mn a1 a2))).bind fun bt371 => ((pager_Keys.f k t363 t366 t367 t368 (wrap64 (mx a1 a2))).bind fun bt381 => ((pager_Keys.f k t363 t366 t367 t368 0).bind fun bt391 => (if bt371.2.2.2.2 = 0 then (if bt381.2.2.2.2 = 0 then (cellarerlaw07_PagerSizes.j0 k bt371.2.2.2.2 bt381.2.2.2.2 bt391.2.2.2.2 (bt391.2.2.2.2 != 0) bt371.1 bt371.2.1 bt371.2.2.1 bt371.2.2.2.1 bt381.1 bt381.2.1 bt381.2.2.1 bt381.2.2.2.1 bt391.1 bt391.2.1 bt391.2.2.1 bt391.2.2.2.1) else (cellarerlaw07_PagerSizes.j0 k bt371.2.2.2.2 bt381.2.2.2.2 bt391.2.2.2.2 true bt371.1 bt371.2.1 bt371.2.2.1 bt371.2.2.2.1 bt381.1 bt381.2.1 bt381.2.2.1 bt381.2.2.2.1 bt391.1 bt391.2.1 bt391.2.2.1 bt391.2.2.2.1)) else (cellarerlaw07_PagerSizes.j0 k bt371.2.2.2.2 bt381.2.2.2.2 bt391.2.2.2.2 true bt371.1 bt371.2.1 bt371.2.2.1 bt371.2.2.2.1 bt381.1 bt381.2.1 bt381.2.2.1 bt381.2.2.2.1 bt391.1 bt391.2.1 bt391.2.2.1 bt391.2.2.2.1))))) = some r := H
 have A4 := Aside0.mk A40
 clear A40
 obtain ⟨ji5, hji5⟩ : ∃ j_ : Int, (mn a1 a2) = j_ := ⟨_, rfl⟩
 replace H : ((pager_Keys.f k t363 t366 t367 t368 (wrap64 (ji5))).bind fun bt371 => ((pager_Keys.f k t363 t366 t367 t368 (wrap64 (mx a1 a2))).bind fun bt381 => ((pager_Keys.f k t363 t366 t367 t368 0).bind fun bt391 => (if bt371.2.2.2.2 = 0 then (if bt381.2.2.2.2 = 0 then (cellarerlaw07_PagerSizes.j0 k bt371.2.2.2.2 bt381.2.2.2.2 bt391.2.2.2.2 (bt391.2.2.2.2 != 0) bt371.1 bt371.2.1 bt371.2.2.1 bt371.2.2.2.1 bt381.1 bt381.2.1 bt381.2.2.1 bt381.2.2.2.1 bt391.1 bt391.2.1 bt391.2.2.1 bt391.2.2.2.1) else (cellarerlaw07_PagerSizes.j0 k bt371.2.2.2.2 bt381.2.2.2.2 bt391.2.2.2.2 true bt371.1 bt371.2.1 bt371.2.2.1 bt371.2.2.2.1 bt381.1 bt381.2.1 bt381.2.2.1 bt381.2.2.2.1 bt391.1 bt391.2.1 bt391.2.2.1 bt391.2.2.2.1)) else (cellarerlaw07_PagerSizes.j0 k bt371.2.2.2.2 bt381.2.2.2.2 bt391.2.2.2.2 true bt371.1 bt371.2.1 bt371.2.2.1 bt371.2.2.2.1 bt381.1 bt381.2.1 bt381.2.2.1 bt381.2.2.2.1 bt391.1 bt391.2.1 bt391.2.2.1 bt391.2.2.2.1))))) = some r := by first | (rw [hji5] at H; exact H) | (simp only [hji5] at H ⊢; exact H)
 (try rw [hji5] at A4)
 have hji5_ : (if a2 < a1 then a2 else a1) = ji5 := hji5
 replace H := Option.bind_eq_some_iff.mp H
 obtain ⟨⟨t371, t374, t377, t378, t379⟩, A60, H⟩ := H
 replace H : ((pager_Keys.f k t363 t366 t367 t368 (wrap64 (mx a1 a2))).bind fun bt381 => ((pager_Keys.f k t363 t366 t367 t368 0).bind fun bt391 => (if t379 = 0 then (if bt381.2.2.2.2 = 0 then (cellarerlaw07_PagerSizes.j0 k t379 bt381.2.2.2.2 bt391.2.2.2.2 (bt391.2.2.2.2 != 0) t371 t374 t377 t378 bt381.1 bt381.2.1 bt381.2.2.1 bt381.2.2.2.1 bt391.1 bt391.2.1 bt391.2.2.1 bt391.2.2.2.1) else (cellarerlaw07_PagerSizes.j0 k t379 bt381.2.2.2.2 bt391.2.2.2.2 true t371 t374 t377 t378 bt381.1 bt381.2.1 bt381.2.2.1 bt381.2.2.2.1 bt391.1 bt391.2.1 bt391.2.2.1 bt391.2.2.2.1)) else (cellarerlaw07_PagerSizes.j0 k t379 bt381.2.2.2.2 bt391.2.2.2.2 true t371 t374 t377 t378 bt381.1 bt381.2.1 bt381.2.2.1 bt381.2.2.2.1 bt391.1 bt391.2.1 bt391.2.2.1 bt391.2.2.2.1)))) = some r := H
 have A6 := Aside0.mk A60
 clear A60
 obtain ⟨ji7, hji7⟩ : ∃ j_ : Int, (mx a1 a2) = j_ := ⟨_, rfl⟩
 replace H : ((pager_Keys.f k t363 t366 t367 t368 (wrap64 (ji7))).bind fun bt381 => ((pager_Keys.f k t363 t366 t367 t368 0).bind fun bt391 => (if t379 = 0 then (if bt381.2.2.2.2 = 0 then (cellarerlaw07_PagerSizes.j0 k t379 bt381.2.2.2.2 bt391.2.2.2.2 (bt391.2.2.2.2 != 0) t371 t374 t377 t378 bt381.1 bt381.2.1 bt381.2.2.1 bt381.2.2.2.1 bt391.1 bt391.2.1 bt391.2.2.1 bt391.2.2.2.1) else (cellarerlaw07_PagerSizes.j0 k t379 bt381.2.2.2.2 bt391.2.2.2.2 true t371 t374 t377 t378 bt381.1 bt381.2.1 bt381.2.2.1 bt381.2.2.2.1 bt391.1 bt391.2.1 bt391.2.2.1 bt391.2.2.2.1)) else (cellarerlaw07_PagerSizes.j0 k t379 bt381.2.2.2.2 bt391.2.2.2.2 true t371 t374 t377 t378 bt381.1 bt381.2.1 bt381.2.2.1 bt381.2.2.2.1 bt391.1 bt391.2.1 bt391.2.2.1 bt391.2.2.2.1)))) = some r := by first | (rw [hji7] at H; exact H) | (simp only [hji7] at H ⊢; exact H)
 (try rw [hji7] at A4)
 (try rw [hji7] at A6)
 have hji7_ : (if a1 < a2 then a2 else a1) = ji7 := hji7
 replace H := Option.bind_eq_some_iff.mp H
 obtain ⟨⟨t381, t384, t387, t388, t389⟩, A80, H⟩ := H
 replace H : ((pager_Keys.f k t363 t366 t367 t368 0).bind fun bt391 => (if t379 = 0 then (if t389 = 0 then (cellarerlaw07_PagerSizes.j0 k t379 t389 bt391.2.2.2.2 (bt391.2.2.2.2 != 0) t371 t374 t377 t378 t381 t384 t387 t388 bt391.1 bt391.2.1 bt391.2.2.1 bt391.2.2.2.1) else (cellarerlaw07_PagerSizes.j0 k t379 t389 bt391.2.2.2.2 true t371 t374 t377 t378 t381 t384 t387 t388 bt391.1 bt391.2.1 bt391.2.2.1 bt391.2.2.2.1)) else (cellarerlaw07_PagerSizes.j0 k t379 t389 bt391.2.2.2.2 true t371 t374 t377 t378 t381 t384 t387 t388 bt391.1 bt391.2.1 bt391.2.2.1 bt391.2.2.2.1))) = some r := H
 have A8 := Aside0.mk A80
 clear A80
 replace H := Option.bind_eq_some_iff.mp H
 obtain ⟨⟨t391, t394, t397, t398, t399⟩, A90, H⟩ := H
 replace H : (if t379 = 0 then (if t389 = 0 then (cellarerlaw07_PagerSizes.j0 k t379 t389 t399 (t399 != 0) t371 t374 t377 t378 t381 t384 t387 t388 t391 t394 t397 t398) else (cellarerlaw07_PagerSizes.j0 k t379 t389 t399 true t371 t374 t377 t378 t381 t384 t387 t388 t391 t394 t397 t398)) else (cellarerlaw07_PagerSizes.j0 k t379 t389 t399 true t371 t374 t377 t378 t381 t384 t387 t388 t391 t394 t397 t398)) = some r := H
 have A9 := Aside0.mk A90
 clear A90
 have HC10 := Aside0.mk H
 clear H
 go_enter Try.func7, Try.ntmps7
 go_upto_region 5 with (first | ((with_reducible refine gate_dst (N := 3) rfl ?_); (try (refine gate_guard (by rfl) ?_; dsimp only)); refine box_event ?hg (N := 3) ?hd (cs := #[.slice A0_0 l0_0.length c0_0, .string a0_1, .string a0_2, .string a0_3, .int .u64 a0_4, .int .i64 a0_5]) (t := 25) ?hr ?_; (case hd => rfl); (case hg => rfl); (case hr => first | (go_simp; done) | (go_simp; rfl)); intro gb362 hg w11 hbox hb; have n0_ := Aside0.mk (below_step (by repeat (first | (with_reducible first | exact HB.out | apply below_alloc | apply pw_below_drewN | apply below_drew1) | exact HB.out)) hb); have n1_ := Aside0.mk (hbox); have n2_ := Aside0.mk ((by rw [hg]; exact (below_size (by repeat (first | (with_reducible first | exact HB.out | apply below_alloc | apply pw_below_drewN | apply below_drew1) | exact HB.out))) : w.heap.size ≤ gb362)); have n3_ := Aside0.mk ((by rw [hg]; exact (below_size (by repeat (first | (with_reducible first | exact HB.out | apply below_alloc | apply pw_below_drewN | apply below_drew1) | exact HB.out))) : w.heap.size ≤ gb362)); clear HB; have HB := n0_; have BK362 := n1_; have GW362 := n2_; have GE362 := n3_; clear n0_ n1_ n2_ n3_; clear hb hbox hg; have hcz12_0 : w11.cell? ⟨gb362, 0, none⟩ = some (.slice A0_0 l0_0.length c0_0) := (blk_cell BK362.out 0).trans rfl; have hcz12_1 : w11.cell? ⟨gb362, 1, none⟩ = some (.string a0_1) := (blk_cell BK362.out 1).trans rfl; have hcz12_2 : w11.cell? ⟨gb362, 2, none⟩ = some (.string a0_2) := (blk_cell BK362.out 2).trans rfl; have hcz12_3 : w11.cell? ⟨gb362, 3, none⟩ = some (.string a0_3) := (blk_cell BK362.out 3).trans rfl; have hcz12_4 : w11.cell? ⟨gb362, 4, none⟩ = some (.int .u64 a0_4) := (blk_cell BK362.out 4).trans rfl; have hcz12_5 : w11.cell? ⟨gb362, 5, none⟩ = some (.int .i64 a0_5) := (blk_cell BK362.out 5).trans rfl; have hfz12_0 := blk_frozen BK362.out 0; have hfz12_1 := blk_frozen BK362.out 1; have hfz12_2 := blk_frozen BK362.out 2; have hfz12_3 := blk_frozen BK362.out 3; have hfz12_4 := blk_frozen BK362.out 4; have hfz12_5 := blk_frozen BK362.out 5) | ((with_reducible refine gate_callee (f := 10) rfl ?_); refine goesL_ (some 15) rfl rfl Try.func10 (by kernel_rfl) rfl #[.agg #[.slice A0_0 l0_0.length c0_0, .string a0_1, .string a0_2, .string a0_3, .int .u64 a0_4, .int .i64 a0_5]] rfl (by (try simp only [List.map_toArray, List.map_cons, List.map_nil]); first | done | rfl | (simp only [List.length_drop, List.length_take]; rfl)) ?_; (with_reducible refine (cellarerlaw07_cut.calls k _ _ l0_0 a0_1 a0_2 a0_3 a0_4 a0_5 t363 t366 t367 t368 t369 t370 _ ?side1 ?side2 A4.out).mono ?_); (case side1 => repeat (first | exact (Kd.C_below HR0_0.out HB.out) | (with_reducible refine Kd.C_alloc ?_ _) | (with_reducible refine Kd.C_drewN ?_ _) | (with_reducible refine Kd.C_drew ?_))); (case side2 => exact HC0_0.out); rintro e w13 ⟨v364, rfl, ho0, hb⟩; refine ⟨_, rfl, ?_⟩; have n0_ := Aside0.mk (Kd.S_lower ho0 (below_size (by repeat (first | (with_reducible first | exact HB.out | apply below_alloc | apply pw_below_drewN | apply below_drew1 | refine below_set ?_ GE362.out) | exact HB.out)))); have n1_ := Aside0.mk (blk_below (g := gb362) (o := .cells #[.slice A0_0 l0_0.length c0_0, .string a0_1, .string a0_2, .string a0_3, .int .u64 a0_4, .int .i64 a0_5] 25 (0, 0)) (by (with_reducible repeat (first | refine blk_drewN ?_ _ | refine blk_drew ?_ | refine blk_alloc ?_ _)); exact BK362.out) hb); have n2_ := Aside0.mk (below_step (by repeat (first | (with_reducible first | exact HB.out | apply below_alloc | apply pw_below_drewN | apply below_drew1 | refine below_set ?_ GE362.out) | exact HB.out)) hb); clear BK362; clear HB; have HO365 := n0_; have BK362 := n1_; have HB := n2_; clear n0_ n1_ n2_; (try clear hb); (try clear hb2); (try clear hk); (try clear hi); (try clear ho0); obtain ⟨Ao14, co14, eo14⟩ := Kd.S_slice HO365.out; subst eo14; have hcz15_0 : w13.cell? ⟨gb362, 0, none⟩ = some (.slice A0_0 l0_0.length c0_0) := (blk_cell BK362.out 0).trans rfl; have hcz15_1 : w13.cell? ⟨gb362, 1, none⟩ = some (.string a0_1) := (blk_cell BK362.out 1).trans rfl; have hcz15_2 : w13.cell? ⟨gb362, 2, none⟩ = some (.string a0_2) := (blk_cell BK362.out 2).trans rfl; have hcz15_3 : w13.cell? ⟨gb362, 3, none⟩ = some (.string a0_3) := (blk_cell BK362.out 3).trans rfl; have hcz15_4 : w13.cell? ⟨gb362, 4, none⟩ = some (.int .u64 a0_4) := (blk_cell BK362.out 4).trans rfl; have hcz15_5 : w13.cell? ⟨gb362, 5, none⟩ = some (.int .i64 a0_5) := (blk_cell BK362.out 5).trans rfl; have hfz15_0 := blk_frozen BK362.out 0; have hfz15_1 := blk_frozen BK362.out 1; have hfz15_2 := blk_frozen BK362.out 2; have hfz15_3 := blk_frozen BK362.out 3; have hfz15_4 := blk_frozen BK362.out 4; have hfz15_5 := blk_frozen BK362.out 5) | ((with_reducible refine gate_callee (f := 11) rfl ?_); refine goesL_ (some 29) rfl rfl Try.func11 (by kernel_rfl) rfl #[.slice Ao14 t363.length co14, .string t366, .string t367, .string t368, .int .i64 (wrap64 (ji5))] rfl (by (try simp only [List.map_toArray, List.map_cons, List.map_nil]); first | done | (simp only [hji5]; rfl) | rfl | (simp only [List.length_drop, List.length_take]; rfl)) ?_; (with_reducible refine (pager_Keys.calls k _ _ t363 t366 t367 t368 (wrap64 (ji5)) t371 t374 t377 t378 t379 _ ?side1 ?side2 A6.out).mono ?_); (case side1 => refine (Kd.S_reads' (e := 50) (base := w.heap.size) (ok := fun k_ => True) (n := t363.length) (c := co14) ?_).2.2; exact (by (with_reducible repeat (first | apply Kd.S_alloc | apply Kd.S_drewN | apply Kd.S_drew)); exact (Kd.S_mono (Kd.S_far (p := ⟨gb362, 5, none⟩) (Kd.S_far (p := ⟨gb362, 4, none⟩) (Kd.S_far (p := ⟨gb362, 3, none⟩) (Kd.S_far (p := ⟨gb362, 2, none⟩) (Kd.S_far (p := ⟨gb362, 1, none⟩) (Kd.S_far (p := ⟨gb362, 0, none⟩) (Kd.S_types HO365.out BK362.out (by decide)) (fun _ hk => hk.2) (.slice Ao14 t363.length co14)) (fun _ hk => hk.2) (.string t366)) (fun _ hk => hk.2) (.string t367)) (fun _ hk => hk.2) (.string t368)) (fun _ hk => hk.2) (.int .u64 t369)) (fun _ hk => hk.2) (.int .i64 t370)) (fun _ h_ => h_.1)))); (case side2 => exact (Kd.S_reads' HO365.out).2.1); rintro e w16 ⟨v372, v375, rfl, ho0, ho1, hb⟩; refine ⟨_, rfl, ?_⟩; have n0_ := Aside0.mk (Kd.S_below (by (with_reducible repeat (first | apply Kd.S_alloc | apply Kd.S_drewN | apply Kd.S_drew)); exact (Kd.S_mono (Kd.S_far (p := ⟨gb362, 5, none⟩) (Kd.S_far (p := ⟨gb362, 4, none⟩) (Kd.S_far (p := ⟨gb362, 3, none⟩) (Kd.S_far (p := ⟨gb362, 2, none⟩) (Kd.S_far (p := ⟨gb362, 1, none⟩) (Kd.S_far (p := ⟨gb362, 0, none⟩) (Kd.S_types HO365.out BK362.out (by decide)) (fun _ hk => hk.2) (.slice Ao14 t363.length co14)) (fun _ hk => hk.2) (.string t366)) (fun _ hk => hk.2) (.string t367)) (fun _ hk => hk.2) (.string t368)) (fun _ hk => hk.2) (.int .u64 t369)) (fun _ hk => hk.2) (.int .i64 t370)) (fun _ h_ => h_.1))) hb); have n1_ := Aside0.mk (Kd.R_lower ho0 (below_size (by repeat (first | (with_reducible first | exact HB.out | apply below_alloc | apply pw_below_drewN | apply below_drew1 | refine below_set ?_ GE362.out) | exact HB.out)))); have n2_ := Aside0.mk (Kd.R_lower ho1 (below_size (by repeat (first | (with_reducible first | exact HB.out | apply below_alloc | apply pw_below_drewN | apply below_drew1 | refine below_set ?_ GE362.out) | exact HB.out)))); have n3_ := Aside0.mk (blk_below (g := gb362) (o := .cells #[.slice Ao14 t363.length co14, .string t366, .string t367, .string t368, .int .u64 t369, .int .i64 t370] 25 (0, 0)) (by (with_reducible repeat (first | refine blk_drewN ?_ _ | refine blk_drew ?_ | refine blk_alloc ?_ _)); refine blk_put (cs := #[.slice Ao14 t363.length co14, .string t366, .string t367, .string t368, .int .u64 t369, .int .i64 a0_5]) ?_ 5 _ rfl; (with_reducible repeat (first | refine blk_drewN ?_ _ | refine blk_drew ?_ | refine blk_alloc ?_ _)); refine blk_put (cs := #[.slice Ao14 t363.length co14, .string t366, .string t367, .string t368, .int .u64 a0_4, .int .i64 a0_5]) ?_ 4 _ rfl; (with_reducible repeat (first | refine blk_drewN ?_ _ | refine blk_drew ?_ | refine blk_alloc ?_ _)); refine blk_put (cs := #[.slice Ao14 t363.length co14, .string t366, .string t367, .string a0_3, .int .u64 a0_4, .int .i64 a0_5]) ?_ 3 _ rfl; (with_reducible repeat (first | refine blk_drewN ?_ _ | refine blk_drew ?_ | refine blk_alloc ?_ _)); refine blk_put (cs := #[.slice Ao14 t363.length co14, .string t366, .string a0_2, .string a0_3, .int .u64 a0_4, .int .i64 a0_5]) ?_ 2 _ rfl; (with_reducible repeat (first | refine blk_drewN ?_ _ | refine blk_drew ?_ | refine blk_alloc ?_ _)); refine blk_put (cs := #[.slice Ao14 t363.length co14, .string a0_1, .string a0_2, .string a0_3, .int .u64 a0_4, .int .i64 a0_5]) ?_ 1 _ rfl; (with_reducible repeat (first | refine blk_drewN ?_ _ | refine blk_drew ?_ | refine blk_alloc ?_ _)); refine blk_put (cs := #[.slice A0_0 l0_0.length c0_0, .string a0_1, .string a0_2, .string a0_3, .int .u64 a0_4, .int .i64 a0_5]) ?_ 0 _ rfl; (with_reducible repeat (first | refine blk_drewN ?_ _ | refine blk_drew ?_ | refine blk_alloc ?_ _)); exact BK362.out) hb); have n4_ := Aside0.mk (below_step (by repeat (first | (with_reducible first | exact HB.out | apply below_alloc | apply pw_below_drewN | apply below_drew1 | refine below_set ?_ GE362.out) | exact HB.out)) hb); clear HO365; clear BK362; clear HB; have HO365 := n0_; have HO373 := n1_; have HO376 := n2_; have BK362 := n3_; have HB := n4_; clear n0_ n1_ n2_ n3_ n4_; (try clear hb); (try clear hb2); (try clear hk); (try clear hi); (try clear ho0); (try clear ho1)) | ((with_reducible refine gate_dst (N := 7) rfl ?_); (try (refine gate_guard (by rfl) ?_; dsimp only)); refine box_event ?hg (N := 7) ?hd (cs := #[.slice none 0 0, .slice none 0 0, .bool false, .string (⟨#[]⟩ : ByteArray)]) (t := 29) ?hr ?_; (case hd => rfl); (case hg => rfl); (case hr => first | (go_simp; done) | (go_simp; rfl)); intro gb380 hg w17 hbox hb; have n0_ := Aside0.mk (Kd.S_below (by (with_reducible repeat (first | apply Kd.S_alloc | apply Kd.S_drewN | apply Kd.S_drew)); exact HO365.out) hb); have n1_ := Aside0.mk (Kd.R_below (by (with_reducible repeat (first | apply Kd.R_alloc | apply Kd.R_drewN | apply Kd.R_drew)); exact HO373.out) hb); have n2_ := Aside0.mk (Kd.R_below (by (with_reducible repeat (first | apply Kd.R_alloc | apply Kd.R_drewN | apply Kd.R_drew)); exact HO376.out) hb); have n3_ := Aside0.mk (blk_below (g := gb362) (o := .cells #[.slice Ao14 t363.length co14, .string t366, .string t367, .string t368, .int .u64 t369, .int .i64 t370] 25 (0, 0)) (by (with_reducible repeat (first | refine blk_drewN ?_ _ | refine blk_drew ?_ | refine blk_alloc ?_ _)); exact BK362.out) hb); have n4_ := Aside0.mk (below_step (by repeat (first | (with_reducible first | exact HB.out | apply below_alloc | apply pw_below_drewN | apply below_drew1 | refine below_set ?_ GE362.out) | exact HB.out)) hb); have n5_ := Aside0.mk (hbox); have n6_ := Aside0.mk ((by rw [hg]; exact (below_size (by repeat (first | (with_reducible first | exact HB.out | apply below_alloc | apply pw_below_drewN | apply below_drew1 | refine below_set ?_ GE362.out) | exact HB.out))) : w.heap.size ≤ gb380)); have n7_ := Aside0.mk ((by rw [hg]; exact (below_size (by repeat (first | (with_reducible first | exact HB.out | apply below_alloc | apply pw_below_drewN | apply below_drew1 | refine below_set ?_ GE362.out) | exact HB.out))) : w.heap.size ≤ gb380)); have n8_ := Aside0.mk ((by rw [hg]; exact Nat.ne_of_lt (blk_lt (g := gb362) (o := .cells #[.slice Ao14 t363.length co14, .string t366, .string t367, .string t368, .int .u64 t369, .int .i64 t370] 25 (0, 0)) (by (with_reducible repeat (first | refine blk_drewN ?_ _ | refine blk_drew ?_ | refine blk_alloc ?_ _)); exact BK362.out)) : gb362 ≠ gb380)); have n9_ := Aside0.mk ((by rw [hg]; exact Nat.ne_of_gt (blk_lt (g := gb362) (o := .cells #[.slice Ao14 t363.length co14, .string t366, .string t367, .string t368, .int .u64 t369, .int .i64 t370] 25 (0, 0)) (by (with_reducible repeat (first | refine blk_drewN ?_ _ | refine blk_drew ?_ | refine blk_alloc ?_ _)); exact BK362.out)) : gb380 ≠ gb362)); clear HO365; clear HO373; clear HO376; clear BK362; clear HB; have HO365 := n0_; have HO373 := n1_; have HO376 := n2_; have BK362 := n3_; have HB := n4_; have BK380 := n5_; have GW380 := n6_; have GE380 := n7_; have NB362_380 := n8_; have NB380_362 := n9_; clear n0_ n1_ n2_ n3_ n4_ n5_ n6_ n7_ n8_ n9_; clear hb hbox hg; obtain ⟨Ao18, co18, eo18⟩ := Kd.R_slice HO373.out; subst eo18; have hnb19 := NB380_362.out; have hnc19 := NB362_380.out; have hcz20_0 : w17.cell? ⟨gb380, 0, none⟩ = some (.slice none 0 0) := (blk_cell BK380.out 0).trans rfl; have hcz20_1 : w17.cell? ⟨gb380, 1, none⟩ = some (.slice none 0 0) := (blk_cell BK380.out 1).trans rfl; have hcz20_2 : w17.cell? ⟨gb380, 2, none⟩ = some (.bool false) := (blk_cell BK380.out 2).trans rfl; have hcz20_3 : w17.cell? ⟨gb380, 3, none⟩ = some (.string (⟨#[]⟩ : ByteArray)) := (blk_cell BK380.out 3).trans rfl; have hfz20_0 := blk_frozen BK380.out 0; have hfz20_1 := blk_frozen BK380.out 1; have hfz20_2 := blk_frozen BK380.out 2; have hfz20_3 := blk_frozen BK380.out 3; obtain ⟨Ao21, co21, eo21⟩ := Kd.R_slice HO376.out; subst eo21; have hcz22_0 : w17.cell? ⟨gb362, 0, none⟩ = some (.slice Ao14 t363.length co14) := (blk_cell BK362.out 0).trans rfl; have hcz22_1 : w17.cell? ⟨gb362, 1, none⟩ = some (.string t366) := (blk_cell BK362.out 1).trans rfl; have hcz22_2 : w17.cell? ⟨gb362, 2, none⟩ = some (.string t367) := (blk_cell BK362.out 2).trans rfl; have hcz22_3 : w17.cell? ⟨gb362, 3, none⟩ = some (.string t368) := (blk_cell BK362.out 3).trans rfl; have hcz22_4 : w17.cell? ⟨gb362, 4, none⟩ = some (.int .u64 t369) := (blk_cell BK362.out 4).trans rfl; have hcz22_5 : w17.cell? ⟨gb362, 5, none⟩ = some (.int .i64 t370) := (blk_cell BK362.out 5).trans rfl; have hfz22_0 := blk_frozen BK362.out 0; have hfz22_1 := blk_frozen BK362.out 1; have hfz22_2 := blk_frozen BK362.out 2; have hfz22_3 := blk_frozen BK362.out 3; have hfz22_4 := blk_frozen BK362.out 4; have hfz22_5 := blk_frozen BK362.out 5) | ((with_reducible refine gate_callee (f := 11) rfl ?_); refine goesL_ (some 45) rfl rfl Try.func11 (by kernel_rfl) rfl #[.slice Ao14 t363.length co14, .string t366, .string t367, .string t368, .int .i64 (wrap64 (ji7))] rfl (by (try simp only [List.map_toArray, List.map_cons, List.map_nil]); first | done | (simp only [hji7]; rfl) | rfl | (simp only [List.length_drop, List.length_take]; rfl)) ?_; (with_reducible refine (pager_Keys.calls k _ _ t363 t366 t367 t368 (wrap64 (ji7)) t381 t384 t387 t388 t389 _ ?side1 ?side2 A8.out).mono ?_); (case side1 => refine (Kd.S_reads' (e := 50) (base := w.heap.size) (ok := fun k_ => True) (n := t363.length) (c := co14) ?_).2.2; exact (by (with_reducible repeat (first | apply Kd.S_alloc | apply Kd.S_drewN | apply Kd.S_drew)); exact (Kd.S_mono (Kd.S_far (p := ⟨gb380, 3, none⟩) (Kd.S_far (p := ⟨gb380, 2, none⟩) (Kd.S_far (p := ⟨gb380, 1, none⟩) (Kd.S_far (p := ⟨gb380, 0, none⟩) (Kd.S_types HO365.out BK380.out (by decide)) (fun _ hk => hk.2) (.slice Ao18 t371.length co18)) (fun _ hk => hk.2) (.slice Ao21 t374.length co21)) (fun _ hk => hk.2) (.bool t377)) (fun _ hk => hk.2) (.string t378)) (fun _ h_ => h_.1)))); (case side2 => exact (Kd.S_reads' HO365.out).2.1); rintro e w23 ⟨v382, v385, rfl, ho0, ho1, hb⟩; refine ⟨_, rfl, ?_⟩; have n0_ := Aside0.mk (Kd.S_below (by (with_reducible repeat (first | apply Kd.S_alloc | apply Kd.S_drewN | apply Kd.S_drew)); exact (Kd.S_mono (Kd.S_far (p := ⟨gb380, 3, none⟩) (Kd.S_far (p := ⟨gb380, 2, none⟩) (Kd.S_far (p := ⟨gb380, 1, none⟩) (Kd.S_far (p := ⟨gb380, 0, none⟩) (Kd.S_types HO365.out BK380.out (by decide)) (fun _ hk => hk.2) (.slice Ao18 t371.length co18)) (fun _ hk => hk.2) (.slice Ao21 t374.length co21)) (fun _ hk => hk.2) (.bool t377)) (fun _ hk => hk.2) (.string t378)) (fun _ h_ => h_.1))) hb); have n1_ := Aside0.mk (Kd.R_mono (Kd.R_told (Kd.R_told (Kd.R_old (by (with_reducible repeat (first | apply Kd.R_alloc | apply Kd.R_drewN | apply Kd.R_drew)); exact (Kd.R_mono (Kd.R_far (p := ⟨gb380, 3, none⟩) (Kd.R_far (p := ⟨gb380, 2, none⟩) (Kd.R_far (p := ⟨gb380, 1, none⟩) (Kd.R_far (p := ⟨gb380, 0, none⟩) (Kd.R_types HO373.out BK380.out (by decide)) (fun _ hk => hk.2) (.slice Ao18 t371.length co18)) (fun _ hk => hk.2) (.slice Ao21 t374.length co21)) (fun _ hk => hk.2) (.bool t377)) (fun _ hk => hk.2) (.string t378)) (fun _ h_ => h_.1))) hb) (Kd.R_base ho0)) (Kd.R_base ho1)) (fun _ h_ => h_.1)); have n2_ := Aside0.mk (Kd.R_mono (Kd.R_told (Kd.R_told (Kd.R_old (by (with_reducible repeat (first | apply Kd.R_alloc | apply Kd.R_drewN | apply Kd.R_drew)); exact (Kd.R_mono (Kd.R_far (p := ⟨gb380, 3, none⟩) (Kd.R_far (p := ⟨gb380, 2, none⟩) (Kd.R_far (p := ⟨gb380, 1, none⟩) (Kd.R_far (p := ⟨gb380, 0, none⟩) (Kd.R_types HO376.out BK380.out (by decide)) (fun _ hk => hk.2) (.slice Ao18 t371.length co18)) (fun _ hk => hk.2) (.slice Ao21 t374.length co21)) (fun _ hk => hk.2) (.bool t377)) (fun _ hk => hk.2) (.string t378)) (fun _ h_ => h_.1))) hb) (Kd.R_base ho0)) (Kd.R_base ho1)) (fun _ h_ => h_.1)); have n3_ := Aside0.mk (Kd.R_lower (Kd.R_new' (Kd.R_new' ho0 (Kd.R_lt (by (with_reducible repeat (first | apply Kd.R_alloc | apply Kd.R_drewN | apply Kd.R_drew)); exact (Kd.R_mono (Kd.R_far (p := ⟨gb380, 3, none⟩) (Kd.R_far (p := ⟨gb380, 2, none⟩) (Kd.R_far (p := ⟨gb380, 1, none⟩) (Kd.R_far (p := ⟨gb380, 0, none⟩) (Kd.R_types HO373.out BK380.out (by decide)) (fun _ hk => hk.2) (.slice Ao18 t371.length co18)) (fun _ hk => hk.2) (.slice Ao21 t374.length co21)) (fun _ hk => hk.2) (.bool t377)) (fun _ hk => hk.2) (.string t378)) (fun _ h_ => h_.1))))) (Kd.R_lt (by (with_reducible repeat (first | apply Kd.R_alloc | apply Kd.R_drewN | apply Kd.R_drew)); exact (Kd.R_mono (Kd.R_far (p := ⟨gb380, 3, none⟩) (Kd.R_far (p := ⟨gb380, 2, none⟩) (Kd.R_far (p := ⟨gb380, 1, none⟩) (Kd.R_far (p := ⟨gb380, 0, none⟩) (Kd.R_types HO376.out BK380.out (by decide)) (fun _ hk => hk.2) (.slice Ao18 t371.length co18)) (fun _ hk => hk.2) (.slice Ao21 t374.length co21)) (fun _ hk => hk.2) (.bool t377)) (fun _ hk => hk.2) (.string t378)) (fun _ h_ => h_.1))))) (below_size (by repeat (first | (with_reducible first | exact HB.out | apply below_alloc | apply pw_below_drewN | apply below_drew1 | refine below_set ?_ GE362.out | refine below_set ?_ GE380.out) | exact HB.out)))); have n4_ := Aside0.mk (Kd.R_lower (Kd.R_new' (Kd.R_new' ho1 (Kd.R_lt (by (with_reducible repeat (first | apply Kd.R_alloc | apply Kd.R_drewN | apply Kd.R_drew)); exact (Kd.R_mono (Kd.R_far (p := ⟨gb380, 3, none⟩) (Kd.R_far (p := ⟨gb380, 2, none⟩) (Kd.R_far (p := ⟨gb380, 1, none⟩) (Kd.R_far (p := ⟨gb380, 0, none⟩) (Kd.R_types HO373.out BK380.out (by decide)) (fun _ hk => hk.2) (.slice Ao18 t371.length co18)) (fun _ hk => hk.2) (.slice Ao21 t374.length co21)) (fun _ hk => hk.2) (.bool t377)) (fun _ hk => hk.2) (.string t378)) (fun _ h_ => h_.1))))) (Kd.R_lt (by (with_reducible repeat (first | apply Kd.R_alloc | apply Kd.R_drewN | apply Kd.R_drew)); exact (Kd.R_mono (Kd.R_far (p := ⟨gb380, 3, none⟩) (Kd.R_far (p := ⟨gb380, 2, none⟩) (Kd.R_far (p := ⟨gb380, 1, none⟩) (Kd.R_far (p := ⟨gb380, 0, none⟩) (Kd.R_types HO376.out BK380.out (by decide)) (fun _ hk => hk.2) (.slice Ao18 t371.length co18)) (fun _ hk => hk.2) (.slice Ao21 t374.length co21)) (fun _ hk => hk.2) (.bool t377)) (fun _ hk => hk.2) (.string t378)) (fun _ h_ => h_.1))))) (below_size (by repeat (first | (with_reducible first | exact HB.out | apply below_alloc | apply pw_below_drewN | apply below_drew1 | refine below_set ?_ GE362.out | refine below_set ?_ GE380.out) | exact HB.out)))); have n5_ := Aside0.mk (blk_below (g := gb362) (o := .cells #[.slice Ao14 t363.length co14, .string t366, .string t367, .string t368, .int .u64 t369, .int .i64 t370] 25 (0, 0)) (by (with_reducible repeat (first | refine blk_drewN ?_ _ | refine blk_drew ?_ | refine blk_alloc ?_ _)); refine blk_far ?_ NB362_380.out _; (with_reducible repeat (first | refine blk_drewN ?_ _ | refine blk_drew ?_ | refine blk_alloc ?_ _)); refine blk_far ?_ NB362_380.out _; (with_reducible repeat (first | refine blk_drewN ?_ _ | refine blk_drew ?_ | refine blk_alloc ?_ _)); refine blk_far ?_ NB362_380.out _; (with_reducible repeat (first | refine blk_drewN ?_ _ | refine blk_drew ?_ | refine blk_alloc ?_ _)); refine blk_far ?_ NB362_380.out _; (with_reducible repeat (first | refine blk_drewN ?_ _ | refine blk_drew ?_ | refine blk_alloc ?_ _)); exact BK362.out) hb); have n6_ := Aside0.mk (blk_below (g := gb380) (o := .cells #[.slice Ao18 t371.length co18, .slice Ao21 t374.length co21, .bool t377, .string t378] 29 (0, 0)) (by (with_reducible repeat (first | refine blk_drewN ?_ _ | refine blk_drew ?_ | refine blk_alloc ?_ _)); refine blk_put (cs := #[.slice Ao18 t371.length co18, .slice Ao21 t374.length co21, .bool t377, .string (⟨#[]⟩ : ByteArray)]) ?_ 3 _ rfl; (with_reducible repeat (first | refine blk_drewN ?_ _ | refine blk_drew ?_ | refine blk_alloc ?_ _)); refine blk_put (cs := #[.slice Ao18 t371.length co18, .slice Ao21 t374.length co21, .bool false, .string (⟨#[]⟩ : ByteArray)]) ?_ 2 _ rfl; (with_reducible repeat (first | refine blk_drewN ?_ _ | refine blk_drew ?_ | refine blk_alloc ?_ _)); refine blk_put (cs := #[.slice Ao18 t371.length co18, .slice none 0 0, .bool false, .string (⟨#[]⟩ : ByteArray)]) ?_ 1 _ rfl; (with_reducible repeat (first | refine blk_drewN ?_ _ | refine blk_drew ?_ | refine blk_alloc ?_ _)); refine blk_put (cs := #[.slice none 0 0, .slice none 0 0, .bool false, .string (⟨#[]⟩ : ByteArray)]) ?_ 0 _ rfl; (with_reducible repeat (first | refine blk_drewN ?_ _ | refine blk_drew ?_ | refine blk_alloc ?_ _)); exact BK380.out) hb); have n7_ := Aside0.mk (below_step (by repeat (first | (with_reducible first | exact HB.out | apply below_alloc | apply pw_below_drewN | apply below_drew1 | refine below_set ?_ GE362.out | refine below_set ?_ GE380.out) | exact HB.out)) hb); clear HO365; clear HO373; clear HO376; clear BK362; clear BK380; clear HB; have HO365 := n0_; have HO373 := n1_; have HO376 := n2_; have HO383 := n3_; have HO386 := n4_; have BK362 := n5_; have BK380 := n6_; have HB := n7_; clear n0_ n1_ n2_ n3_ n4_ n5_ n6_ n7_; (try clear hb); (try clear hb2); (try clear hk); (try clear hi); (try clear ho0); (try clear ho1)) | ((with_reducible refine gate_dst (N := 9) rfl ?_); (try (refine gate_guard (by rfl) ?_; dsimp only)); refine box_event ?hg (N := 9) ?hd (cs := #[.slice none 0 0, .slice none 0 0, .bool false, .string (⟨#[]⟩ : ByteArray)]) (t := 29) ?hr ?_; (case hd => rfl); (case hg => rfl); (case hr => first | (go_simp; done) | (go_simp; rfl)); intro gb390 hg w24 hbox hb; have n0_ := Aside0.mk (Kd.S_below (by (with_reducible repeat (first | apply Kd.S_alloc | apply Kd.S_drewN | apply Kd.S_drew)); exact HO365.out) hb); have n1_ := Aside0.mk (Kd.R_below (by (with_reducible repeat (first | apply Kd.R_alloc | apply Kd.R_drewN | apply Kd.R_drew)); exact HO373.out) hb); have n2_ := Aside0.mk (Kd.R_below (by (with_reducible repeat (first | apply Kd.R_alloc | apply Kd.R_drewN | apply Kd.R_drew)); exact HO376.out) hb); have n3_ := Aside0.mk (Kd.R_below (by (with_reducible repeat (first | apply Kd.R_alloc | apply Kd.R_drewN | apply Kd.R_drew)); exact HO383.out) hb); have n4_ := Aside0.mk (Kd.R_below (by (with_reducible repeat (first | apply Kd.R_alloc | apply Kd.R_drewN | apply Kd.R_drew)); exact HO386.out) hb); have n5_ := Aside0.mk (blk_below (g := gb362) (o := .cells #[.slice Ao14 t363.length co14, .string t366, .string t367, .string t368, .int .u64 t369, .int .i64 t370] 25 (0, 0)) (by (with_reducible repeat (first | refine blk_drewN ?_ _ | refine blk_drew ?_ | refine blk_alloc ?_ _)); exact BK362.out) hb); have n6_ := Aside0.mk (blk_below (g := gb380) (o := .cells #[.slice Ao18 t371.length co18, .slice Ao21 t374.length co21, .bool t377, .string t378] 29 (0, 0)) (by (with_reducible repeat (first | refine blk_drewN ?_ _ | refine blk_drew ?_ | refine blk_alloc ?_ _)); exact BK380.out) hb); have n7_ := Aside0.mk (below_step (by repeat (first | (with_reducible first | exact HB.out | apply below_alloc | apply pw_below_drewN | apply below_drew1 | refine below_set ?_ GE362.out | refine below_set ?_ GE380.out) | exact HB.out)) hb); have n8_ := Aside0.mk (hbox); have n9_ := Aside0.mk ((by rw [hg]; exact (below_size (by repeat (first | (with_reducible first | exact HB.out | apply below_alloc | apply pw_below_drewN | apply below_drew1 | refine below_set ?_ GE362.out | refine below_set ?_ GE380.out) | exact HB.out))) : w.heap.size ≤ gb390)); have n10_ := Aside0.mk ((by rw [hg]; exact (below_size (by repeat (first | (with_reducible first | exact HB.out | apply below_alloc | apply pw_below_drewN | apply below_drew1 | refine below_set ?_ GE362.out | refine below_set ?_ GE380.out) | exact HB.out))) : w.heap.size ≤ gb390)); have n11_ := Aside0.mk ((by rw [hg]; exact Nat.ne_of_lt (blk_lt (g := gb362) (o := .cells #[.slice Ao14 t363.length co14, .string t366, .string t367, .string t368, .int .u64 t369, .int .i64 t370] 25 (0, 0)) (by (with_reducible repeat (first | refine blk_drewN ?_ _ | refine blk_drew ?_ | refine blk_alloc ?_ _)); exact BK362.out)) : gb362 ≠ gb390)); have n12_ := Aside0.mk ((by rw [hg]; exact Nat.ne_of_gt (blk_lt (g := gb362) (o := .cells #[.slice Ao14 t363.length co14, .string t366, .string t367, .string t368, .int .u64 t369, .int .i64 t370] 25 (0, 0)) (by (with_reducible repeat (first | refine blk_drewN ?_ _ | refine blk_drew ?_ | refine blk_alloc ?_ _)); exact BK362.out)) : gb390 ≠ gb362)); have n13_ := Aside0.mk ((by rw [hg]; exact Nat.ne_of_lt (blk_lt (g := gb380) (o := .cells #[.slice Ao18 t371.length co18, .slice Ao21 t374.length co21, .bool t377, .string t378] 29 (0, 0)) (by (with_reducible repeat (first | refine blk_drewN ?_ _ | refine blk_drew ?_ | refine blk_alloc ?_ _)); exact BK380.out)) : gb380 ≠ gb390)); have n14_ := Aside0.mk ((by rw [hg]; exact Nat.ne_of_gt (blk_lt (g := gb380) (o := .cells #[.slice Ao18 t371.length co18, .slice Ao21 t374.length co21, .bool t377, .string t378] 29 (0, 0)) (by (with_reducible repeat (first | refine blk_drewN ?_ _ | refine blk_drew ?_ | refine blk_alloc ?_ _)); exact BK380.out)) : gb390 ≠ gb380)); clear HO365; clear HO373; clear HO376; clear HO383; clear HO386; clear BK362; clear BK380; clear HB; have HO365 := n0_; have HO373 := n1_; have HO376 := n2_; have HO383 := n3_; have HO386 := n4_; have BK362 := n5_; have BK380 := n6_; have HB := n7_; have BK390 := n8_; have GW390 := n9_; have GE390 := n10_; have NB362_390 := n11_; have NB390_362 := n12_; have NB380_390 := n13_; have NB390_380 := n14_; clear n0_ n1_ n2_ n3_ n4_ n5_ n6_ n7_ n8_ n9_ n10_ n11_ n12_ n13_ n14_; clear hb hbox hg; obtain ⟨Ao25, co25, eo25⟩ := Kd.R_slice HO383.out; subst eo25; have hnb26 := NB390_362.out; have hnc26 := NB362_390.out; have hnb27 := NB390_380.out; have hnc27 := NB380_390.out; have hcz28_0 : w24.cell? ⟨gb390, 0, none⟩ = some (.slice none 0 0) := (blk_cell BK390.out 0).trans rfl; have hcz28_1 : w24.cell? ⟨gb390, 1, none⟩ = some (.slice none 0 0) := (blk_cell BK390.out 1).trans rfl; have hcz28_2 : w24.cell? ⟨gb390, 2, none⟩ = some (.bool false) := (blk_cell BK390.out 2).trans rfl; have hcz28_3 : w24.cell? ⟨gb390, 3, none⟩ = some (.string (⟨#[]⟩ : ByteArray)) := (blk_cell BK390.out 3).trans rfl; have hfz28_0 := blk_frozen BK390.out 0; have hfz28_1 := blk_frozen BK390.out 1; have hfz28_2 := blk_frozen BK390.out 2; have hfz28_3 := blk_frozen BK390.out 3; obtain ⟨Ao29, co29, eo29⟩ := Kd.R_slice HO386.out; subst eo29; have hcz30_0 : w24.cell? ⟨gb362, 0, none⟩ = some (.slice Ao14 t363.length co14) := (blk_cell BK362.out 0).trans rfl; have hcz30_1 : w24.cell? ⟨gb362, 1, none⟩ = some (.string t366) := (blk_cell BK362.out 1).trans rfl; have hcz30_2 : w24.cell? ⟨gb362, 2, none⟩ = some (.string t367) := (blk_cell BK362.out 2).trans rfl; have hcz30_3 : w24.cell? ⟨gb362, 3, none⟩ = some (.string t368) := (blk_cell BK362.out 3).trans rfl; have hcz30_4 : w24.cell? ⟨gb362, 4, none⟩ = some (.int .u64 t369) := (blk_cell BK362.out 4).trans rfl; have hcz30_5 : w24.cell? ⟨gb362, 5, none⟩ = some (.int .i64 t370) := (blk_cell BK362.out 5).trans rfl; have hfz30_0 := blk_frozen BK362.out 0; have hfz30_1 := blk_frozen BK362.out 1; have hfz30_2 := blk_frozen BK362.out 2; have hfz30_3 := blk_frozen BK362.out 3; have hfz30_4 := blk_frozen BK362.out 4; have hfz30_5 := blk_frozen BK362.out 5) | ((with_reducible refine gate_callee (f := 11) rfl ?_); refine goesL_ (some 57) rfl rfl Try.func11 (by kernel_rfl) rfl #[.slice Ao14 t363.length co14, .string t366, .string t367, .string t368, .int .i64 0] rfl (by (try simp only [List.map_toArray, List.map_cons, List.map_nil]); first | done | rfl | (simp only [List.length_drop, List.length_take]; rfl)) ?_; (with_reducible refine (pager_Keys.calls k _ _ t363 t366 t367 t368 0 t391 t394 t397 t398 t399 _ ?side1 ?side2 A9.out).mono ?_); (case side1 => refine (Kd.S_reads' (e := 50) (base := w.heap.size) (ok := fun k_ => True) (n := t363.length) (c := co14) ?_).2.2; exact (by (with_reducible repeat (first | apply Kd.S_alloc | apply Kd.S_drewN | apply Kd.S_drew)); exact (Kd.S_mono (Kd.S_far (p := ⟨gb390, 3, none⟩) (Kd.S_far (p := ⟨gb390, 2, none⟩) (Kd.S_far (p := ⟨gb390, 1, none⟩) (Kd.S_far (p := ⟨gb390, 0, none⟩) (Kd.S_types HO365.out BK390.out (by decide)) (fun _ hk => hk.2) (.slice Ao25 t381.length co25)) (fun _ hk => hk.2) (.slice Ao29 t384.length co29)) (fun _ hk => hk.2) (.bool t387)) (fun _ hk => hk.2) (.string t388)) (fun _ h_ => h_.1)))); (case side2 => exact (Kd.S_reads' HO365.out).2.1); rintro e w31 ⟨v392, v395, rfl, ho0, ho1, hb⟩; refine ⟨_, rfl, ?_⟩; have n0_ := Aside0.mk (Kd.S_below (by (with_reducible repeat (first | apply Kd.S_alloc | apply Kd.S_drewN | apply Kd.S_drew)); exact (Kd.S_mono (Kd.S_far (p := ⟨gb390, 3, none⟩) (Kd.S_far (p := ⟨gb390, 2, none⟩) (Kd.S_far (p := ⟨gb390, 1, none⟩) (Kd.S_far (p := ⟨gb390, 0, none⟩) (Kd.S_types HO365.out BK390.out (by decide)) (fun _ hk => hk.2) (.slice Ao25 t381.length co25)) (fun _ hk => hk.2) (.slice Ao29 t384.length co29)) (fun _ hk => hk.2) (.bool t387)) (fun _ hk => hk.2) (.string t388)) (fun _ h_ => h_.1))) hb); have n1_ := Aside0.mk (Kd.R_mono (Kd.R_told (Kd.R_told (Kd.R_old (by (with_reducible repeat (first | apply Kd.R_alloc | apply Kd.R_drewN | apply Kd.R_drew)); exact (Kd.R_mono (Kd.R_far (p := ⟨gb390, 3, none⟩) (Kd.R_far (p := ⟨gb390, 2, none⟩) (Kd.R_far (p := ⟨gb390, 1, none⟩) (Kd.R_far (p := ⟨gb390, 0, none⟩) (Kd.R_types HO373.out BK390.out (by decide)) (fun _ hk => hk.2) (.slice Ao25 t381.length co25)) (fun _ hk => hk.2) (.slice Ao29 t384.length co29)) (fun _ hk => hk.2) (.bool t387)) (fun _ hk => hk.2) (.string t388)) (fun _ h_ => h_.1))) hb) (Kd.R_base ho0)) (Kd.R_base ho1)) (fun _ h_ => h_.1)); have n2_ := Aside0.mk (Kd.R_mono (Kd.R_told (Kd.R_told (Kd.R_old (by (with_reducible repeat (first | apply Kd.R_alloc | apply Kd.R_drewN | apply Kd.R_drew)); exact (Kd.R_mono (Kd.R_far (p := ⟨gb390, 3, none⟩) (Kd.R_far (p := ⟨gb390, 2, none⟩) (Kd.R_far (p := ⟨gb390, 1, none⟩) (Kd.R_far (p := ⟨gb390, 0, none⟩) (Kd.R_types HO376.out BK390.out (by decide)) (fun _ hk => hk.2) (.slice Ao25 t381.length co25)) (fun _ hk => hk.2) (.slice Ao29 t384.length co29)) (fun _ hk => hk.2) (.bool t387)) (fun _ hk => hk.2) (.string t388)) (fun _ h_ => h_.1))) hb) (Kd.R_base ho0)) (Kd.R_base ho1)) (fun _ h_ => h_.1)); have n3_ := Aside0.mk (Kd.R_mono (Kd.R_told (Kd.R_told (Kd.R_old (by (with_reducible repeat (first | apply Kd.R_alloc | apply Kd.R_drewN | apply Kd.R_drew)); exact (Kd.R_mono (Kd.R_far (p := ⟨gb390, 3, none⟩) (Kd.R_far (p := ⟨gb390, 2, none⟩) (Kd.R_far (p := ⟨gb390, 1, none⟩) (Kd.R_far (p := ⟨gb390, 0, none⟩) (Kd.R_types HO383.out BK390.out (by decide)) (fun _ hk => hk.2) (.slice Ao25 t381.length co25)) (fun _ hk => hk.2) (.slice Ao29 t384.length co29)) (fun _ hk => hk.2) (.bool t387)) (fun _ hk => hk.2) (.string t388)) (fun _ h_ => h_.1))) hb) (Kd.R_base ho0)) (Kd.R_base ho1)) (fun _ h_ => h_.1)); have n4_ := Aside0.mk (Kd.R_mono (Kd.R_told (Kd.R_told (Kd.R_old (by (with_reducible repeat (first | apply Kd.R_alloc | apply Kd.R_drewN | apply Kd.R_drew)); exact (Kd.R_mono (Kd.R_far (p := ⟨gb390, 3, none⟩) (Kd.R_far (p := ⟨gb390, 2, none⟩) (Kd.R_far (p := ⟨gb390, 1, none⟩) (Kd.R_far (p := ⟨gb390, 0, none⟩) (Kd.R_types HO386.out BK390.out (by decide)) (fun _ hk => hk.2) (.slice Ao25 t381.length co25)) (fun _ hk => hk.2) (.slice Ao29 t384.length co29)) (fun _ hk => hk.2) (.bool t387)) (fun _ hk => hk.2) (.string t388)) (fun _ h_ => h_.1))) hb) (Kd.R_base ho0)) (Kd.R_base ho1)) (fun _ h_ => h_.1)); have n5_ := Aside0.mk (Kd.R_lower (Kd.R_new' (Kd.R_new' (Kd.R_new' (Kd.R_new' ho0 (Kd.R_lt (by (with_reducible repeat (first | apply Kd.R_alloc | apply Kd.R_drewN | apply Kd.R_drew)); exact (Kd.R_mono (Kd.R_far (p := ⟨gb390, 3, none⟩) (Kd.R_far (p := ⟨gb390, 2, none⟩) (Kd.R_far (p := ⟨gb390, 1, none⟩) (Kd.R_far (p := ⟨gb390, 0, none⟩) (Kd.R_types HO373.out BK390.out (by decide)) (fun _ hk => hk.2) (.slice Ao25 t381.length co25)) (fun _ hk => hk.2) (.slice Ao29 t384.length co29)) (fun _ hk => hk.2) (.bool t387)) (fun _ hk => hk.2) (.string t388)) (fun _ h_ => h_.1))))) (Kd.R_lt (by (with_reducible repeat (first | apply Kd.R_alloc | apply Kd.R_drewN | apply Kd.R_drew)); exact (Kd.R_mono (Kd.R_far (p := ⟨gb390, 3, none⟩) (Kd.R_far (p := ⟨gb390, 2, none⟩) (Kd.R_far (p := ⟨gb390, 1, none⟩) (Kd.R_far (p := ⟨gb390, 0, none⟩) (Kd.R_types HO376.out BK390.out (by decide)) (fun _ hk => hk.2) (.slice Ao25 t381.length co25)) (fun _ hk => hk.2) (.slice Ao29 t384.length co29)) (fun _ hk => hk.2) (.bool t387)) (fun _ hk => hk.2) (.string t388)) (fun _ h_ => h_.1))))) (Kd.R_lt (by (with_reducible repeat (first | apply Kd.R_alloc | apply Kd.R_drewN | apply Kd.R_drew)); exact (Kd.R_mono (Kd.R_far (p := ⟨gb390, 3, none⟩) (Kd.R_far (p := ⟨gb390, 2, none⟩) (Kd.R_far (p := ⟨gb390, 1, none⟩) (Kd.R_far (p := ⟨gb390, 0, none⟩) (Kd.R_types HO383.out BK390.out (by decide)) (fun _ hk => hk.2) (.slice Ao25 t381.length co25)) (fun _ hk => hk.2) (.slice Ao29 t384.length co29)) (fun _ hk => hk.2) (.bool t387)) (fun _ hk => hk.2) (.string t388)) (fun _ h_ => h_.1))))) (Kd.R_lt (by (with_reducible repeat (first | apply Kd.R_alloc | apply Kd.R_drewN | apply Kd.R_drew)); exact (Kd.R_mono (Kd.R_far (p := ⟨gb390, 3, none⟩) (Kd.R_far (p := ⟨gb390, 2, none⟩) (Kd.R_far (p := ⟨gb390, 1, none⟩) (Kd.R_far (p := ⟨gb390, 0, none⟩) (Kd.R_types HO386.out BK390.out (by decide)) (fun _ hk => hk.2) (.slice Ao25 t381.length co25)) (fun _ hk => hk.2) (.slice Ao29 t384.length co29)) (fun _ hk => hk.2) (.bool t387)) (fun _ hk => hk.2) (.string t388)) (fun _ h_ => h_.1))))) (below_size (by repeat (first | (with_reducible first | exact HB.out | apply below_alloc | apply pw_below_drewN | apply below_drew1 | refine below_set ?_ GE362.out | refine below_set ?_ GE380.out | refine below_set ?_ GE390.out) | exact HB.out)))); have n6_ := Aside0.mk (Kd.R_lower (Kd.R_new' (Kd.R_new' (Kd.R_new' (Kd.R_new' ho1 (Kd.R_lt (by (with_reducible repeat (first | apply Kd.R_alloc | apply Kd.R_drewN | apply Kd.R_drew)); exact (Kd.R_mono (Kd.R_far (p := ⟨gb390, 3, none⟩) (Kd.R_far (p := ⟨gb390, 2, none⟩) (Kd.R_far (p := ⟨gb390, 1, none⟩) (Kd.R_far (p := ⟨gb390, 0, none⟩) (Kd.R_types HO373.out BK390.out (by decide)) (fun _ hk => hk.2) (.slice Ao25 t381.length co25)) (fun _ hk => hk.2) (.slice Ao29 t384.length co29)) (fun _ hk => hk.2) (.bool t387)) (fun _ hk => hk.2) (.string t388)) (fun _ h_ => h_.1))))) (Kd.R_lt (by (with_reducible repeat (first | apply Kd.R_alloc | apply Kd.R_drewN | apply Kd.R_drew)); exact (Kd.R_mono (Kd.R_far (p := ⟨gb390, 3, none⟩) (Kd.R_far (p := ⟨gb390, 2, none⟩) (Kd.R_far (p := ⟨gb390, 1, none⟩) (Kd.R_far (p := ⟨gb390, 0, none⟩) (Kd.R_types HO376.out BK390.out (by decide)) (fun _ hk => hk.2) (.slice Ao25 t381.length co25)) (fun _ hk => hk.2) (.slice Ao29 t384.length co29)) (fun _ hk => hk.2) (.bool t387)) (fun _ hk => hk.2) (.string t388)) (fun _ h_ => h_.1))))) (Kd.R_lt (by (with_reducible repeat (first | apply Kd.R_alloc | apply Kd.R_drewN | apply Kd.R_drew)); exact (Kd.R_mono (Kd.R_far (p := ⟨gb390, 3, none⟩) (Kd.R_far (p := ⟨gb390, 2, none⟩) (Kd.R_far (p := ⟨gb390, 1, none⟩) (Kd.R_far (p := ⟨gb390, 0, none⟩) (Kd.R_types HO383.out BK390.out (by decide)) (fun _ hk => hk.2) (.slice Ao25 t381.length co25)) (fun _ hk => hk.2) (.slice Ao29 t384.length co29)) (fun _ hk => hk.2) (.bool t387)) (fun _ hk => hk.2) (.string t388)) (fun _ h_ => h_.1))))) (Kd.R_lt (by (with_reducible repeat (first | apply Kd.R_alloc | apply Kd.R_drewN | apply Kd.R_drew)); exact (Kd.R_mono (Kd.R_far (p := ⟨gb390, 3, none⟩) (Kd.R_far (p := ⟨gb390, 2, none⟩) (Kd.R_far (p := ⟨gb390, 1, none⟩) (Kd.R_far (p := ⟨gb390, 0, none⟩) (Kd.R_types HO386.out BK390.out (by decide)) (fun _ hk => hk.2) (.slice Ao25 t381.length co25)) (fun _ hk => hk.2) (.slice Ao29 t384.length co29)) (fun _ hk => hk.2) (.bool t387)) (fun _ hk => hk.2) (.string t388)) (fun _ h_ => h_.1))))) (below_size (by repeat (first | (with_reducible first | exact HB.out | apply below_alloc | apply pw_below_drewN | apply below_drew1 | refine below_set ?_ GE362.out | refine below_set ?_ GE380.out | refine below_set ?_ GE390.out) | exact HB.out)))); have n7_ := Aside0.mk (blk_below (g := gb362) (o := .cells #[.slice Ao14 t363.length co14, .string t366, .string t367, .string t368, .int .u64 t369, .int .i64 t370] 25 (0, 0)) (by (with_reducible repeat (first | refine blk_drewN ?_ _ | refine blk_drew ?_ | refine blk_alloc ?_ _)); refine blk_far ?_ NB362_390.out _; (with_reducible repeat (first | refine blk_drewN ?_ _ | refine blk_drew ?_ | refine blk_alloc ?_ _)); refine blk_far ?_ NB362_390.out _; (with_reducible repeat (first | refine blk_drewN ?_ _ | refine blk_drew ?_ | refine blk_alloc ?_ _)); refine blk_far ?_ NB362_390.out _; (with_reducible repeat (first | refine blk_drewN ?_ _ | refine blk_drew ?_ | refine blk_alloc ?_ _)); refine blk_far ?_ NB362_390.out _; (with_reducible repeat (first | refine blk_drewN ?_ _ | refine blk_drew ?_ | refine blk_alloc ?_ _)); exact BK362.out) hb); have n8_ := Aside0.mk (blk_below (g := gb380) (o := .cells #[.slice Ao18 t371.length co18, .slice Ao21 t374.length co21, .bool t377, .string t378] 29 (0, 0)) (by (with_reducible repeat (first | refine blk_drewN ?_ _ | refine blk_drew ?_ | refine blk_alloc ?_ _)); refine blk_far ?_ NB380_390.out _; (with_reducible repeat (first | refine blk_drewN ?_ _ | refine blk_drew ?_ | refine blk_alloc ?_ _)); refine blk_far ?_ NB380_390.out _; (with_reducible repeat (first | refine blk_drewN ?_ _ | refine blk_drew ?_ | refine blk_alloc ?_ _)); refine blk_far ?_ NB380_390.out _; (with_reducible repeat (first | refine blk_drewN ?_ _ | refine blk_drew ?_ | refine blk_alloc ?_ _)); refine blk_far ?_ NB380_390.out _; (with_reducible repeat (first | refine blk_drewN ?_ _ | refine blk_drew ?_ | refine blk_alloc ?_ _)); exact BK380.out) hb); have n9_ := Aside0.mk (blk_below (g := gb390) (o := .cells #[.slice Ao25 t381.length co25, .slice Ao29 t384.length co29, .bool t387, .string t388] 29 (0, 0)) (by (with_reducible repeat (first | refine blk_drewN ?_ _ | refine blk_drew ?_ | refine blk_alloc ?_ _)); refine blk_put (cs := #[.slice Ao25 t381.length co25, .slice Ao29 t384.length co29, .bool t387, .string (⟨#[]⟩ : ByteArray)]) ?_ 3 _ rfl; (with_reducible repeat (first | refine blk_drewN ?_ _ | refine blk_drew ?_ | refine blk_alloc ?_ _)); refine blk_put (cs := #[.slice Ao25 t381.length co25, .slice Ao29 t384.length co29, .bool false, .string (⟨#[]⟩ : ByteArray)]) ?_ 2 _ rfl; (with_reducible repeat (first | refine blk_drewN ?_ _ | refine blk_drew ?_ | refine blk_alloc ?_ _)); refine blk_put (cs := #[.slice Ao25 t381.length co25, .slice none 0 0, .bool false, .string (⟨#[]⟩ : ByteArray)]) ?_ 1 _ rfl; (with_reducible repeat (first | refine blk_drewN ?_ _ | refine blk_drew ?_ | refine blk_alloc ?_ _)); refine blk_put (cs := #[.slice none 0 0, .slice none 0 0, .bool false, .string (⟨#[]⟩ : ByteArray)]) ?_ 0 _ rfl; (with_reducible repeat (first | refine blk_drewN ?_ _ | refine blk_drew ?_ | refine blk_alloc ?_ _)); exact BK390.out) hb); have n10_ := Aside0.mk (below_step (by repeat (first | (with_reducible first | exact HB.out | apply below_alloc | apply pw_below_drewN | apply below_drew1 | refine below_set ?_ GE362.out | refine below_set ?_ GE380.out | refine below_set ?_ GE390.out) | exact HB.out)) hb); clear HO365; clear HO373; clear HO376; clear HO383; clear HO386; clear BK362; clear BK380; clear BK390; clear HB; have HO365 := n0_; have HO373 := n1_; have HO376 := n2_; have HO383 := n3_; have HO386 := n4_; have HO393 := n5_; have HO396 := n6_; have BK362 := n7_; have BK380 := n8_; have BK390 := n9_; have HB := n10_; clear n0_ n1_ n2_ n3_ n4_ n5_ n6_ n7_ n8_ n9_ n10_; (try clear hb); (try clear hb2); (try clear hk); (try clear hi); (try clear ho0); (try clear ho1)) | ((with_reducible refine gate_dst (N := 11) rfl ?_); (try (refine gate_guard (by rfl) ?_; dsimp only)); refine box_event ?hg (N := 11) ?hd (cs := #[.slice none 0 0, .slice none 0 0, .bool false, .string (⟨#[]⟩ : ByteArray)]) (t := 29) ?hr ?_; (case hd => rfl); (case hg => rfl); (case hr => first | (go_simp; done) | (go_simp; rfl)); intro gb400 hg w32 hbox hb; have n0_ := Aside0.mk (Kd.S_below (by (with_reducible repeat (first | apply Kd.S_alloc | apply Kd.S_drewN | apply Kd.S_drew)); exact HO365.out) hb); have n1_ := Aside0.mk (Kd.R_below (by (with_reducible repeat (first | apply Kd.R_alloc | apply Kd.R_drewN | apply Kd.R_drew)); exact HO373.out) hb); have n2_ := Aside0.mk (Kd.R_below (by (with_reducible repeat (first | apply Kd.R_alloc | apply Kd.R_drewN | apply Kd.R_drew)); exact HO376.out) hb); have n3_ := Aside0.mk (Kd.R_below (by (with_reducible repeat (first | apply Kd.R_alloc | apply Kd.R_drewN | apply Kd.R_drew)); exact HO383.out) hb); have n4_ := Aside0.mk (Kd.R_below (by (with_reducible repeat (first | apply Kd.R_alloc | apply Kd.R_drewN | apply Kd.R_drew)); exact HO386.out) hb); have n5_ := Aside0.mk (Kd.R_below (by (with_reducible repeat (first | apply Kd.R_alloc | apply Kd.R_drewN | apply Kd.R_drew)); exact HO393.out) hb); have n6_ := Aside0.mk (Kd.R_below (by (with_reducible repeat (first | apply Kd.R_alloc | apply Kd.R_drewN | apply Kd.R_drew)); exact HO396.out) hb); have n7_ := Aside0.mk (blk_below (g := gb362) (o := .cells #[.slice Ao14 t363.length co14, .string t366, .string t367, .string t368, .int .u64 t369, .int .i64 t370] 25 (0, 0)) (by (with_reducible repeat (first | refine blk_drewN ?_ _ | refine blk_drew ?_ | refine blk_alloc ?_ _)); exact BK362.out) hb); have n8_ := Aside0.mk (blk_below (g := gb380) (o := .cells #[.slice Ao18 t371.length co18, .slice Ao21 t374.length co21, .bool t377, .string t378] 29 (0, 0)) (by (with_reducible repeat (first | refine blk_drewN ?_ _ | refine blk_drew ?_ | refine blk_alloc ?_ _)); exact BK380.out) hb); have n9_ := Aside0.mk (blk_below (g := gb390) (o := .cells #[.slice Ao25 t381.length co25, .slice Ao29 t384.length co29, .bool t387, .string t388] 29 (0, 0)) (by (with_reducible repeat (first | refine blk_drewN ?_ _ | refine blk_drew ?_ | refine blk_alloc ?_ _)); exact BK390.out) hb); have n10_ := Aside0.mk (below_step (by repeat (first | (with_reducible first | exact HB.out | apply below_alloc | apply pw_below_drewN | apply below_drew1 | refine below_set ?_ GE362.out | refine below_set ?_ GE380.out | refine below_set ?_ GE390.out) | exact HB.out)) hb); have n11_ := Aside0.mk (hbox); have n12_ := Aside0.mk ((by rw [hg]; exact (below_size (by repeat (first | (with_reducible first | exact HB.out | apply below_alloc | apply pw_below_drewN | apply below_drew1 | refine below_set ?_ GE362.out | refine below_set ?_ GE380.out | refine below_set ?_ GE390.out) | exact HB.out))) : w.heap.size ≤ gb400)); have n13_ := Aside0.mk ((by rw [hg]; exact (below_size (by repeat (first | (with_reducible first | exact HB.out | apply below_alloc | apply pw_below_drewN | apply below_drew1 | refine below_set ?_ GE362.out | refine below_set ?_ GE380.out | refine below_set ?_ GE390.out) | exact HB.out))) : w.heap.size ≤ gb400)); have n14_ := Aside0.mk ((by rw [hg]; exact Nat.ne_of_lt (blk_lt (g := gb362) (o := .cells #[.slice Ao14 t363.length co14, .string t366, .string t367, .string t368, .int .u64 t369, .int .i64 t370] 25 (0, 0)) (by (with_reducible repeat (first | refine blk_drewN ?_ _ | refine blk_drew ?_ | refine blk_alloc ?_ _)); exact BK362.out)) : gb362 ≠ gb400)); have n15_ := Aside0.mk ((by rw [hg]; exact Nat.ne_of_gt (blk_lt (g := gb362) (o := .cells #[.slice Ao14 t363.length co14, .string t366, .string t367, .string t368, .int .u64 t369, .int .i64 t370] 25 (0, 0)) (by (with_reducible repeat (first | refine blk_drewN ?_ _ | refine blk_drew ?_ | refine blk_alloc ?_ _)); exact BK362.out)) : gb400 ≠ gb362)); have n16_ := Aside0.mk ((by rw [hg]; exact Nat.ne_of_lt (blk_lt (g := gb380) (o := .cells #[.slice Ao18 t371.length co18, .slice Ao21 t374.length co21, .bool t377, .string t378] 29 (0, 0)) (by (with_reducible repeat (first | refine blk_drewN ?_ _ | refine blk_drew ?_ | refine blk_alloc ?_ _)); exact BK380.out)) : gb380 ≠ gb400)); have n17_ := Aside0.mk ((by rw [hg]; exact Nat.ne_of_gt (blk_lt (g := gb380) (o := .cells #[.slice Ao18 t371.length co18, .slice Ao21 t374.length co21, .bool t377, .string t378] 29 (0, 0)) (by (with_reducible repeat (first | refine blk_drewN ?_ _ | refine blk_drew ?_ | refine blk_alloc ?_ _)); exact BK380.out)) : gb400 ≠ gb380)); have n18_ := Aside0.mk ((by rw [hg]; exact Nat.ne_of_lt (blk_lt (g := gb390) (o := .cells #[.slice Ao25 t381.length co25, .slice Ao29 t384.length co29, .bool t387, .string t388] 29 (0, 0)) (by (with_reducible repeat (first | refine blk_drewN ?_ _ | refine blk_drew ?_ | refine blk_alloc ?_ _)); exact BK390.out)) : gb390 ≠ gb400)); have n19_ := Aside0.mk ((by rw [hg]; exact Nat.ne_of_gt (blk_lt (g := gb390) (o := .cells #[.slice Ao25 t381.length co25, .slice Ao29 t384.length co29, .bool t387, .string t388] 29 (0, 0)) (by (with_reducible repeat (first | refine blk_drewN ?_ _ | refine blk_drew ?_ | refine blk_alloc ?_ _)); exact BK390.out)) : gb400 ≠ gb390)); clear HO365; clear HO373; clear HO376; clear HO383; clear HO386; clear HO393; clear HO396; clear BK362; clear BK380; clear BK390; clear HB; have HO365 := n0_; have HO373 := n1_; have HO376 := n2_; have HO383 := n3_; have HO386 := n4_; have HO393 := n5_; have HO396 := n6_; have BK362 := n7_; have BK380 := n8_; have BK390 := n9_; have HB := n10_; have BK400 := n11_; have GW400 := n12_; have GE400 := n13_; have NB362_400 := n14_; have NB400_362 := n15_; have NB380_400 := n16_; have NB400_380 := n17_; have NB390_400 := n18_; have NB400_390 := n19_; clear n0_ n1_ n2_ n3_ n4_ n5_ n6_ n7_ n8_ n9_ n10_ n11_ n12_ n13_ n14_ n15_ n16_ n17_ n18_ n19_; clear hb hbox hg; obtain ⟨Ao33, co33, eo33⟩ := Kd.R_slice HO393.out; subst eo33; have hnb34 := NB400_362.out; have hnc34 := NB362_400.out; have hnb35 := NB400_380.out; have hnc35 := NB380_400.out; have hnb36 := NB400_390.out; have hnc36 := NB390_400.out; have hcz37_0 : w32.cell? ⟨gb400, 0, none⟩ = some (.slice none 0 0) := (blk_cell BK400.out 0).trans rfl; have hcz37_1 : w32.cell? ⟨gb400, 1, none⟩ = some (.slice none 0 0) := (blk_cell BK400.out 1).trans rfl; have hcz37_2 : w32.cell? ⟨gb400, 2, none⟩ = some (.bool false) := (blk_cell BK400.out 2).trans rfl; have hcz37_3 : w32.cell? ⟨gb400, 3, none⟩ = some (.string (⟨#[]⟩ : ByteArray)) := (blk_cell BK400.out 3).trans rfl; have hfz37_0 := blk_frozen BK400.out 0; have hfz37_1 := blk_frozen BK400.out 1; have hfz37_2 := blk_frozen BK400.out 2; have hfz37_3 := blk_frozen BK400.out 3; obtain ⟨Ao38, co38, eo38⟩ := Kd.R_slice HO396.out; subst eo38))
 (try simp only [Act.put, List.setIfInBounds_toArray, List.set_cons_zero, List.set_cons_succ])
 go_cut [69] (fun v69 wc => ∃ (kq : Nat) (x69_9 : Bool), v69 = .bool x69_9 ∧ Aside0 (cellarerlaw07_PagerSizes.j0 kq t379 t389 t399 x69_9 t371 t374 t377 t378 t381 t384 t387 t388 t391 t394 t397 t398 = some r) ∧ Aside0 (kq ≤ k) ∧ Aside0 (Kd.S k50 50 wc w.heap.size (fun _ => True) (.slice Ao14 t363.length co14) t363) ∧ Aside0 (Kd.R Kd.string 9 wc w.heap.size (fun k_ => some k_ ≠ ((.slice Ao21 t374.length co21) : Value).ownBlock ∧ some k_ ≠ ((.slice Ao25 t381.length co25) : Value).ownBlock ∧ some k_ ≠ ((.slice Ao29 t384.length co29) : Value).ownBlock ∧ some k_ ≠ ((.slice Ao33 t391.length co33) : Value).ownBlock ∧ some k_ ≠ ((.slice Ao38 t394.length co38) : Value).ownBlock) (.slice Ao18 t371.length co18) t371) ∧ Aside0 (Kd.R Kd.string 9 wc w.heap.size (fun k_ => some k_ ≠ ((.slice Ao18 t371.length co18) : Value).ownBlock ∧ some k_ ≠ ((.slice Ao25 t381.length co25) : Value).ownBlock ∧ some k_ ≠ ((.slice Ao29 t384.length co29) : Value).ownBlock ∧ some k_ ≠ ((.slice Ao33 t391.length co33) : Value).ownBlock ∧ some k_ ≠ ((.slice Ao38 t394.length co38) : Value).ownBlock) (.slice Ao21 t374.length co21) t374) ∧ Aside0 (Kd.R Kd.string 9 wc w.heap.size (fun k_ => some k_ ≠ ((.slice Ao18 t371.length co18) : Value).ownBlock ∧ some k_ ≠ ((.slice Ao21 t374.length co21) : Value).ownBlock ∧ some k_ ≠ ((.slice Ao29 t384.length co29) : Value).ownBlock ∧ some k_ ≠ ((.slice Ao33 t391.length co33) : Value).ownBlock ∧ some k_ ≠ ((.slice Ao38 t394.length co38) : Value).ownBlock) (.slice Ao25 t381.length co25) t381) ∧ Aside0 (Kd.R Kd.string 9 wc w.heap.size (fun k_ => some k_ ≠ ((.slice Ao18 t371.length co18) : Value).ownBlock ∧ some k_ ≠ ((.slice Ao21 t374.length co21) : Value).ownBlock ∧ some k_ ≠ ((.slice Ao25 t381.length co25) : Value).ownBlock ∧ some k_ ≠ ((.slice Ao33 t391.length co33) : Value).ownBlock ∧ some k_ ≠ ((.slice Ao38 t394.length co38) : Value).ownBlock) (.slice Ao29 t384.length co29) t384) ∧ Aside0 (Kd.R Kd.string 9 wc w.heap.size (fun k_ => some k_ ≠ ((.slice Ao18 t371.length co18) : Value).ownBlock ∧ some k_ ≠ ((.slice Ao21 t374.length co21) : Value).ownBlock ∧ some k_ ≠ ((.slice Ao25 t381.length co25) : Value).ownBlock ∧ some k_ ≠ ((.slice Ao29 t384.length co29) : Value).ownBlock ∧ some k_ ≠ ((.slice Ao38 t394.length co38) : Value).ownBlock) (.slice Ao33 t391.length co33) t391) ∧ Aside0 (Kd.R Kd.string 9 wc w.heap.size (fun k_ => some k_ ≠ ((.slice Ao18 t371.length co18) : Value).ownBlock ∧ some k_ ≠ ((.slice Ao21 t374.length co21) : Value).ownBlock ∧ some k_ ≠ ((.slice Ao25 t381.length co25) : Value).ownBlock ∧ some k_ ≠ ((.slice Ao29 t384.length co29) : Value).ownBlock ∧ some k_ ≠ ((.slice Ao33 t391.length co33) : Value).ownBlock) (.slice Ao38 t394.length co38) t394) ∧ Aside0 (wc.heap[gb362]? = some (.cells #[(.slice Ao14 t363.length co14), .string t366, .string t367, .string t368, .int .u64 t369, .int .i64 t370] 25 (0, 0))) ∧ Aside0 (wc.heap[gb380]? = some (.cells #[(.slice Ao18 t371.length co18), (.slice Ao21 t374.length co21), .bool t377, .string t378] 29 (0, 0))) ∧ Aside0 (wc.heap[gb390]? = some (.cells #[(.slice Ao25 t381.length co25), (.slice Ao29 t384.length co29), .bool t387, .string t388] 29 (0, 0))) ∧ Aside0 (wc.heap[gb400]? = some (.cells #[(.slice Ao33 t391.length co33), (.slice Ao38 t394.length co38), .bool t397, .string t398] 29 (0, 0))) ∧ Aside0 (Below w.heap.size w wc))
 case first =>
  have H := HC10.out
  clear HC10
  by_cases c39 : t379 = 0
  ·rw [if_pos c39] at H
   have c39b0 : (t379 == 0) = true := beq_iff_eq.mpr c39
   have c39b1 : (t379 != 0) = false := bne_eq_false_iff_eq.mpr c39
   clear c39
   (first | rw [c39b0] | rw [c39b1] | (simp only [i64_w, i32_w]; rw [c39b0]) | skip)
   by_cases c40 : t389 = 0
   ·rw [if_pos c40] at H
    have c40b0 : (t389 == 0) = true := beq_iff_eq.mpr c40
    have c40b1 : (t389 != 0) = false := bne_eq_false_iff_eq.mpr c40
    clear c40
    have H' := Aside0.mk H
    clear H
    go_wp2
    go_meet
    case rel => exact ⟨_, ((t399 != 0)), (by first | rfl | (simp; done) | (simp [*]; done)), H', ⟨by first | omega | exact Nat.le_refl _⟩, ⟨by (with_reducible repeat (first | apply Kd.S_alloc | apply Kd.S_drewN | apply Kd.S_drew)); exact Kd.S_mono (Kd.S_far (p := ⟨gb400, 3, none⟩) (Kd.S_far (p := ⟨gb400, 2, none⟩) (Kd.S_far (p := ⟨gb400, 1, none⟩) (Kd.S_far (p := ⟨gb400, 0, none⟩) (Kd.S_types HO365.out BK400.out (by decide)) (fun _ hk => hk.2) (.slice Ao33 t391.length co33)) (fun _ hk => hk.2) (.slice Ao38 t394.length co38)) (fun _ hk => hk.2) (.bool t397)) (fun _ hk => hk.2) (.string t398)) (fun _ hk => trivial)⟩, ⟨by (with_reducible repeat (first | apply Kd.R_alloc | apply Kd.R_drewN | apply Kd.R_drew)); exact Kd.R_mono (Kd.R_far (p := ⟨gb400, 3, none⟩) (Kd.R_far (p := ⟨gb400, 2, none⟩) (Kd.R_far (p := ⟨gb400, 1, none⟩) (Kd.R_far (p := ⟨gb400, 0, none⟩) (Kd.R_types HO373.out BK400.out (by decide)) (fun _ hk => hk.2) (.slice Ao33 t391.length co33)) (fun _ hk => hk.2) (.slice Ao38 t394.length co38)) (fun _ hk => hk.2) (.bool t397)) (fun _ hk => hk.2) (.string t398)) (fun _ hk => ⟨hk.1.1.1.1.1, ⟨hk.1.1.1.1.2, ⟨hk.1.1.1.2, ⟨hk.1.1.2, hk.1.2⟩⟩⟩⟩)⟩, ⟨by (with_reducible repeat (first | apply Kd.R_alloc | apply Kd.R_drewN | apply Kd.R_drew)); exact Kd.R_mono (Kd.R_far (p := ⟨gb400, 3, none⟩) (Kd.R_far (p := ⟨gb400, 2, none⟩) (Kd.R_far (p := ⟨gb400, 1, none⟩) (Kd.R_far (p := ⟨gb400, 0, none⟩) (Kd.R_types HO376.out BK400.out (by decide)) (fun _ hk => hk.2) (.slice Ao33 t391.length co33)) (fun _ hk => hk.2) (.slice Ao38 t394.length co38)) (fun _ hk => hk.2) (.bool t397)) (fun _ hk => hk.2) (.string t398)) (fun _ hk => ⟨hk.1.1.1.1.1, ⟨hk.1.1.1.1.2, ⟨hk.1.1.1.2, ⟨hk.1.1.2, hk.1.2⟩⟩⟩⟩)⟩, ⟨by (with_reducible repeat (first | apply Kd.R_alloc | apply Kd.R_drewN | apply Kd.R_drew)); exact Kd.R_mono (Kd.R_far (p := ⟨gb400, 3, none⟩) (Kd.R_far (p := ⟨gb400, 2, none⟩) (Kd.R_far (p := ⟨gb400, 1, none⟩) (Kd.R_far (p := ⟨gb400, 0, none⟩) (Kd.R_types HO383.out BK400.out (by decide)) (fun _ hk => hk.2) (.slice Ao33 t391.length co33)) (fun _ hk => hk.2) (.slice Ao38 t394.length co38)) (fun _ hk => hk.2) (.bool t397)) (fun _ hk => hk.2) (.string t398)) (fun _ hk => ⟨hk.1.1.1.1.2, ⟨hk.1.1.1.2, ⟨hk.1.1.1.1.1, ⟨hk.1.1.2, hk.1.2⟩⟩⟩⟩)⟩, ⟨by (with_reducible repeat (first | apply Kd.R_alloc | apply Kd.R_drewN | apply Kd.R_drew)); exact Kd.R_mono (Kd.R_far (p := ⟨gb400, 3, none⟩) (Kd.R_far (p := ⟨gb400, 2, none⟩) (Kd.R_far (p := ⟨gb400, 1, none⟩) (Kd.R_far (p := ⟨gb400, 0, none⟩) (Kd.R_types HO386.out BK400.out (by decide)) (fun _ hk => hk.2) (.slice Ao33 t391.length co33)) (fun _ hk => hk.2) (.slice Ao38 t394.length co38)) (fun _ hk => hk.2) (.bool t397)) (fun _ hk => hk.2) (.string t398)) (fun _ hk => ⟨hk.1.1.1.1.2, ⟨hk.1.1.1.2, ⟨hk.1.1.1.1.1, ⟨hk.1.1.2, hk.1.2⟩⟩⟩⟩)⟩, ⟨by (with_reducible repeat (first | apply Kd.R_alloc | apply Kd.R_drewN | apply Kd.R_drew)); exact Kd.R_mono (Kd.R_far (p := ⟨gb400, 3, none⟩) (Kd.R_far (p := ⟨gb400, 2, none⟩) (Kd.R_far (p := ⟨gb400, 1, none⟩) (Kd.R_far (p := ⟨gb400, 0, none⟩) (Kd.R_types HO393.out BK400.out (by decide)) (fun _ hk => hk.2) (.slice Ao33 t391.length co33)) (fun _ hk => hk.2) (.slice Ao38 t394.length co38)) (fun _ hk => hk.2) (.bool t397)) (fun _ hk => hk.2) (.string t398)) (fun _ hk => ⟨hk.1.1.1.1.2, ⟨hk.1.1.1.2, ⟨hk.1.1.2, ⟨hk.1.2, hk.1.1.1.1.1⟩⟩⟩⟩)⟩, ⟨by (with_reducible repeat (first | apply Kd.R_alloc | apply Kd.R_drewN | apply Kd.R_drew)); exact Kd.R_mono (Kd.R_far (p := ⟨gb400, 3, none⟩) (Kd.R_far (p := ⟨gb400, 2, none⟩) (Kd.R_far (p := ⟨gb400, 1, none⟩) (Kd.R_far (p := ⟨gb400, 0, none⟩) (Kd.R_types HO396.out BK400.out (by decide)) (fun _ hk => hk.2) (.slice Ao33 t391.length co33)) (fun _ hk => hk.2) (.slice Ao38 t394.length co38)) (fun _ hk => hk.2) (.bool t397)) (fun _ hk => hk.2) (.string t398)) (fun _ hk => ⟨hk.1.1.1.1.2, ⟨hk.1.1.1.2, ⟨hk.1.1.2, ⟨hk.1.2, hk.1.1.1.1.1⟩⟩⟩⟩)⟩, ⟨by (with_reducible repeat (first | refine blk_drewN ?_ _ | refine blk_drew ?_ | refine blk_alloc ?_ _)); refine blk_far ?_ NB362_400.out _; (with_reducible repeat (first | refine blk_drewN ?_ _ | refine blk_drew ?_ | refine blk_alloc ?_ _)); refine blk_far ?_ NB362_400.out _; (with_reducible repeat (first | refine blk_drewN ?_ _ | refine blk_drew ?_ | refine blk_alloc ?_ _)); refine blk_far ?_ NB362_400.out _; (with_reducible repeat (first | refine blk_drewN ?_ _ | refine blk_drew ?_ | refine blk_alloc ?_ _)); refine blk_far ?_ NB362_400.out _; (with_reducible repeat (first | refine blk_drewN ?_ _ | refine blk_drew ?_ | refine blk_alloc ?_ _)); exact BK362.out⟩, ⟨by (with_reducible repeat (first | refine blk_drewN ?_ _ | refine blk_drew ?_ | refine blk_alloc ?_ _)); refine blk_far ?_ NB380_400.out _; (with_reducible repeat (first | refine blk_drewN ?_ _ | refine blk_drew ?_ | refine blk_alloc ?_ _)); refine blk_far ?_ NB380_400.out _; (with_reducible repeat (first | refine blk_drewN ?_ _ | refine blk_drew ?_ | refine blk_alloc ?_ _)); refine blk_far ?_ NB380_400.out _; (with_reducible repeat (first | refine blk_drewN ?_ _ | refine blk_drew ?_ | refine blk_alloc ?_ _)); refine blk_far ?_ NB380_400.out _; (with_reducible repeat (first | refine blk_drewN ?_ _ | refine blk_drew ?_ | refine blk_alloc ?_ _)); exact BK380.out⟩, ⟨by (with_reducible repeat (first | refine blk_drewN ?_ _ | refine blk_drew ?_ | refine blk_alloc ?_ _)); refine blk_far ?_ NB390_400.out _; (with_reducible repeat (first | refine blk_drewN ?_ _ | refine blk_drew ?_ | refine blk_alloc ?_ _)); refine blk_far ?_ NB390_400.out _; (with_reducible repeat (first | refine blk_drewN ?_ _ | refine blk_drew ?_ | refine blk_alloc ?_ _)); refine blk_far ?_ NB390_400.out _; (with_reducible repeat (first | refine blk_drewN ?_ _ | refine blk_drew ?_ | refine blk_alloc ?_ _)); refine blk_far ?_ NB390_400.out _; (with_reducible repeat (first | refine blk_drewN ?_ _ | refine blk_drew ?_ | refine blk_alloc ?_ _)); exact BK390.out⟩, ⟨by (with_reducible repeat (first | refine blk_drewN ?_ _ | refine blk_drew ?_ | refine blk_alloc ?_ _)); refine blk_put (cs := #[.slice Ao33 t391.length co33, .slice Ao38 t394.length co38, .bool t397, .string (⟨#[]⟩ : ByteArray)]) ?_ 3 _ rfl; (with_reducible repeat (first | refine blk_drewN ?_ _ | refine blk_drew ?_ | refine blk_alloc ?_ _)); refine blk_put (cs := #[.slice Ao33 t391.length co33, .slice Ao38 t394.length co38, .bool false, .string (⟨#[]⟩ : ByteArray)]) ?_ 2 _ rfl; (with_reducible repeat (first | refine blk_drewN ?_ _ | refine blk_drew ?_ | refine blk_alloc ?_ _)); refine blk_put (cs := #[.slice Ao33 t391.length co33, .slice none 0 0, .bool false, .string (⟨#[]⟩ : ByteArray)]) ?_ 1 _ rfl; (with_reducible repeat (first | refine blk_drewN ?_ _ | refine blk_drew ?_ | refine blk_alloc ?_ _)); refine blk_put (cs := #[.slice none 0 0, .slice none 0 0, .bool false, .string (⟨#[]⟩ : ByteArray)]) ?_ 0 _ rfl; (with_reducible repeat (first | refine blk_drewN ?_ _ | refine blk_drew ?_ | refine blk_alloc ?_ _)); exact BK400.out⟩, ⟨by repeat (first | (with_reducible first | exact HB.out | apply below_alloc | apply pw_below_drewN | apply below_drew1 | refine below_set ?_ GE362.out | refine below_set ?_ GE380.out | refine below_set ?_ GE390.out | refine below_set ?_ GE400.out) | exact HB.out)⟩⟩
   ·rw [if_neg c40] at H
    have c40b0 : (t389 == 0) = false := beq_eq_false_iff_ne.mpr c40
    have c40b1 : (t389 != 0) = true := bne_iff_ne.mpr c40
    have H' := Aside0.mk H
    clear H
    go_wp2
    go_meet
    case rel => exact ⟨_, (true), (by first | rfl | (simp; done) | (simp [*]; done)), H', ⟨by first | omega | exact Nat.le_refl _⟩, ⟨by (with_reducible repeat (first | apply Kd.S_alloc | apply Kd.S_drewN | apply Kd.S_drew)); exact Kd.S_mono (Kd.S_far (p := ⟨gb400, 3, none⟩) (Kd.S_far (p := ⟨gb400, 2, none⟩) (Kd.S_far (p := ⟨gb400, 1, none⟩) (Kd.S_far (p := ⟨gb400, 0, none⟩) (Kd.S_types HO365.out BK400.out (by decide)) (fun _ hk => hk.2) (.slice Ao33 t391.length co33)) (fun _ hk => hk.2) (.slice Ao38 t394.length co38)) (fun _ hk => hk.2) (.bool t397)) (fun _ hk => hk.2) (.string t398)) (fun _ hk => trivial)⟩, ⟨by (with_reducible repeat (first | apply Kd.R_alloc | apply Kd.R_drewN | apply Kd.R_drew)); exact Kd.R_mono (Kd.R_far (p := ⟨gb400, 3, none⟩) (Kd.R_far (p := ⟨gb400, 2, none⟩) (Kd.R_far (p := ⟨gb400, 1, none⟩) (Kd.R_far (p := ⟨gb400, 0, none⟩) (Kd.R_types HO373.out BK400.out (by decide)) (fun _ hk => hk.2) (.slice Ao33 t391.length co33)) (fun _ hk => hk.2) (.slice Ao38 t394.length co38)) (fun _ hk => hk.2) (.bool t397)) (fun _ hk => hk.2) (.string t398)) (fun _ hk => ⟨hk.1.1.1.1.1, ⟨hk.1.1.1.1.2, ⟨hk.1.1.1.2, ⟨hk.1.1.2, hk.1.2⟩⟩⟩⟩)⟩, ⟨by (with_reducible repeat (first | apply Kd.R_alloc | apply Kd.R_drewN | apply Kd.R_drew)); exact Kd.R_mono (Kd.R_far (p := ⟨gb400, 3, none⟩) (Kd.R_far (p := ⟨gb400, 2, none⟩) (Kd.R_far (p := ⟨gb400, 1, none⟩) (Kd.R_far (p := ⟨gb400, 0, none⟩) (Kd.R_types HO376.out BK400.out (by decide)) (fun _ hk => hk.2) (.slice Ao33 t391.length co33)) (fun _ hk => hk.2) (.slice Ao38 t394.length co38)) (fun _ hk => hk.2) (.bool t397)) (fun _ hk => hk.2) (.string t398)) (fun _ hk => ⟨hk.1.1.1.1.1, ⟨hk.1.1.1.1.2, ⟨hk.1.1.1.2, ⟨hk.1.1.2, hk.1.2⟩⟩⟩⟩)⟩, ⟨by (with_reducible repeat (first | apply Kd.R_alloc | apply Kd.R_drewN | apply Kd.R_drew)); exact Kd.R_mono (Kd.R_far (p := ⟨gb400, 3, none⟩) (Kd.R_far (p := ⟨gb400, 2, none⟩) (Kd.R_far (p := ⟨gb400, 1, none⟩) (Kd.R_far (p := ⟨gb400, 0, none⟩) (Kd.R_types HO383.out BK400.out (by decide)) (fun _ hk => hk.2) (.slice Ao33 t391.length co33)) (fun _ hk => hk.2) (.slice Ao38 t394.length co38)) (fun _ hk => hk.2) (.bool t397)) (fun _ hk => hk.2) (.string t398)) (fun _ hk => ⟨hk.1.1.1.1.2, ⟨hk.1.1.1.2, ⟨hk.1.1.1.1.1, ⟨hk.1.1.2, hk.1.2⟩⟩⟩⟩)⟩, ⟨by (with_reducible repeat (first | apply Kd.R_alloc | apply Kd.R_drewN | apply Kd.R_drew)); exact Kd.R_mono (Kd.R_far (p := ⟨gb400, 3, none⟩) (Kd.R_far (p := ⟨gb400, 2, none⟩) (Kd.R_far (p := ⟨gb400, 1, none⟩) (Kd.R_far (p := ⟨gb400, 0, none⟩) (Kd.R_types HO386.out BK400.out (by decide)) (fun _ hk => hk.2) (.slice Ao33 t391.length co33)) (fun _ hk => hk.2) (.slice Ao38 t394.length co38)) (fun _ hk => hk.2) (.bool t397)) (fun _ hk => hk.2) (.string t398)) (fun _ hk => ⟨hk.1.1.1.1.2, ⟨hk.1.1.1.2, ⟨hk.1.1.1.1.1, ⟨hk.1.1.2, hk.1.2⟩⟩⟩⟩)⟩, ⟨by (with_reducible repeat (first | apply Kd.R_alloc | apply Kd.R_drewN | apply Kd.R_drew)); exact Kd.R_mono (Kd.R_far (p := ⟨gb400, 3, none⟩) (Kd.R_far (p := ⟨gb400, 2, none⟩) (Kd.R_far (p := ⟨gb400, 1, none⟩) (Kd.R_far (p := ⟨gb400, 0, none⟩) (Kd.R_types HO393.out BK400.out (by decide)) (fun _ hk => hk.2) (.slice Ao33 t391.length co33)) (fun _ hk => hk.2) (.slice Ao38 t394.length co38)) (fun _ hk => hk.2) (.bool t397)) (fun _ hk => hk.2) (.string t398)) (fun _ hk => ⟨hk.1.1.1.1.2, ⟨hk.1.1.1.2, ⟨hk.1.1.2, ⟨hk.1.2, hk.1.1.1.1.1⟩⟩⟩⟩)⟩, ⟨by (with_reducible repeat (first | apply Kd.R_alloc | apply Kd.R_drewN | apply Kd.R_drew)); exact Kd.R_mono (Kd.R_far (p := ⟨gb400, 3, none⟩) (Kd.R_far (p := ⟨gb400, 2, none⟩) (Kd.R_far (p := ⟨gb400, 1, none⟩) (Kd.R_far (p := ⟨gb400, 0, none⟩) (Kd.R_types HO396.out BK400.out (by decide)) (fun _ hk => hk.2) (.slice Ao33 t391.length co33)) (fun _ hk => hk.2) (.slice Ao38 t394.length co38)) (fun _ hk => hk.2) (.bool t397)) (fun _ hk => hk.2) (.string t398)) (fun _ hk => ⟨hk.1.1.1.1.2, ⟨hk.1.1.1.2, ⟨hk.1.1.2, ⟨hk.1.2, hk.1.1.1.1.1⟩⟩⟩⟩)⟩, ⟨by (with_reducible repeat (first | refine blk_drewN ?_ _ | refine blk_drew ?_ | refine blk_alloc ?_ _)); refine blk_far ?_ NB362_400.out _; (with_reducible repeat (first | refine blk_drewN ?_ _ | refine blk_drew ?_ | refine blk_alloc ?_ _)); refine blk_far ?_ NB362_400.out _; (with_reducible repeat (first | refine blk_drewN ?_ _ | refine blk_drew ?_ | refine blk_alloc ?_ _)); refine blk_far ?_ NB362_400.out _; (with_reducible repeat (first | refine blk_drewN ?_ _ | refine blk_drew ?_ | refine blk_alloc ?_ _)); refine blk_far ?_ NB362_400.out _; (with_reducible repeat (first | refine blk_drewN ?_ _ | refine blk_drew ?_ | refine blk_alloc ?_ _)); exact BK362.out⟩, ⟨by (with_reducible repeat (first | refine blk_drewN ?_ _ | refine blk_drew ?_ | refine blk_alloc ?_ _)); refine blk_far ?_ NB380_400.out _; (with_reducible repeat (first | refine blk_drewN ?_ _ | refine blk_drew ?_ | refine blk_alloc ?_ _)); refine blk_far ?_ NB380_400.out _; (with_reducible repeat (first | refine blk_drewN ?_ _ | refine blk_drew ?_ | refine blk_alloc ?_ _)); refine blk_far ?_ NB380_400.out _; (with_reducible repeat (first | refine blk_drewN ?_ _ | refine blk_drew ?_ | refine blk_alloc ?_ _)); refine blk_far ?_ NB380_400.out _; (with_reducible repeat (first | refine blk_drewN ?_ _ | refine blk_drew ?_ | refine blk_alloc ?_ _)); exact BK380.out⟩, ⟨by (with_reducible repeat (first | refine blk_drewN ?_ _ | refine blk_drew ?_ | refine blk_alloc ?_ _)); refine blk_far ?_ NB390_400.out _; (with_reducible repeat (first | refine blk_drewN ?_ _ | refine blk_drew ?_ | refine blk_alloc ?_ _)); refine blk_far ?_ NB390_400.out _; (with_reducible repeat (first | refine blk_drewN ?_ _ | refine blk_drew ?_ | refine blk_alloc ?_ _)); refine blk_far ?_ NB390_400.out _; (with_reducible repeat (first | refine blk_drewN ?_ _ | refine blk_drew ?_ | refine blk_alloc ?_ _)); refine blk_far ?_ NB390_400.out _; (with_reducible repeat (first | refine blk_drewN ?_ _ | refine blk_drew ?_ | refine blk_alloc ?_ _)); exact BK390.out⟩, ⟨by (with_reducible repeat (first | refine blk_drewN ?_ _ | refine blk_drew ?_ | refine blk_alloc ?_ _)); refine blk_put (cs := #[.slice Ao33 t391.length co33, .slice Ao38 t394.length co38, .bool t397, .string (⟨#[]⟩ : ByteArray)]) ?_ 3 _ rfl; (with_reducible repeat (first | refine blk_drewN ?_ _ | refine blk_drew ?_ | refine blk_alloc ?_ _)); refine blk_put (cs := #[.slice Ao33 t391.length co33, .slice Ao38 t394.length co38, .bool false, .string (⟨#[]⟩ : ByteArray)]) ?_ 2 _ rfl; (with_reducible repeat (first | refine blk_drewN ?_ _ | refine blk_drew ?_ | refine blk_alloc ?_ _)); refine blk_put (cs := #[.slice Ao33 t391.length co33, .slice none 0 0, .bool false, .string (⟨#[]⟩ : ByteArray)]) ?_ 1 _ rfl; (with_reducible repeat (first | refine blk_drewN ?_ _ | refine blk_drew ?_ | refine blk_alloc ?_ _)); refine blk_put (cs := #[.slice none 0 0, .slice none 0 0, .bool false, .string (⟨#[]⟩ : ByteArray)]) ?_ 0 _ rfl; (with_reducible repeat (first | refine blk_drewN ?_ _ | refine blk_drew ?_ | refine blk_alloc ?_ _)); exact BK400.out⟩, ⟨by repeat (first | (with_reducible first | exact HB.out | apply below_alloc | apply pw_below_drewN | apply below_drew1 | refine below_set ?_ GE362.out | refine below_set ?_ GE380.out | refine below_set ?_ GE390.out | refine below_set ?_ GE400.out) | exact HB.out)⟩⟩
  ·rw [if_neg c39] at H
   have c39b0 : (t379 == 0) = false := beq_eq_false_iff_ne.mpr c39
   have c39b1 : (t379 != 0) = true := bne_iff_ne.mpr c39
   (first | rw [c39b0] | rw [c39b1] | (simp only [i64_w, i32_w]; rw [c39b0]) | skip)
   have H' := Aside0.mk H
   clear H
   go_wp2
   go_meet
   case rel => exact ⟨_, (true), (by first | rfl | (simp; done) | (simp [*]; done)), H', ⟨by first | omega | exact Nat.le_refl _⟩, ⟨by (with_reducible repeat (first | apply Kd.S_alloc | apply Kd.S_drewN | apply Kd.S_drew)); exact Kd.S_mono (Kd.S_far (p := ⟨gb400, 3, none⟩) (Kd.S_far (p := ⟨gb400, 2, none⟩) (Kd.S_far (p := ⟨gb400, 1, none⟩) (Kd.S_far (p := ⟨gb400, 0, none⟩) (Kd.S_types HO365.out BK400.out (by decide)) (fun _ hk => hk.2) (.slice Ao33 t391.length co33)) (fun _ hk => hk.2) (.slice Ao38 t394.length co38)) (fun _ hk => hk.2) (.bool t397)) (fun _ hk => hk.2) (.string t398)) (fun _ hk => trivial)⟩, ⟨by (with_reducible repeat (first | apply Kd.R_alloc | apply Kd.R_drewN | apply Kd.R_drew)); exact Kd.R_mono (Kd.R_far (p := ⟨gb400, 3, none⟩) (Kd.R_far (p := ⟨gb400, 2, none⟩) (Kd.R_far (p := ⟨gb400, 1, none⟩) (Kd.R_far (p := ⟨gb400, 0, none⟩) (Kd.R_types HO373.out BK400.out (by decide)) (fun _ hk => hk.2) (.slice Ao33 t391.length co33)) (fun _ hk => hk.2) (.slice Ao38 t394.length co38)) (fun _ hk => hk.2) (.bool t397)) (fun _ hk => hk.2) (.string t398)) (fun _ hk => ⟨hk.1.1.1.1.1, ⟨hk.1.1.1.1.2, ⟨hk.1.1.1.2, ⟨hk.1.1.2, hk.1.2⟩⟩⟩⟩)⟩, ⟨by (with_reducible repeat (first | apply Kd.R_alloc | apply Kd.R_drewN | apply Kd.R_drew)); exact Kd.R_mono (Kd.R_far (p := ⟨gb400, 3, none⟩) (Kd.R_far (p := ⟨gb400, 2, none⟩) (Kd.R_far (p := ⟨gb400, 1, none⟩) (Kd.R_far (p := ⟨gb400, 0, none⟩) (Kd.R_types HO376.out BK400.out (by decide)) (fun _ hk => hk.2) (.slice Ao33 t391.length co33)) (fun _ hk => hk.2) (.slice Ao38 t394.length co38)) (fun _ hk => hk.2) (.bool t397)) (fun _ hk => hk.2) (.string t398)) (fun _ hk => ⟨hk.1.1.1.1.1, ⟨hk.1.1.1.1.2, ⟨hk.1.1.1.2, ⟨hk.1.1.2, hk.1.2⟩⟩⟩⟩)⟩, ⟨by (with_reducible repeat (first | apply Kd.R_alloc | apply Kd.R_drewN | apply Kd.R_drew)); exact Kd.R_mono (Kd.R_far (p := ⟨gb400, 3, none⟩) (Kd.R_far (p := ⟨gb400, 2, none⟩) (Kd.R_far (p := ⟨gb400, 1, none⟩) (Kd.R_far (p := ⟨gb400, 0, none⟩) (Kd.R_types HO383.out BK400.out (by decide)) (fun _ hk => hk.2) (.slice Ao33 t391.length co33)) (fun _ hk => hk.2) (.slice Ao38 t394.length co38)) (fun _ hk => hk.2) (.bool t397)) (fun _ hk => hk.2) (.string t398)) (fun _ hk => ⟨hk.1.1.1.1.2, ⟨hk.1.1.1.2, ⟨hk.1.1.1.1.1, ⟨hk.1.1.2, hk.1.2⟩⟩⟩⟩)⟩, ⟨by (with_reducible repeat (first | apply Kd.R_alloc | apply Kd.R_drewN | apply Kd.R_drew)); exact Kd.R_mono (Kd.R_far (p := ⟨gb400, 3, none⟩) (Kd.R_far (p := ⟨gb400, 2, none⟩) (Kd.R_far (p := ⟨gb400, 1, none⟩) (Kd.R_far (p := ⟨gb400, 0, none⟩) (Kd.R_types HO386.out BK400.out (by decide)) (fun _ hk => hk.2) (.slice Ao33 t391.length co33)) (fun _ hk => hk.2) (.slice Ao38 t394.length co38)) (fun _ hk => hk.2) (.bool t397)) (fun _ hk => hk.2) (.string t398)) (fun _ hk => ⟨hk.1.1.1.1.2, ⟨hk.1.1.1.2, ⟨hk.1.1.1.1.1, ⟨hk.1.1.2, hk.1.2⟩⟩⟩⟩)⟩, ⟨by (with_reducible repeat (first | apply Kd.R_alloc | apply Kd.R_drewN | apply Kd.R_drew)); exact Kd.R_mono (Kd.R_far (p := ⟨gb400, 3, none⟩) (Kd.R_far (p := ⟨gb400, 2, none⟩) (Kd.R_far (p := ⟨gb400, 1, none⟩) (Kd.R_far (p := ⟨gb400, 0, none⟩) (Kd.R_types HO393.out BK400.out (by decide)) (fun _ hk => hk.2) (.slice Ao33 t391.length co33)) (fun _ hk => hk.2) (.slice Ao38 t394.length co38)) (fun _ hk => hk.2) (.bool t397)) (fun _ hk => hk.2) (.string t398)) (fun _ hk => ⟨hk.1.1.1.1.2, ⟨hk.1.1.1.2, ⟨hk.1.1.2, ⟨hk.1.2, hk.1.1.1.1.1⟩⟩⟩⟩)⟩, ⟨by (with_reducible repeat (first | apply Kd.R_alloc | apply Kd.R_drewN | apply Kd.R_drew)); exact Kd.R_mono (Kd.R_far (p := ⟨gb400, 3, none⟩) (Kd.R_far (p := ⟨gb400, 2, none⟩) (Kd.R_far (p := ⟨gb400, 1, none⟩) (Kd.R_far (p := ⟨gb400, 0, none⟩) (Kd.R_types HO396.out BK400.out (by decide)) (fun _ hk => hk.2) (.slice Ao33 t391.length co33)) (fun _ hk => hk.2) (.slice Ao38 t394.length co38)) (fun _ hk => hk.2) (.bool t397)) (fun _ hk => hk.2) (.string t398)) (fun _ hk => ⟨hk.1.1.1.1.2, ⟨hk.1.1.1.2, ⟨hk.1.1.2, ⟨hk.1.2, hk.1.1.1.1.1⟩⟩⟩⟩)⟩, ⟨by (with_reducible repeat (first | refine blk_drewN ?_ _ | refine blk_drew ?_ | refine blk_alloc ?_ _)); refine blk_far ?_ NB362_400.out _; (with_reducible repeat (first | refine blk_drewN ?_ _ | refine blk_drew ?_ | refine blk_alloc ?_ _)); refine blk_far ?_ NB362_400.out _; (with_reducible repeat (first | refine blk_drewN ?_ _ | refine blk_drew ?_ | refine blk_alloc ?_ _)); refine blk_far ?_ NB362_400.out _; (with_reducible repeat (first | refine blk_drewN ?_ _ | refine blk_drew ?_ | refine blk_alloc ?_ _)); refine blk_far ?_ NB362_400.out _; (with_reducible repeat (first | refine blk_drewN ?_ _ | refine blk_drew ?_ | refine blk_alloc ?_ _)); exact BK362.out⟩, ⟨by (with_reducible repeat (first | refine blk_drewN ?_ _ | refine blk_drew ?_ | refine blk_alloc ?_ _)); refine blk_far ?_ NB380_400.out _; (with_reducible repeat (first | refine blk_drewN ?_ _ | refine blk_drew ?_ | refine blk_alloc ?_ _)); refine blk_far ?_ NB380_400.out _; (with_reducible repeat (first | refine blk_drewN ?_ _ | refine blk_drew ?_ | refine blk_alloc ?_ _)); refine blk_far ?_ NB380_400.out _; (with_reducible repeat (first | refine blk_drewN ?_ _ | refine blk_drew ?_ | refine blk_alloc ?_ _)); refine blk_far ?_ NB380_400.out _; (with_reducible repeat (first | refine blk_drewN ?_ _ | refine blk_drew ?_ | refine blk_alloc ?_ _)); exact BK380.out⟩, ⟨by (with_reducible repeat (first | refine blk_drewN ?_ _ | refine blk_drew ?_ | refine blk_alloc ?_ _)); refine blk_far ?_ NB390_400.out _; (with_reducible repeat (first | refine blk_drewN ?_ _ | refine blk_drew ?_ | refine blk_alloc ?_ _)); refine blk_far ?_ NB390_400.out _; (with_reducible repeat (first | refine blk_drewN ?_ _ | refine blk_drew ?_ | refine blk_alloc ?_ _)); refine blk_far ?_ NB390_400.out _; (with_reducible repeat (first | refine blk_drewN ?_ _ | refine blk_drew ?_ | refine blk_alloc ?_ _)); refine blk_far ?_ NB390_400.out _; (with_reducible repeat (first | refine blk_drewN ?_ _ | refine blk_drew ?_ | refine blk_alloc ?_ _)); exact BK390.out⟩, ⟨by (with_reducible repeat (first | refine blk_drewN ?_ _ | refine blk_drew ?_ | refine blk_alloc ?_ _)); refine blk_put (cs := #[.slice Ao33 t391.length co33, .slice Ao38 t394.length co38, .bool t397, .string (⟨#[]⟩ : ByteArray)]) ?_ 3 _ rfl; (with_reducible repeat (first | refine blk_drewN ?_ _ | refine blk_drew ?_ | refine blk_alloc ?_ _)); refine blk_put (cs := #[.slice Ao33 t391.length co33, .slice Ao38 t394.length co38, .bool false, .string (⟨#[]⟩ : ByteArray)]) ?_ 2 _ rfl; (with_reducible repeat (first | refine blk_drewN ?_ _ | refine blk_drew ?_ | refine blk_alloc ?_ _)); refine blk_put (cs := #[.slice Ao33 t391.length co33, .slice none 0 0, .bool false, .string (⟨#[]⟩ : ByteArray)]) ?_ 1 _ rfl; (with_reducible repeat (first | refine blk_drewN ?_ _ | refine blk_drew ?_ | refine blk_alloc ?_ _)); refine blk_put (cs := #[.slice none 0 0, .slice none 0 0, .bool false, .string (⟨#[]⟩ : ByteArray)]) ?_ 0 _ rfl; (with_reducible repeat (first | refine blk_drewN ?_ _ | refine blk_drew ?_ | refine blk_alloc ?_ _)); exact BK400.out⟩, ⟨by repeat (first | (with_reducible first | exact HB.out | apply below_alloc | apply pw_below_drewN | apply below_drew1 | refine below_set ?_ GE362.out | refine below_set ?_ GE380.out | refine below_set ?_ GE390.out | refine below_set ?_ GE400.out) | exact HB.out)⟩⟩
 case rest =>
  clear HC10
  try clear c1
  try clear c2
  try clear p2
  try clear c3
  try clear c4
  try clear p6
  try clear c7
  try clear c10
  try clear c11
  try clear c19
  try clear c26
  try clear c27
  try clear c34
  try clear c35
  try clear c36
  try clear c39
  try clear c39b0
  try clear c39b1
  try clear c40
  try clear c40b0
  try clear c40b1
  try clear hcz12_0
  try clear hcz12_1
  try clear hcz12_2
  try clear hcz12_3
  try clear hcz12_4
  try clear hcz12_5
  try clear hcz15_0
  try clear hcz15_1
  try clear hcz15_2
  try clear hcz15_3
  try clear hcz15_4
  try clear hcz15_5
  try clear hcz20_0
  try clear hcz20_1
  try clear hcz20_2
  try clear hcz20_3
  try clear hcz22_0
  try clear hcz22_1
  try clear hcz22_2
  try clear hcz22_3
  try clear hcz22_4
  try clear hcz22_5
  try clear hcz28_0
  try clear hcz28_1
  try clear hcz28_2
  try clear hcz28_3
  try clear hcz30_0
  try clear hcz30_1
  try clear hcz30_2
  try clear hcz30_3
  try clear hcz30_4
  try clear hcz30_5
  try clear hcz37_0
  try clear hcz37_1
  try clear hcz37_2
  try clear hcz37_3
  try clear hfz12_0
  try clear hfz12_1
  try clear hfz12_2
  try clear hfz12_3
  try clear hfz12_4
  try clear hfz12_5
  try clear hfz15_0
  try clear hfz15_1
  try clear hfz15_2
  try clear hfz15_3
  try clear hfz15_4
  try clear hfz15_5
  try clear hfz20_0
  try clear hfz20_1
  try clear hfz20_2
  try clear hfz20_3
  try clear hfz22_0
  try clear hfz22_1
  try clear hfz22_2
  try clear hfz22_3
  try clear hfz22_4
  try clear hfz22_5
  try clear hfz28_0
  try clear hfz28_1
  try clear hfz28_2
  try clear hfz28_3
  try clear hfz30_0
  try clear hfz30_1
  try clear hfz30_2
  try clear hfz30_3
  try clear hfz30_4
  try clear hfz30_5
  try clear hfz37_0
  try clear hfz37_1
  try clear hfz37_2
  try clear hfz37_3
  obtain ⟨kq, x69_9, rfl, HA, HJ9, HO_363000, HO_381000, HO_381001, HO_391000, HO_391001, HO_401000, HO_401001, BK362, BK380, BK390, BK400, HB⟩ := hcut
  cases kq with
  | zero => exact absurd HA.out (by simp [cellarerlaw07_PagerSizes.j0])
  | succ kj9 =>
   have H := HA.out
   clear HA
   simp only [cellarerlaw07_PagerSizes.j0] at H
   by_cases c41 : x69_9 = true
   ·subst c41
    have H1 : (if t379 = t389 then (if t389 = t399 then ((cellarerlaw07_awake.f).bind fun t401 => (some t401)) else (some false)) else (some false)) = some r := by rw [if_pos rfl] at H; exact H
    clear H
    have H := H1
    clear H1
    by_cases c42 : t379 = t389
    ·rw [if_pos c42] at H
     have c42b0 : (t379 == t389) = true := beq_iff_eq.mpr c42
     have c42b1 : (t379 != t389) = false := bne_eq_false_iff_eq.mpr c42
     clear c42
     by_cases c43 : t389 = t399
     ·rw [if_pos c43] at H
      have c43b0 : (t389 == t399) = true := beq_iff_eq.mpr c43
      have c43b1 : (t389 != t399) = false := bne_eq_false_iff_eq.mpr c43
      clear c43
      replace H := Option.bind_eq_some_iff.mp H
      obtain ⟨t401, A440, H⟩ := H
      replace H : (some t401) = some r := H
      have A44 := Aside0.mk A440
      clear A440
      obtain rfl := Option.some.inj H
      go_wp2_with (first | (go_at_call 14; (with_reducible refine (cellarerlaw07_awake.calls  t401 _ A44.out).mono ?_); rintro e w45 ⟨rfl, hb⟩; have n0_ := Aside0.mk (Kd.S_below (by (with_reducible repeat (first | apply Kd.S_alloc | apply Kd.S_drewN | apply Kd.S_drew)); exact HO_363000.out) hb); have n1_ := Aside0.mk (Kd.R_below (by (with_reducible repeat (first | apply Kd.R_alloc | apply Kd.R_drewN | apply Kd.R_drew)); exact HO_381000.out) hb); have n2_ := Aside0.mk (Kd.R_below (by (with_reducible repeat (first | apply Kd.R_alloc | apply Kd.R_drewN | apply Kd.R_drew)); exact HO_381001.out) hb); have n3_ := Aside0.mk (Kd.R_below (by (with_reducible repeat (first | apply Kd.R_alloc | apply Kd.R_drewN | apply Kd.R_drew)); exact HO_391000.out) hb); have n4_ := Aside0.mk (Kd.R_below (by (with_reducible repeat (first | apply Kd.R_alloc | apply Kd.R_drewN | apply Kd.R_drew)); exact HO_391001.out) hb); have n5_ := Aside0.mk (Kd.R_below (by (with_reducible repeat (first | apply Kd.R_alloc | apply Kd.R_drewN | apply Kd.R_drew)); exact HO_401000.out) hb); have n6_ := Aside0.mk (Kd.R_below (by (with_reducible repeat (first | apply Kd.R_alloc | apply Kd.R_drewN | apply Kd.R_drew)); exact HO_401001.out) hb); have n7_ := Aside0.mk (blk_below (g := gb362) (o := .cells #[.slice Ao14 t363.length co14, .string t366, .string t367, .string t368, .int .u64 t369, .int .i64 t370] 25 (0, 0)) (by (with_reducible repeat (first | refine blk_drewN ?_ _ | refine blk_drew ?_ | refine blk_alloc ?_ _)); exact BK362.out) hb); have n8_ := Aside0.mk (blk_below (g := gb380) (o := .cells #[.slice Ao18 t371.length co18, .slice Ao21 t374.length co21, .bool t377, .string t378] 29 (0, 0)) (by (with_reducible repeat (first | refine blk_drewN ?_ _ | refine blk_drew ?_ | refine blk_alloc ?_ _)); exact BK380.out) hb); have n9_ := Aside0.mk (blk_below (g := gb390) (o := .cells #[.slice Ao25 t381.length co25, .slice Ao29 t384.length co29, .bool t387, .string t388] 29 (0, 0)) (by (with_reducible repeat (first | refine blk_drewN ?_ _ | refine blk_drew ?_ | refine blk_alloc ?_ _)); exact BK390.out) hb); have n10_ := Aside0.mk (blk_below (g := gb400) (o := .cells #[.slice Ao33 t391.length co33, .slice Ao38 t394.length co38, .bool t397, .string t398] 29 (0, 0)) (by (with_reducible repeat (first | refine blk_drewN ?_ _ | refine blk_drew ?_ | refine blk_alloc ?_ _)); exact BK400.out) hb); have n11_ := Aside0.mk (below_step (by repeat (first | (with_reducible first | exact HB.out | apply below_alloc | apply pw_below_drewN | apply below_drew1 | refine below_set ?_ GE362.out | refine below_set ?_ GE380.out | refine below_set ?_ GE390.out | refine below_set ?_ GE400.out) | exact HB.out)) hb); clear HO_363000; clear HO_381000; clear HO_381001; clear HO_391000; clear HO_391001; clear HO_401000; clear HO_401001; clear BK362; clear BK380; clear BK390; clear BK400; clear HB; have HO_363000 := n0_; have HO_381000 := n1_; have HO_381001 := n2_; have HO_391000 := n3_; have HO_391001 := n4_; have HO_401000 := n5_; have HO_401001 := n6_; have BK362 := n7_; have BK380 := n8_; have BK390 := n9_; have BK400 := n10_; have HB := n11_; clear n0_ n1_ n2_ n3_ n4_ n5_ n6_ n7_ n8_ n9_ n10_ n11_; (try clear hb); (try clear hb2); (try clear hk); (try clear hi)))
      go_ret
      exact ⟨by first | rfl | (simp [errW_none, errW_some] <;> rfl) | (simp only [← hji5, ← hji7]; first | rfl | (simp [errW_none, errW_some] <;> rfl)) | (simp [*, errW_none, errW_some] <;> rfl), by repeat (first | (with_reducible first | exact HB.out | apply below_alloc | apply pw_below_drewN | apply below_drew1 | refine below_set ?_ GE362.out | refine below_set ?_ GE380.out | refine below_set ?_ GE390.out | refine below_set ?_ GE400.out) | exact HB.out)⟩
     ·rw [if_neg c43] at H
      have c43b0 : (t389 == t399) = false := beq_eq_false_iff_ne.mpr c43
      have c43b1 : (t389 != t399) = true := bne_iff_ne.mpr c43
      obtain rfl := Option.some.inj H
      exact absurd HTR_.out (by decide)
    ·rw [if_neg c42] at H
     have c42b0 : (t379 == t389) = false := beq_eq_false_iff_ne.mpr c42
     have c42b1 : (t379 != t389) = true := bne_iff_ne.mpr c42
     obtain rfl := Option.some.inj H
     exact absurd HTR_.out (by decide)
   ·replace c41 := Bool.eq_false_iff.mpr c41
    subst c41
    have H1 : (if (t371.length : Int) > (t381.length : Int) then (cellarerlaw07_PagerSizes.j1 kj9 true t371 t374 t377 t378 t381 t384 t387 t388 t391 t394 t397 t398) else (if (t374.length : Int) > (t384.length : Int) then (cellarerlaw07_PagerSizes.j1 kj9 true t371 t374 t377 t378 t381 t384 t387 t388 t391 t394 t397 t398) else (if t387 = true then (cellarerlaw07_PagerSizes.j1 kj9 (!t377) t371 t374 t377 t378 t381 t384 t387 t388 t391 t394 t397 t398) else (cellarerlaw07_PagerSizes.j1 kj9 false t371 t374 t377 t378 t381 t384 t387 t388 t391 t394 t397 t398)))) = some r := by rw [if_neg (show ¬ (false = true) by decide)] at H; exact H
    clear H
    have H := H1
    clear H1
    have HC46 := Aside0.mk H
    clear H
    go_upto_region 7 with (fail)
    go_cut [105] (fun v105 wc => ∃ (kq : Nat) (x105_45 : Bool), v105 = .bool x105_45 ∧ Aside0 (cellarerlaw07_PagerSizes.j1 kq x105_45 t371 t374 t377 t378 t381 t384 t387 t388 t391 t394 t397 t398 = some r) ∧ Aside0 (kq ≤ kj9) ∧ Aside0 (Kd.S k50 50 wc w.heap.size (fun _ => True) (.slice Ao14 t363.length co14) t363) ∧ Aside0 (Kd.R Kd.string 9 wc w.heap.size (fun k_ => some k_ ≠ ((.slice Ao21 t374.length co21) : Value).ownBlock ∧ some k_ ≠ ((.slice Ao25 t381.length co25) : Value).ownBlock ∧ some k_ ≠ ((.slice Ao29 t384.length co29) : Value).ownBlock ∧ some k_ ≠ ((.slice Ao33 t391.length co33) : Value).ownBlock ∧ some k_ ≠ ((.slice Ao38 t394.length co38) : Value).ownBlock) (.slice Ao18 t371.length co18) t371) ∧ Aside0 (Kd.R Kd.string 9 wc w.heap.size (fun k_ => some k_ ≠ ((.slice Ao18 t371.length co18) : Value).ownBlock ∧ some k_ ≠ ((.slice Ao25 t381.length co25) : Value).ownBlock ∧ some k_ ≠ ((.slice Ao29 t384.length co29) : Value).ownBlock ∧ some k_ ≠ ((.slice Ao33 t391.length co33) : Value).ownBlock ∧ some k_ ≠ ((.slice Ao38 t394.length co38) : Value).ownBlock) (.slice Ao21 t374.length co21) t374) ∧ Aside0 (Kd.R Kd.string 9 wc w.heap.size (fun k_ => some k_ ≠ ((.slice Ao18 t371.length co18) : Value).ownBlock ∧ some k_ ≠ ((.slice Ao21 t374.length co21) : Value).ownBlock ∧ some k_ ≠ ((.slice Ao29 t384.length co29) : Value).ownBlock ∧ some k_ ≠ ((.slice Ao33 t391.length co33) : Value).ownBlock ∧ some k_ ≠ ((.slice Ao38 t394.length co38) : Value).ownBlock) (.slice Ao25 t381.length co25) t381) ∧ Aside0 (Kd.R Kd.string 9 wc w.heap.size (fun k_ => some k_ ≠ ((.slice Ao18 t371.length co18) : Value).ownBlock ∧ some k_ ≠ ((.slice Ao21 t374.length co21) : Value).ownBlock ∧ some k_ ≠ ((.slice Ao25 t381.length co25) : Value).ownBlock ∧ some k_ ≠ ((.slice Ao33 t391.length co33) : Value).ownBlock ∧ some k_ ≠ ((.slice Ao38 t394.length co38) : Value).ownBlock) (.slice Ao29 t384.length co29) t384) ∧ Aside0 (Kd.R Kd.string 9 wc w.heap.size (fun k_ => some k_ ≠ ((.slice Ao18 t371.length co18) : Value).ownBlock ∧ some k_ ≠ ((.slice Ao21 t374.length co21) : Value).ownBlock ∧ some k_ ≠ ((.slice Ao25 t381.length co25) : Value).ownBlock ∧ some k_ ≠ ((.slice Ao29 t384.length co29) : Value).ownBlock ∧ some k_ ≠ ((.slice Ao38 t394.length co38) : Value).ownBlock) (.slice Ao33 t391.length co33) t391) ∧ Aside0 (Kd.R Kd.string 9 wc w.heap.size (fun k_ => some k_ ≠ ((.slice Ao18 t371.length co18) : Value).ownBlock ∧ some k_ ≠ ((.slice Ao21 t374.length co21) : Value).ownBlock ∧ some k_ ≠ ((.slice Ao25 t381.length co25) : Value).ownBlock ∧ some k_ ≠ ((.slice Ao29 t384.length co29) : Value).ownBlock ∧ some k_ ≠ ((.slice Ao33 t391.length co33) : Value).ownBlock) (.slice Ao38 t394.length co38) t394) ∧ Aside0 (wc.heap[gb362]? = some (.cells #[(.slice Ao14 t363.length co14), .string t366, .string t367, .string t368, .int .u64 t369, .int .i64 t370] 25 (0, 0))) ∧ Aside0 (wc.heap[gb380]? = some (.cells #[(.slice Ao18 t371.length co18), (.slice Ao21 t374.length co21), .bool t377, .string t378] 29 (0, 0))) ∧ Aside0 (wc.heap[gb390]? = some (.cells #[(.slice Ao25 t381.length co25), (.slice Ao29 t384.length co29), .bool t387, .string t388] 29 (0, 0))) ∧ Aside0 (wc.heap[gb400]? = some (.cells #[(.slice Ao33 t391.length co33), (.slice Ao38 t394.length co38), .bool t397, .string t398] 29 (0, 0))) ∧ Aside0 (Below w.heap.size w wc))
    case first =>
     have H := HC46.out
     clear HC46
     by_cases c47 : (t371.length : Int) > (t381.length : Int)
     ·rw [if_pos c47] at H
      have c47b0 : decide ((t381.length : Int) < (t371.length : Int)) = true := decide_eq_true c47
      have c47b1 : decide (t381.length < t371.length) = true := decide_eq_true (Int.ofNat_lt.mp c47)
      clear c47
      (first | rw [c47b0] | rw [c47b1] | (simp only [i64_w, i32_w]; rw [c47b0]) | skip)
      have H' := Aside0.mk H
      clear H
      have hnb48 := NB380_362.out
      have hnc48 := NB362_380.out
      have hnb49 := NB380_390.out
      have hnc49 := NB390_380.out
      have hnb50 := NB380_400.out
      have hnc50 := NB400_380.out
      have hcz51_0 : wc.cell? ⟨gb380, 0, none⟩ = some (.slice Ao18 t371.length co18) := (blk_cell BK380.out 0).trans rfl
      have hcz51_1 : wc.cell? ⟨gb380, 1, none⟩ = some (.slice Ao21 t374.length co21) := (blk_cell BK380.out 1).trans rfl
      have hcz51_2 : wc.cell? ⟨gb380, 2, none⟩ = some (.bool t377) := (blk_cell BK380.out 2).trans rfl
      have hcz51_3 : wc.cell? ⟨gb380, 3, none⟩ = some (.string t378) := (blk_cell BK380.out 3).trans rfl
      have hfz51_0 := blk_frozen BK380.out 0
      have hfz51_1 := blk_frozen BK380.out 1
      have hfz51_2 := blk_frozen BK380.out 2
      have hfz51_3 := blk_frozen BK380.out 3
      have hnb52 := NB390_362.out
      have hnc52 := NB362_390.out
      have hnb53 := NB390_400.out
      have hnc53 := NB400_390.out
      have hcz54_0 : wc.cell? ⟨gb390, 0, none⟩ = some (.slice Ao25 t381.length co25) := (blk_cell BK390.out 0).trans rfl
      have hcz54_1 : wc.cell? ⟨gb390, 1, none⟩ = some (.slice Ao29 t384.length co29) := (blk_cell BK390.out 1).trans rfl
      have hcz54_2 : wc.cell? ⟨gb390, 2, none⟩ = some (.bool t387) := (blk_cell BK390.out 2).trans rfl
      have hcz54_3 : wc.cell? ⟨gb390, 3, none⟩ = some (.string t388) := (blk_cell BK390.out 3).trans rfl
      have hfz54_0 := blk_frozen BK390.out 0
      have hfz54_1 := blk_frozen BK390.out 1
      have hfz54_2 := blk_frozen BK390.out 2
      have hfz54_3 := blk_frozen BK390.out 3
      go_wp2
      go_meet
      case rel => exact ⟨_, (true), (by first | rfl | (simp; done) | (simp [*]; done)), H', ⟨by have := HJ9.out; first | omega | exact Nat.le_refl _⟩, ⟨by (with_reducible repeat (first | apply Kd.S_alloc | apply Kd.S_drewN | apply Kd.S_drew)); exact HO_363000.out⟩, ⟨by (with_reducible repeat (first | apply Kd.R_alloc | apply Kd.R_drewN | apply Kd.R_drew)); exact HO_381000.out⟩, ⟨by (with_reducible repeat (first | apply Kd.R_alloc | apply Kd.R_drewN | apply Kd.R_drew)); exact HO_381001.out⟩, ⟨by (with_reducible repeat (first | apply Kd.R_alloc | apply Kd.R_drewN | apply Kd.R_drew)); exact HO_391000.out⟩, ⟨by (with_reducible repeat (first | apply Kd.R_alloc | apply Kd.R_drewN | apply Kd.R_drew)); exact HO_391001.out⟩, ⟨by (with_reducible repeat (first | apply Kd.R_alloc | apply Kd.R_drewN | apply Kd.R_drew)); exact HO_401000.out⟩, ⟨by (with_reducible repeat (first | apply Kd.R_alloc | apply Kd.R_drewN | apply Kd.R_drew)); exact HO_401001.out⟩, ⟨by (with_reducible repeat (first | refine blk_drewN ?_ _ | refine blk_drew ?_ | refine blk_alloc ?_ _)); exact BK362.out⟩, ⟨by (with_reducible repeat (first | refine blk_drewN ?_ _ | refine blk_drew ?_ | refine blk_alloc ?_ _)); exact BK380.out⟩, ⟨by (with_reducible repeat (first | refine blk_drewN ?_ _ | refine blk_drew ?_ | refine blk_alloc ?_ _)); exact BK390.out⟩, ⟨by (with_reducible repeat (first | refine blk_drewN ?_ _ | refine blk_drew ?_ | refine blk_alloc ?_ _)); exact BK400.out⟩, ⟨by repeat (first | (with_reducible first | exact HB.out | apply below_alloc | apply pw_below_drewN | apply below_drew1 | refine below_set ?_ GE362.out | refine below_set ?_ GE380.out | refine below_set ?_ GE390.out | refine below_set ?_ GE400.out) | exact HB.out)⟩⟩
     ·rw [if_neg c47] at H
      have c47b0 : decide ((t381.length : Int) < (t371.length : Int)) = false := decide_eq_false c47
      have c47b1 : decide (t381.length < t371.length) = false := decide_eq_false (fun h => c47 (Int.ofNat_lt.mpr h))
      clear c47
      (first | rw [c47b0] | rw [c47b1] | (simp only [i64_w, i32_w]; rw [c47b0]) | skip)
      by_cases c55 : (t374.length : Int) > (t384.length : Int)
      ·rw [if_pos c55] at H
       have c55b0 : decide ((t384.length : Int) < (t374.length : Int)) = true := decide_eq_true c55
       have c55b1 : decide (t384.length < t374.length) = true := decide_eq_true (Int.ofNat_lt.mp c55)
       clear c55
       have H' := Aside0.mk H
       clear H
       have hnb56 := NB380_362.out
       have hnc56 := NB362_380.out
       have hnb57 := NB380_390.out
       have hnc57 := NB390_380.out
       have hnb58 := NB380_400.out
       have hnc58 := NB400_380.out
       have hcz59_0 : wc.cell? ⟨gb380, 0, none⟩ = some (.slice Ao18 t371.length co18) := (blk_cell BK380.out 0).trans rfl
       have hcz59_1 : wc.cell? ⟨gb380, 1, none⟩ = some (.slice Ao21 t374.length co21) := (blk_cell BK380.out 1).trans rfl
       have hcz59_2 : wc.cell? ⟨gb380, 2, none⟩ = some (.bool t377) := (blk_cell BK380.out 2).trans rfl
       have hcz59_3 : wc.cell? ⟨gb380, 3, none⟩ = some (.string t378) := (blk_cell BK380.out 3).trans rfl
       have hfz59_0 := blk_frozen BK380.out 0
       have hfz59_1 := blk_frozen BK380.out 1
       have hfz59_2 := blk_frozen BK380.out 2
       have hfz59_3 := blk_frozen BK380.out 3
       have hnb60 := NB390_362.out
       have hnc60 := NB362_390.out
       have hnb61 := NB390_400.out
       have hnc61 := NB400_390.out
       have hcz62_0 : wc.cell? ⟨gb390, 0, none⟩ = some (.slice Ao25 t381.length co25) := (blk_cell BK390.out 0).trans rfl
       have hcz62_1 : wc.cell? ⟨gb390, 1, none⟩ = some (.slice Ao29 t384.length co29) := (blk_cell BK390.out 1).trans rfl
       have hcz62_2 : wc.cell? ⟨gb390, 2, none⟩ = some (.bool t387) := (blk_cell BK390.out 2).trans rfl
       have hcz62_3 : wc.cell? ⟨gb390, 3, none⟩ = some (.string t388) := (blk_cell BK390.out 3).trans rfl
       have hfz62_0 := blk_frozen BK390.out 0
       have hfz62_1 := blk_frozen BK390.out 1
       have hfz62_2 := blk_frozen BK390.out 2
       have hfz62_3 := blk_frozen BK390.out 3
       go_wp2
       go_meet
       case rel => exact ⟨_, (true), (by first | rfl | (simp; done) | (simp [*]; done)), H', ⟨by have := HJ9.out; first | omega | exact Nat.le_refl _⟩, ⟨by (with_reducible repeat (first | apply Kd.S_alloc | apply Kd.S_drewN | apply Kd.S_drew)); exact HO_363000.out⟩, ⟨by (with_reducible repeat (first | apply Kd.R_alloc | apply Kd.R_drewN | apply Kd.R_drew)); exact HO_381000.out⟩, ⟨by (with_reducible repeat (first | apply Kd.R_alloc | apply Kd.R_drewN | apply Kd.R_drew)); exact HO_381001.out⟩, ⟨by (with_reducible repeat (first | apply Kd.R_alloc | apply Kd.R_drewN | apply Kd.R_drew)); exact HO_391000.out⟩, ⟨by (with_reducible repeat (first | apply Kd.R_alloc | apply Kd.R_drewN | apply Kd.R_drew)); exact HO_391001.out⟩, ⟨by (with_reducible repeat (first | apply Kd.R_alloc | apply Kd.R_drewN | apply Kd.R_drew)); exact HO_401000.out⟩, ⟨by (with_reducible repeat (first | apply Kd.R_alloc | apply Kd.R_drewN | apply Kd.R_drew)); exact HO_401001.out⟩, ⟨by (with_reducible repeat (first | refine blk_drewN ?_ _ | refine blk_drew ?_ | refine blk_alloc ?_ _)); exact BK362.out⟩, ⟨by (with_reducible repeat (first | refine blk_drewN ?_ _ | refine blk_drew ?_ | refine blk_alloc ?_ _)); exact BK380.out⟩, ⟨by (with_reducible repeat (first | refine blk_drewN ?_ _ | refine blk_drew ?_ | refine blk_alloc ?_ _)); exact BK390.out⟩, ⟨by (with_reducible repeat (first | refine blk_drewN ?_ _ | refine blk_drew ?_ | refine blk_alloc ?_ _)); exact BK400.out⟩, ⟨by repeat (first | (with_reducible first | exact HB.out | apply below_alloc | apply pw_below_drewN | apply below_drew1 | refine below_set ?_ GE362.out | refine below_set ?_ GE380.out | refine below_set ?_ GE390.out | refine below_set ?_ GE400.out) | exact HB.out)⟩⟩
      ·rw [if_neg c55] at H
       have c55b0 : decide ((t384.length : Int) < (t374.length : Int)) = false := decide_eq_false c55
       have c55b1 : decide (t384.length < t374.length) = false := decide_eq_false (fun h => c55 (Int.ofNat_lt.mpr h))
       clear c55
       by_cases c63 : t387 = true
       ·subst c63
        have H1 : (cellarerlaw07_PagerSizes.j1 kj9 (!t377) t371 t374 t377 t378 t381 t384 true t388 t391 t394 t397 t398) = some r := by rw [if_pos rfl] at H; exact H
        clear H
        have H := H1
        clear H1
        have H' := Aside0.mk H
        clear H
        have hnb64 := NB380_362.out
        have hnc64 := NB362_380.out
        have hnb65 := NB380_390.out
        have hnc65 := NB390_380.out
        have hnb66 := NB380_400.out
        have hnc66 := NB400_380.out
        have hcz67_0 : wc.cell? ⟨gb380, 0, none⟩ = some (.slice Ao18 t371.length co18) := (blk_cell BK380.out 0).trans rfl
        have hcz67_1 : wc.cell? ⟨gb380, 1, none⟩ = some (.slice Ao21 t374.length co21) := (blk_cell BK380.out 1).trans rfl
        have hcz67_2 : wc.cell? ⟨gb380, 2, none⟩ = some (.bool t377) := (blk_cell BK380.out 2).trans rfl
        have hcz67_3 : wc.cell? ⟨gb380, 3, none⟩ = some (.string t378) := (blk_cell BK380.out 3).trans rfl
        have hfz67_0 := blk_frozen BK380.out 0
        have hfz67_1 := blk_frozen BK380.out 1
        have hfz67_2 := blk_frozen BK380.out 2
        have hfz67_3 := blk_frozen BK380.out 3
        have hnb68 := NB390_362.out
        have hnc68 := NB362_390.out
        have hnb69 := NB390_400.out
        have hnc69 := NB400_390.out
        have hcz70_0 : wc.cell? ⟨gb390, 0, none⟩ = some (.slice Ao25 t381.length co25) := (blk_cell BK390.out 0).trans rfl
        have hcz70_1 : wc.cell? ⟨gb390, 1, none⟩ = some (.slice Ao29 t384.length co29) := (blk_cell BK390.out 1).trans rfl
        have hcz70_2 : wc.cell? ⟨gb390, 2, none⟩ = some (.bool true) := (blk_cell BK390.out 2).trans rfl
        have hcz70_3 : wc.cell? ⟨gb390, 3, none⟩ = some (.string t388) := (blk_cell BK390.out 3).trans rfl
        have hfz70_0 := blk_frozen BK390.out 0
        have hfz70_1 := blk_frozen BK390.out 1
        have hfz70_2 := blk_frozen BK390.out 2
        have hfz70_3 := blk_frozen BK390.out 3
        go_wp2
        go_meet
        case rel => exact ⟨_, (!t377), (by first | rfl | (simp; done) | (simp [*]; done)), H', ⟨by have := HJ9.out; first | omega | exact Nat.le_refl _⟩, ⟨by (with_reducible repeat (first | apply Kd.S_alloc | apply Kd.S_drewN | apply Kd.S_drew)); exact HO_363000.out⟩, ⟨by (with_reducible repeat (first | apply Kd.R_alloc | apply Kd.R_drewN | apply Kd.R_drew)); exact HO_381000.out⟩, ⟨by (with_reducible repeat (first | apply Kd.R_alloc | apply Kd.R_drewN | apply Kd.R_drew)); exact HO_381001.out⟩, ⟨by (with_reducible repeat (first | apply Kd.R_alloc | apply Kd.R_drewN | apply Kd.R_drew)); exact HO_391000.out⟩, ⟨by (with_reducible repeat (first | apply Kd.R_alloc | apply Kd.R_drewN | apply Kd.R_drew)); exact HO_391001.out⟩, ⟨by (with_reducible repeat (first | apply Kd.R_alloc | apply Kd.R_drewN | apply Kd.R_drew)); exact HO_401000.out⟩, ⟨by (with_reducible repeat (first | apply Kd.R_alloc | apply Kd.R_drewN | apply Kd.R_drew)); exact HO_401001.out⟩, ⟨by (with_reducible repeat (first | refine blk_drewN ?_ _ | refine blk_drew ?_ | refine blk_alloc ?_ _)); exact BK362.out⟩, ⟨by (with_reducible repeat (first | refine blk_drewN ?_ _ | refine blk_drew ?_ | refine blk_alloc ?_ _)); exact BK380.out⟩, ⟨by (with_reducible repeat (first | refine blk_drewN ?_ _ | refine blk_drew ?_ | refine blk_alloc ?_ _)); exact BK390.out⟩, ⟨by (with_reducible repeat (first | refine blk_drewN ?_ _ | refine blk_drew ?_ | refine blk_alloc ?_ _)); exact BK400.out⟩, ⟨by repeat (first | (with_reducible first | exact HB.out | apply below_alloc | apply pw_below_drewN | apply below_drew1 | refine below_set ?_ GE362.out | refine below_set ?_ GE380.out | refine below_set ?_ GE390.out | refine below_set ?_ GE400.out) | exact HB.out)⟩⟩
       ·replace c63 := Bool.eq_false_iff.mpr c63
        subst c63
        have H1 : (cellarerlaw07_PagerSizes.j1 kj9 false t371 t374 t377 t378 t381 t384 false t388 t391 t394 t397 t398) = some r := by rw [if_neg (show ¬ (false = true) by decide)] at H; exact H
        clear H
        have H := H1
        clear H1
        have H' := Aside0.mk H
        clear H
        have hnb71 := NB380_362.out
        have hnc71 := NB362_380.out
        have hnb72 := NB380_390.out
        have hnc72 := NB390_380.out
        have hnb73 := NB380_400.out
        have hnc73 := NB400_380.out
        have hcz74_0 : wc.cell? ⟨gb380, 0, none⟩ = some (.slice Ao18 t371.length co18) := (blk_cell BK380.out 0).trans rfl
        have hcz74_1 : wc.cell? ⟨gb380, 1, none⟩ = some (.slice Ao21 t374.length co21) := (blk_cell BK380.out 1).trans rfl
        have hcz74_2 : wc.cell? ⟨gb380, 2, none⟩ = some (.bool t377) := (blk_cell BK380.out 2).trans rfl
        have hcz74_3 : wc.cell? ⟨gb380, 3, none⟩ = some (.string t378) := (blk_cell BK380.out 3).trans rfl
        have hfz74_0 := blk_frozen BK380.out 0
        have hfz74_1 := blk_frozen BK380.out 1
        have hfz74_2 := blk_frozen BK380.out 2
        have hfz74_3 := blk_frozen BK380.out 3
        have hnb75 := NB390_362.out
        have hnc75 := NB362_390.out
        have hnb76 := NB390_400.out
        have hnc76 := NB400_390.out
        have hcz77_0 : wc.cell? ⟨gb390, 0, none⟩ = some (.slice Ao25 t381.length co25) := (blk_cell BK390.out 0).trans rfl
        have hcz77_1 : wc.cell? ⟨gb390, 1, none⟩ = some (.slice Ao29 t384.length co29) := (blk_cell BK390.out 1).trans rfl
        have hcz77_2 : wc.cell? ⟨gb390, 2, none⟩ = some (.bool false) := (blk_cell BK390.out 2).trans rfl
        have hcz77_3 : wc.cell? ⟨gb390, 3, none⟩ = some (.string t388) := (blk_cell BK390.out 3).trans rfl
        have hfz77_0 := blk_frozen BK390.out 0
        have hfz77_1 := blk_frozen BK390.out 1
        have hfz77_2 := blk_frozen BK390.out 2
        have hfz77_3 := blk_frozen BK390.out 3
        go_wp2
        go_meet
        case rel => exact ⟨_, (false), (by first | rfl | (simp; done) | (simp [*]; done)), H', ⟨by have := HJ9.out; first | omega | exact Nat.le_refl _⟩, ⟨by (with_reducible repeat (first | apply Kd.S_alloc | apply Kd.S_drewN | apply Kd.S_drew)); exact HO_363000.out⟩, ⟨by (with_reducible repeat (first | apply Kd.R_alloc | apply Kd.R_drewN | apply Kd.R_drew)); exact HO_381000.out⟩, ⟨by (with_reducible repeat (first | apply Kd.R_alloc | apply Kd.R_drewN | apply Kd.R_drew)); exact HO_381001.out⟩, ⟨by (with_reducible repeat (first | apply Kd.R_alloc | apply Kd.R_drewN | apply Kd.R_drew)); exact HO_391000.out⟩, ⟨by (with_reducible repeat (first | apply Kd.R_alloc | apply Kd.R_drewN | apply Kd.R_drew)); exact HO_391001.out⟩, ⟨by (with_reducible repeat (first | apply Kd.R_alloc | apply Kd.R_drewN | apply Kd.R_drew)); exact HO_401000.out⟩, ⟨by (with_reducible repeat (first | apply Kd.R_alloc | apply Kd.R_drewN | apply Kd.R_drew)); exact HO_401001.out⟩, ⟨by (with_reducible repeat (first | refine blk_drewN ?_ _ | refine blk_drew ?_ | refine blk_alloc ?_ _)); exact BK362.out⟩, ⟨by (with_reducible repeat (first | refine blk_drewN ?_ _ | refine blk_drew ?_ | refine blk_alloc ?_ _)); exact BK380.out⟩, ⟨by (with_reducible repeat (first | refine blk_drewN ?_ _ | refine blk_drew ?_ | refine blk_alloc ?_ _)); exact BK390.out⟩, ⟨by (with_reducible repeat (first | refine blk_drewN ?_ _ | refine blk_drew ?_ | refine blk_alloc ?_ _)); exact BK400.out⟩, ⟨by repeat (first | (with_reducible first | exact HB.out | apply below_alloc | apply pw_below_drewN | apply below_drew1 | refine below_set ?_ GE362.out | refine below_set ?_ GE380.out | refine below_set ?_ GE390.out | refine below_set ?_ GE400.out) | exact HB.out)⟩⟩
    case rest =>
     clear HC46
     try clear c1
     try clear c2
     try clear p2
     try clear c3
     try clear c4
     try clear c5
     try clear c6
     try clear p6
     try clear c7
     try clear c10
     try clear c11
     try clear c19
     try clear c26
     try clear c27
     try clear c34
     try clear c35
     try clear c36
     try clear c39
     try clear c39b0
     try clear c39b1
     try clear c40
     try clear c40b0
     try clear c40b1
     try clear c41
     try clear c42
     try clear c42b0
     try clear c42b1
     try clear c43
     try clear c43b0
     try clear c43b1
     try clear c47
     try clear c47b0
     try clear c47b1
     try clear c48
     try clear c49
     try clear c50
     try clear c52
     try clear c53
     try clear c55
     try clear c55b0
     try clear c55b1
     try clear c56
     try clear c57
     try clear c58
     try clear c60
     try clear c61
     try clear c63
     try clear c64
     try clear p64
     try clear c65
     try clear c66
     try clear c68
     try clear c69
     try clear c71
     try clear c72
     try clear c73
     try clear c75
     try clear c76
     try clear hcz12_0
     try clear hcz12_1
     try clear hcz12_2
     try clear hcz12_3
     try clear hcz12_4
     try clear hcz12_5
     try clear hcz15_0
     try clear hcz15_1
     try clear hcz15_2
     try clear hcz15_3
     try clear hcz15_4
     try clear hcz15_5
     try clear hcz20_0
     try clear hcz20_1
     try clear hcz20_2
     try clear hcz20_3
     try clear hcz22_0
     try clear hcz22_1
     try clear hcz22_2
     try clear hcz22_3
     try clear hcz22_4
     try clear hcz22_5
     try clear hcz28_0
     try clear hcz28_1
     try clear hcz28_2
     try clear hcz28_3
     try clear hcz30_0
     try clear hcz30_1
     try clear hcz30_2
     try clear hcz30_3
     try clear hcz30_4
     try clear hcz30_5
     try clear hcz37_0
     try clear hcz37_1
     try clear hcz37_2
     try clear hcz37_3
     try clear hcz51_0
     try clear hcz51_1
     try clear hcz51_2
     try clear hcz51_3
     try clear hcz54_0
     try clear hcz54_1
     try clear hcz54_2
     try clear hcz54_3
     try clear hcz59_0
     try clear hcz59_1
     try clear hcz59_2
     try clear hcz59_3
     try clear hcz62_0
     try clear hcz62_1
     try clear hcz62_2
     try clear hcz62_3
     try clear hcz67_0
     try clear hcz67_1
     try clear hcz67_2
     try clear hcz67_3
     try clear hcz70_0
     try clear hcz70_1
     try clear hcz70_2
     try clear hcz70_3
     try clear hcz74_0
     try clear hcz74_1
     try clear hcz74_2
     try clear hcz74_3
     try clear hcz77_0
     try clear hcz77_1
     try clear hcz77_2
     try clear hcz77_3
     try clear hfz12_0
     try clear hfz12_1
     try clear hfz12_2
     try clear hfz12_3
     try clear hfz12_4
     try clear hfz12_5
     try clear hfz15_0
     try clear hfz15_1
     try clear hfz15_2
     try clear hfz15_3
     try clear hfz15_4
     try clear hfz15_5
     try clear hfz20_0
     try clear hfz20_1
     try clear hfz20_2
     try clear hfz20_3
     try clear hfz22_0
     try clear hfz22_1
     try clear hfz22_2
     try clear hfz22_3
     try clear hfz22_4
     try clear hfz22_5
     try clear hfz28_0
     try clear hfz28_1
     try clear hfz28_2
     try clear hfz28_3
     try clear hfz30_0
     try clear hfz30_1
     try clear hfz30_2
     try clear hfz30_3
     try clear hfz30_4
     try clear hfz30_5
     try clear hfz37_0
     try clear hfz37_1
     try clear hfz37_2
     try clear hfz37_3
     try clear hfz51_0
     try clear hfz51_1
     try clear hfz51_2
     try clear hfz51_3
     try clear hfz54_0
     try clear hfz54_1
     try clear hfz54_2
     try clear hfz54_3
     try clear hfz59_0
     try clear hfz59_1
     try clear hfz59_2
     try clear hfz59_3
     try clear hfz62_0
     try clear hfz62_1
     try clear hfz62_2
     try clear hfz62_3
     try clear hfz67_0
     try clear hfz67_1
     try clear hfz67_2
     try clear hfz67_3
     try clear hfz70_0
     try clear hfz70_1
     try clear hfz70_2
     try clear hfz70_3
     try clear hfz74_0
     try clear hfz74_1
     try clear hfz74_2
     try clear hfz74_3
     try clear hfz77_0
     try clear hfz77_1
     try clear hfz77_2
     try clear hfz77_3
     try clear p2
     try clear p6
     obtain ⟨kq, x105_45, rfl, HA, HJ45, HO_363000, HO_381000, HO_381001, HO_391000, HO_391001, HO_401000, HO_401001, BK362, BK380, BK390, BK400, HB⟩ := hcut
     cases kq with
     | zero => exact absurd HA.out (by simp [cellarerlaw07_PagerSizes.j1])
     | succ kj45 =>
      have H := HA.out
      clear HA
      simp only [cellarerlaw07_PagerSizes.j1] at H
      by_cases c78 : x105_45 = true
      ·subst c78
       have H1 : (some false) = some r := by rw [if_pos rfl] at H; exact H
       clear H
       have H := H1
       clear H1
       obtain rfl := Option.some.inj H
       exact absurd HTR_.out (by decide)
      ·replace c78 := Bool.eq_false_iff.mpr c78
       subst c78
       have H1 : (if 0 ≤ (t371.length : Int) then (if (t371.length : Int) ≤ (t381.length : Int) then ((cellarerref02_Same.f kj45 t371 (t381.take ((t371.length : Int) : Int).toNat)).bind fun t406 => (if t406 = true then (if 0 ≤ (t374.length : Int) then (if (t374.length : Int) ≤ (t384.length : Int) then ((cellarerref02_Same.f kj45 t374 (t384.take ((t374.length : Int) : Int).toNat)).bind fun t411 => (if t411 = true then (if (wrap64 ((t391.length : Int) + (t394.length : Int))) = 0 then (if t398.toList = ([] : List UInt8) then (if (wrap64 ((t381.length : Int) + (t384.length : Int))) > 0 then (if (t397 == true) = true then ((cellarerlaw07_awake.f).bind fun t412 => (some t412)) else (some false)) else (if (t397 == t387) = true then ((cellarerlaw07_awake.f).bind fun t413 => (some t413)) else (some false))) else (some false)) else (some false)) else (some false))) else (none)) else (none)) else (some false))) else (none)) else (none)) = some r := by rw [if_neg (show ¬ (false = true) by decide)] at H; exact H
       clear H
       have H := H1
       clear H1
       by_cases c79 : 0 ≤ (t371.length : Int)
       ·rw [if_pos c79] at H
        have c79b0 := eq_true c79
        have c79b1 : decide (0 ≤ (t371.length : Int)) = true := decide_eq_true c79
        clear c79
        by_cases c80 : (t371.length : Int) ≤ (t381.length : Int)
        ·rw [if_pos c80] at H
         have c80b0 := eq_true c80
         have c80b1 : decide ((t371.length : Int) ≤ (t381.length : Int)) = true := decide_eq_true c80
         clear c80
         obtain ⟨y402, hy402⟩ : ∃ y_ : List ByteArray, y_ = (t381.take ((t371.length : Int) : Int).toNat) := ⟨_, rfl⟩
         replace H : ((cellarerref02_Same.f kj45 t371 y402).bind fun t406 => (if t406 = true then (if 0 ≤ (t374.length : Int) then (if (t374.length : Int) ≤ (t384.length : Int) then ((cellarerref02_Same.f kj45 t374 (t384.take ((t374.length : Int) : Int).toNat)).bind fun t411 => (if t411 = true then (if (wrap64 ((t391.length : Int) + (t394.length : Int))) = 0 then (if t398.toList = ([] : List UInt8) then (if (wrap64 ((t381.length : Int) + (t384.length : Int))) > 0 then (if (t397 == true) = true then ((cellarerlaw07_awake.f).bind fun t412 => (some t412)) else (some false)) else (if (t397 == t387) = true then ((cellarerlaw07_awake.f).bind fun t413 => (some t413)) else (some false))) else (some false)) else (some false)) else (some false))) else (none)) else (none)) else (some false))) = some r := by first | (rw [hy402]; with_reducible exact H) | (have H2_ := (Option.bind_some _ _).symm.trans H; rw [hy402]; with_reducible exact H2_) | (have H2_ := (Option.bind_some _ _).symm.trans H; with_reducible exact H2_) | with_reducible exact H | (rw [hy402]; exact H) | exact H
         have Ny402 := Aside0.mk hy402
         clear hy402
         replace H := Option.bind_eq_some_iff.mp H
         obtain ⟨t406, A810, H⟩ := H
         replace H : (if t406 = true then (if 0 ≤ (t374.length : Int) then (if (t374.length : Int) ≤ (t384.length : Int) then ((cellarerref02_Same.f kj45 t374 (t384.take ((t374.length : Int) : Int).toNat)).bind fun t411 => (if t411 = true then (if (wrap64 ((t391.length : Int) + (t394.length : Int))) = 0 then (if t398.toList = ([] : List UInt8) then (if (wrap64 ((t381.length : Int) + (t384.length : Int))) > 0 then (if (t397 == true) = true then ((cellarerlaw07_awake.f).bind fun t412 => (some t412)) else (some false)) else (if (t397 == t387) = true then ((cellarerlaw07_awake.f).bind fun t413 => (some t413)) else (some false))) else (some false)) else (some false)) else (some false))) else (none)) else (none)) else (some false)) = some r := H
         have A81 := Aside0.mk A810
         clear A810
         by_cases c82 : t406 = true
         ·subst c82
          have H1 : (if 0 ≤ (t374.length : Int) then (if (t374.length : Int) ≤ (t384.length : Int) then ((cellarerref02_Same.f kj45 t374 (t384.take ((t374.length : Int) : Int).toNat)).bind fun t411 => (if t411 = true then (if (wrap64 ((t391.length : Int) + (t394.length : Int))) = 0 then (if t398.toList = ([] : List UInt8) then (if (wrap64 ((t381.length : Int) + (t384.length : Int))) > 0 then (if (t397 == true) = true then ((cellarerlaw07_awake.f).bind fun t412 => (some t412)) else (some false)) else (if (t397 == t387) = true then ((cellarerlaw07_awake.f).bind fun t413 => (some t413)) else (some false))) else (some false)) else (some false)) else (some false))) else (none)) else (none)) = some r := by rw [if_pos rfl] at H; exact H
          clear H
          have H := H1
          clear H1
          by_cases c83 : 0 ≤ (t374.length : Int)
          ·rw [if_pos c83] at H
           have c83b0 := eq_true c83
           have c83b1 : decide (0 ≤ (t374.length : Int)) = true := decide_eq_true c83
           clear c83
           by_cases c84 : (t374.length : Int) ≤ (t384.length : Int)
           ·rw [if_pos c84] at H
            have c84b0 := eq_true c84
            have c84b1 : decide ((t374.length : Int) ≤ (t384.length : Int)) = true := decide_eq_true c84
            clear c84
            obtain ⟨y407, hy407⟩ : ∃ y_ : List ByteArray, y_ = (t384.take ((t374.length : Int) : Int).toNat) := ⟨_, rfl⟩
            replace H : ((cellarerref02_Same.f kj45 t374 y407).bind fun t411 => (if t411 = true then (if (wrap64 ((t391.length : Int) + (t394.length : Int))) = 0 then (if t398.toList = ([] : List UInt8) then (if (wrap64 ((t381.length : Int) + (t384.length : Int))) > 0 then (if (t397 == true) = true then ((cellarerlaw07_awake.f).bind fun t412 => (some t412)) else (some false)) else (if (t397 == t387) = true then ((cellarerlaw07_awake.f).bind fun t413 => (some t413)) else (some false))) else (some false)) else (some false)) else (some false))) = some r := by first | (rw [hy407]; with_reducible exact H) | (have H2_ := (Option.bind_some _ _).symm.trans H; rw [hy407]; with_reducible exact H2_) | (have H2_ := (Option.bind_some _ _).symm.trans H; with_reducible exact H2_) | with_reducible exact H | (rw [hy407]; exact H) | exact H
            have Ny407 := Aside0.mk hy407
            clear hy407
            replace H := Option.bind_eq_some_iff.mp H
            obtain ⟨t411, A850, H⟩ := H
            replace H : (if t411 = true then (if (wrap64 ((t391.length : Int) + (t394.length : Int))) = 0 then (if t398.toList = ([] : List UInt8) then (if (wrap64 ((t381.length : Int) + (t384.length : Int))) > 0 then (if (t397 == true) = true then ((cellarerlaw07_awake.f).bind fun t412 => (some t412)) else (some false)) else (if (t397 == t387) = true then ((cellarerlaw07_awake.f).bind fun t413 => (some t413)) else (some false))) else (some false)) else (some false)) else (some false)) = some r := H
            have A85 := Aside0.mk A850
            clear A850
            by_cases c86 : t411 = true
            ·subst c86
             have H1 : (if (wrap64 ((t391.length : Int) + (t394.length : Int))) = 0 then (if t398.toList = ([] : List UInt8) then (if (wrap64 ((t381.length : Int) + (t384.length : Int))) > 0 then (if (t397 == true) = true then ((cellarerlaw07_awake.f).bind fun t412 => (some t412)) else (some false)) else (if (t397 == t387) = true then ((cellarerlaw07_awake.f).bind fun t413 => (some t413)) else (some false))) else (some false)) else (some false)) = some r := by rw [if_pos rfl] at H; exact H
             clear H
             have H := H1
             clear H1
             by_cases c87 : (wrap64 ((t391.length : Int) + (t394.length : Int))) = 0
             ·rw [if_pos c87] at H
              have c87b0 : ((wrap64 ((t391.length : Int) + (t394.length : Int))) == 0) = true := beq_iff_eq.mpr c87
              have c87b1 : ((wrap64 ((t391.length : Int) + (t394.length : Int))) != 0) = false := bne_eq_false_iff_eq.mpr c87
              clear c87
              by_cases c88 : t398.toList = ([] : List UInt8)
              ·rw [if_pos c88] at H
               have c88b0 : (t398.toList == ([] : List UInt8)) = true := beq_iff_eq.mpr c88
               have c88b1 : (t398.toList != ([] : List UInt8)) = false := bne_eq_false_iff_eq.mpr c88
               clear c88
               by_cases c89 : (wrap64 ((t381.length : Int) + (t384.length : Int))) > 0
               ·rw [if_pos c89] at H
                have c89b0 : decide (0 < (wrap64 ((t381.length : Int) + (t384.length : Int)))) = true := decide_eq_true c89
                clear c89
                by_cases c90 : (t397 == true) = true
                ·rw [if_pos c90] at H
                 have c90b0 : (t397 == true) = true := c90
                 (try (have c90b1 : decide (t397 = true) = true := by simpa using c90))
                 (try (have c90b2 : (t397 == true) = true := by simpa using c90))
                 clear c90
                 replace H := Option.bind_eq_some_iff.mp H
                 obtain ⟨t412, A910, H⟩ := H
                 replace H : (some t412) = some r := H
                 have A91 := Aside0.mk A910
                 clear A910
                 obtain rfl := Option.some.inj H
                 have hnb92 := NB390_362.out
                 have hnc92 := NB362_390.out
                 have hnb93 := NB390_380.out
                 have hnc93 := NB380_390.out
                 have hnb94 := NB390_400.out
                 have hnc94 := NB400_390.out
                 have hcz95_0 : wc.cell? ⟨gb390, 0, none⟩ = some (.slice Ao25 t381.length co25) := (blk_cell BK390.out 0).trans rfl
                 have hcz95_1 : wc.cell? ⟨gb390, 1, none⟩ = some (.slice Ao29 t384.length co29) := (blk_cell BK390.out 1).trans rfl
                 have hcz95_2 : wc.cell? ⟨gb390, 2, none⟩ = some (.bool t387) := (blk_cell BK390.out 2).trans rfl
                 have hcz95_3 : wc.cell? ⟨gb390, 3, none⟩ = some (.string t388) := (blk_cell BK390.out 3).trans rfl
                 have hfz95_0 := blk_frozen BK390.out 0
                 have hfz95_1 := blk_frozen BK390.out 1
                 have hfz95_2 := blk_frozen BK390.out 2
                 have hfz95_3 := blk_frozen BK390.out 3
                 try go_wp2
                 have n0_ := Aside0.mk (Kd.S_drew HO_363000.out)
                 have n1_ := Aside0.mk (Kd.R_drew HO_381000.out)
                 have n2_ := Aside0.mk (Kd.R_drew HO_381001.out)
                 have n3_ := Aside0.mk (Kd.R_drew HO_391000.out)
                 have n4_ := Aside0.mk (Kd.R_drew HO_391001.out)
                 have n5_ := Aside0.mk (Kd.R_drew HO_401000.out)
                 have n6_ := Aside0.mk (Kd.R_drew HO_401001.out)
                 have n7_ := Aside0.mk (blk_drew BK362.out)
                 have n8_ := Aside0.mk (blk_drew BK380.out)
                 have n9_ := Aside0.mk (blk_drew BK390.out)
                 have n10_ := Aside0.mk (blk_drew BK400.out)
                 have n11_ := Aside0.mk (below_drew1 HB.out)
                 clear HO_363000
                 clear HO_381000
                 clear HO_381001
                 clear HO_391000
                 clear HO_391001
                 clear HO_401000
                 clear HO_401001
                 clear BK362
                 clear BK380
                 clear BK390
                 clear BK400
                 clear HB
                 have HO_363000 := n0_
                 have HO_381000 := n1_
                 have HO_381001 := n2_
                 have HO_391000 := n3_
                 have HO_391001 := n4_
                 have HO_401000 := n5_
                 have HO_401001 := n6_
                 have BK362 := n7_
                 have BK380 := n8_
                 have BK390 := n9_
                 have BK400 := n10_
                 have HB := n11_
                 clear n0_ n1_ n2_ n3_ n4_ n5_ n6_ n7_ n8_ n9_ n10_ n11_
                 have q97 : ((t371.length : Int) : Int) ≤ ((t381.length : Int) : Int) := of_decide_eq_true (by first | (with_reducible assumption) | assumption)
                 obtain ⟨i097, hi097, _, hsz97, _⟩ := info_parts info9
                 have hroom97 : t381.length ≤ co25 := (Kd.R_reads' HO_391000.out).2.1
                 have hC97 : Kd.C Kd.string _ Ao25 t381.length t381 := (Kd.R_reads' HO_391000.out).2.2
                 have hcut97 := cut_to (P := Try.prog) 27 9 .i64 Try.underlying27 hi097 Ao25 t381.length co25 (t371.length : Int) (of_decide_eq_true (by first | (with_reducible assumption) | assumption)) q97 hroom97
                 have hr97 := Kd.C_take (m := ((t371.length : Int) : Int).toNat) hC97 (by omega)
                 have hy97 : y402.length = ((t371.length : Int) : Int).toNat := (by rw [Ny402.out, List.length_take]; omega)
                 rw [← Ny402.out] at hr97
                 rw [← hy97] at hcut97
                 have HR405 := Aside0.mk hr97
                 have HC405 := Aside0.mk (show y402.length ≤ co25 from by omega)
                 clear hr97 hC97 hroom97 hi097 hsz97
                 have KY97 := Aside0.mk hy97
                 clear hy97
                 have KL97 := Aside0.mk (show ((t371.length : Int) : Int).toNat ≤ t381.length from by omega)
                 replace q97 := eq_true q97
                 refine start_ (n := 50) (S := fun w' => w'.cell? ⟨gb380, 0, none⟩ = some (.slice Ao18 t371.length co18) ∧ w'.cell? ⟨gb380, 1, none⟩ = some (.slice Ao21 t374.length co21) ∧ w'.cell? ⟨gb380, 2, none⟩ = some (.bool t377) ∧ w'.cell? ⟨gb380, 3, none⟩ = some (.string t378) ∧ w'.cell? ⟨gb390, 0, none⟩ = some (.slice Ao25 t381.length co25) ∧ w'.cell? ⟨gb390, 1, none⟩ = some (.slice Ao29 t384.length co29) ∧ w'.cell? ⟨gb390, 2, none⟩ = some (.bool t387) ∧ w'.cell? ⟨gb390, 3, none⟩ = some (.string t388) ∧ w'.cell? ⟨gb400, 0, none⟩ = some (.slice Ao33 t391.length co33) ∧ w'.cell? ⟨gb400, 1, none⟩ = some (.slice Ao38 t394.length co38) ∧ w'.cell? ⟨gb400, 2, none⟩ = some (.bool t397) ∧ w'.cell? ⟨gb400, 3, none⟩ = some (.string t398)) (ds := []) #[false, false, false, false, false, false, false, false, false, false, false, false, false, false, false, false, false, false, false, false, false, false, false, false, false, false, false, false, false, false, false, false, false, false, false, false, false, false, false, false, false, false, false, false, false, false, false, false, false, false] (by kernel_rfl) rfl rfl ⟨(blk_cell BK380.out 0).trans rfl, (blk_cell BK380.out 1).trans rfl, (blk_cell BK380.out 2).trans rfl, (blk_cell BK380.out 3).trans rfl, (blk_cell BK390.out 0).trans rfl, (blk_cell BK390.out 1).trans rfl, (blk_cell BK390.out 2).trans rfl, (blk_cell BK390.out 3).trans rfl, (blk_cell BK400.out 0).trans rfl, (blk_cell BK400.out 1).trans rfl, (blk_cell BK400.out 2).trans rfl, (blk_cell BK400.out 3).trans rfl⟩ (fun hHeld => ?_); refine with_tabW cellarerlaw07_PagerSizes.tab10 cellarerlaw07_PagerSizes.bits10 (fun HT_ HW_ => ?_)
                 generalize wc.drew = w96 at HO_363000 HO_381000 HO_381001 HO_391000 HO_391001 HO_401000 HO_401001 BK362 BK380 BK390 BK400 HB HR405 hHeld ⊢
                 refine pure_ (i := 0) (N := some 113) (v := ?_) (a' := ?_) (cellarerlaw07_PagerSizes.bs 50 1) rfl rfl (any_of HT_.out (by kernel_rfl)) (fun _ _ _ h => h) (Or.inl ⟨by rfl, ?_⟩) ?_ ?_
                 rotate_left
                 ·intro w'
                  go_simp
                  with_reducible rfl
                 rotate_left
                 ·simp only [Act.put, List.setIfInBounds_toArray, List.set_cons_zero, List.set_cons_succ, i64_w, i32_w]
                  rfl
                 refine pure_ (i := 2) (N := some 115) (v := ?_) (a' := ?_) (cellarerlaw07_PagerSizes.bs 50 5) rfl rfl (any_of HT_.out (by kernel_rfl)) (fun _ _ _ h => h) (Or.inl ⟨by rfl, ?_⟩) ?_ ?_
                 rotate_left
                 ·intro w'
                  go_simp
                  with_reducible rfl
                 rotate_left
                 ·simp only [Act.put, List.setIfInBounds_toArray, List.set_cons_zero, List.set_cons_succ, i64_w, i32_w]
                  rfl
                 refine pure_ (i := 4) (N := some 117) (v := ?_) (a' := ?_) (cellarerlaw07_PagerSizes.bs 50 21) rfl rfl (any_of HT_.out (by kernel_rfl)) (fun _ _ _ h => h) (Or.inl ⟨by rfl, ?_⟩) ?_ ?_
                 rotate_left
                 ·intro w'
                  go_simp
                  with_reducible rfl
                 rotate_left
                 ·simp only [Act.put, List.setIfInBounds_toArray, List.set_cons_zero, List.set_cons_succ, i64_w, i32_w]
                  rfl
                 refine take_ (i := 1) (N := some 114) (v := ?_) (a' := ?_) (cellarerlaw07_PagerSizes.bs 50 23) rfl rfl (take_ofW HT_.out HW_.out (by kernel_rfl)) (fun _ _ _ h => h) (Or.inl ⟨by rfl, ?_⟩) hHeld ?_ ?_
                 rotate_left
                 ·rintro w' ⟨s0, s1, s2, s3, s4, s5, s6, s7, s8, s9, s10, s11⟩
                  go_simp
                  with_reducible rfl
                 rotate_left
                 ·simp only [Act.put, List.setIfInBounds_toArray, List.set_cons_zero, List.set_cons_succ, i64_w, i32_w]
                  rfl
                 refine take_ (i := 3) (N := some 116) (v := ?_) (a' := ?_) (cellarerlaw07_PagerSizes.bs 50 31) rfl rfl (take_ofW HT_.out HW_.out (by kernel_rfl)) (fun _ _ _ h => h) (Or.inl ⟨by rfl, ?_⟩) hHeld ?_ ?_
                 rotate_left
                 ·rintro w' ⟨s0, s1, s2, s3, s4, s5, s6, s7, s8, s9, s10, s11⟩
                  go_simp
                  with_reducible rfl
                 rotate_left
                 ·simp only [Act.put, List.setIfInBounds_toArray, List.set_cons_zero, List.set_cons_succ, i64_w, i32_w]
                  rfl
                 refine take_ (i := 5) (N := some 118) (v := ?_) (a' := ?_) (cellarerlaw07_PagerSizes.bs 50 63) rfl rfl (take_ofW HT_.out HW_.out (by kernel_rfl)) (fun _ _ _ h => h) (Or.inl ⟨by rfl, ?_⟩) hHeld ?_ ?_
                 rotate_left
                 ·rintro w' ⟨s0, s1, s2, s3, s4, s5, s6, s7, s8, s9, s10, s11⟩
                  go_simp
                  with_reducible rfl
                 rotate_left
                 ·simp only [Act.put, List.setIfInBounds_toArray, List.set_cons_zero, List.set_cons_succ, i64_w, i32_w]
                  rfl
                 refine pure_ (i := 6) (N := some 119) (v := ?_) (a' := ?_) (cellarerlaw07_PagerSizes.bs 50 127) rfl rfl (any_of HT_.out (by kernel_rfl)) (fun _ _ _ h => h) (Or.inl ⟨by rfl, ?_⟩) ?_ ?_
                 rotate_left
                 ·intro w'
                  go_simp
                  with_reducible rfl
                 rotate_left
                 ·simp only [Act.put, List.setIfInBounds_toArray, List.set_cons_zero, List.set_cons_succ, i64_w, i32_w]
                  rfl
                 refine pure_ (i := 7) (N := some 120) (v := ?_) (a' := ?_) (cellarerlaw07_PagerSizes.bs 50 255) rfl rfl (any_of HT_.out (by kernel_rfl)) (fun _ _ _ h => h) (Or.inl ⟨by rfl, ?_⟩) ?_ ?_
                 rotate_left
                 ·intro w'
                  go_simp
                  with_reducible rfl
                 rotate_left
                 ·simp only [Act.put, List.setIfInBounds_toArray, List.set_cons_zero, List.set_cons_succ, i64_w, i32_w]
                  rfl
                 refine one_ (i := 8) (N := some 121) (cellarerlaw07_PagerSizes.bs 50 511) rfl rfl (one_of HT_.out (by kernel_rfl)) (by decide) (fun K hK => ?_)
                 refine goes_ Try.func15 (by kernel_rfl) rfl #[.slice Ao18 t371.length co18, .slice Ao25 y402.length co25] (by rfl) rfl rfl (by (try simp only [List.map_toArray, List.map_cons, List.map_nil]); first | done | rfl | (simp only [List.length_drop, List.length_take]; rfl)) ?_
                 with_reducible refine (cellarerref02_Same.calls kj45 _ _ t371 _ _ y402 true _ ?side1 ?side2 ?side3 ?side4 A81.out).mono ?_
                 (case side1 => repeat (first | exact (Kd.R_reads' HO_381000.out).2.2 | (with_reducible refine Kd.C_alloc ?_ _) | (with_reducible refine Kd.C_drewN ?_ _) | (with_reducible refine Kd.C_drew ?_)))
                 (case side2 => exact (Kd.R_reads' HO_381000.out).2.1)
                 (case side3 => repeat (first | exact (by repeat (first | (with_reducible exact HR405.out) | (with_reducible refine Kd.C_alloc ?_ _) | (with_reducible refine Kd.C_drewN ?_ _) | (with_reducible refine Kd.C_drew ?_) | exact HR405.out)) | (with_reducible refine Kd.C_alloc ?_ _) | (with_reducible refine Kd.C_drewN ?_ _) | (with_reducible refine Kd.C_drew ?_)))
                 (case side4 => exact HC405.out)
                 rintro e w' ⟨rfl, ⟨nd, rfl⟩⟩
                 refine ⟨_, rfl, ?_⟩
                 have q98 : ((t374.length : Int) : Int) ≤ ((t384.length : Int) : Int) := of_decide_eq_true (by first | (with_reducible assumption) | assumption)
                 obtain ⟨i098, hi098, _, hsz98, _⟩ := info_parts info9
                 have hroom98 : t384.length ≤ co29 := (Kd.R_reads' HO_391001.out).2.1
                 have hC98 : Kd.C Kd.string _ Ao29 t384.length t384 := (Kd.R_reads' HO_391001.out).2.2
                 have hcut98 := cut_to (P := Try.prog) 27 9 .i64 Try.underlying27 hi098 Ao29 t384.length co29 (t374.length : Int) (of_decide_eq_true (by first | (with_reducible assumption) | assumption)) q98 hroom98
                 have hr98 := Kd.C_take (m := ((t374.length : Int) : Int).toNat) hC98 (by omega)
                 have hy98 : y407.length = ((t374.length : Int) : Int).toNat := (by rw [Ny407.out, List.length_take]; omega)
                 rw [← Ny407.out] at hr98
                 rw [← hy98] at hcut98
                 have HR410 := Aside0.mk hr98
                 have HC410 := Aside0.mk (show y407.length ≤ co29 from by omega)
                 clear hr98 hC98 hroom98 hi098 hsz98
                 have KY98 := Aside0.mk hy98
                 clear hy98
                 have KL98 := Aside0.mk (show ((t374.length : Int) : Int).toNat ≤ t384.length from by omega)
                 replace q98 := eq_true q98
                 refine hK.out _ _ ⟨(blk_cell BK380.out 0).trans rfl, (blk_cell BK380.out 1).trans rfl, (blk_cell BK380.out 2).trans rfl, (blk_cell BK380.out 3).trans rfl, (blk_cell BK390.out 0).trans rfl, (blk_cell BK390.out 1).trans rfl, (blk_cell BK390.out 2).trans rfl, (blk_cell BK390.out 3).trans rfl, (blk_cell BK400.out 0).trans rfl, (blk_cell BK400.out 1).trans rfl, (blk_cell BK400.out 2).trans rfl, (blk_cell BK400.out 3).trans rfl⟩ (fun hHeld => ?_)
                 clear hK K
                 refine norm_ (a' := ?_) ?_ ?_
                 rotate_left
                 ·show Act.put _ (some 121) _ = _
                  simp only [Act.put, List.setIfInBounds_toArray, List.set_cons_zero, List.set_cons_succ, i64_w, i32_w]
                  rfl
                 refine pure_ (i := 9) (N := some 122) (v := ?_) (a' := ?_) (cellarerlaw07_PagerSizes.bs 50 1023) rfl rfl (any_of HT_.out (by kernel_rfl)) (fun _ _ _ h => h) (Or.inl ⟨by rfl, ?_⟩) ?_ ?_
                 rotate_left
                 ·intro w'
                  go_simp
                  with_reducible rfl
                 rotate_left
                 ·simp only [Act.put, List.setIfInBounds_toArray, List.set_cons_zero, List.set_cons_succ, i64_w, i32_w]
                  rfl
                 refine pure_ (i := 10) (N := some 123) (v := ?_) (a' := ?_) (cellarerlaw07_PagerSizes.bs 50 2047) rfl rfl (any_of HT_.out (by kernel_rfl)) (fun _ _ _ h => h) (Or.inl ⟨by rfl, ?_⟩) ?_ ?_
                 rotate_left
                 ·intro w'
                  go_simp
                  with_reducible rfl
                 rotate_left
                 ·simp only [Act.put, List.setIfInBounds_toArray, List.set_cons_zero, List.set_cons_succ, i64_w, i32_w]
                  rfl
                 refine pure_ (i := 12) (N := some 125) (v := ?_) (a' := ?_) (cellarerlaw07_PagerSizes.bs 50 6143) rfl rfl (any_of HT_.out (by kernel_rfl)) (fun _ _ _ h => h) (Or.inl ⟨by rfl, ?_⟩) ?_ ?_
                 rotate_left
                 ·intro w'
                  go_simp
                  with_reducible rfl
                 rotate_left
                 ·simp only [Act.put, List.setIfInBounds_toArray, List.set_cons_zero, List.set_cons_succ, i64_w, i32_w]
                  rfl
                 refine pure_ (i := 14) (N := some 127) (v := ?_) (a' := ?_) (cellarerlaw07_PagerSizes.bs 50 22527) rfl rfl (any_of HT_.out (by kernel_rfl)) (fun _ _ _ h => h) (Or.inl ⟨by rfl, ?_⟩) ?_ ?_
                 rotate_left
                 ·intro w'
                  go_simp
                  with_reducible rfl
                 rotate_left
                 ·simp only [Act.put, List.setIfInBounds_toArray, List.set_cons_zero, List.set_cons_succ, i64_w, i32_w]
                  rfl
                 refine take_ (i := 11) (N := some 124) (v := ?_) (a' := ?_) (cellarerlaw07_PagerSizes.bs 50 24575) rfl rfl (take_ofW HT_.out HW_.out (by kernel_rfl)) (fun _ _ _ h => h) (Or.inl ⟨by rfl, ?_⟩) hHeld ?_ ?_
                 rotate_left
                 ·rintro w' ⟨s0, s1, s2, s3, s4, s5, s6, s7, s8, s9, s10, s11⟩
                  go_simp
                  with_reducible rfl
                 rotate_left
                 ·simp only [Act.put, List.setIfInBounds_toArray, List.set_cons_zero, List.set_cons_succ, i64_w, i32_w]
                  rfl
                 refine take_ (i := 13) (N := some 126) (v := ?_) (a' := ?_) (cellarerlaw07_PagerSizes.bs 50 32767) rfl rfl (take_ofW HT_.out HW_.out (by kernel_rfl)) (fun _ _ _ h => h) (Or.inl ⟨by rfl, ?_⟩) hHeld ?_ ?_
                 rotate_left
                 ·rintro w' ⟨s0, s1, s2, s3, s4, s5, s6, s7, s8, s9, s10, s11⟩
                  go_simp
                  with_reducible rfl
                 rotate_left
                 ·simp only [Act.put, List.setIfInBounds_toArray, List.set_cons_zero, List.set_cons_succ, i64_w, i32_w]
                  rfl
                 refine take_ (i := 15) (N := some 128) (v := ?_) (a' := ?_) (cellarerlaw07_PagerSizes.bs 50 65535) rfl rfl (take_ofW HT_.out HW_.out (by kernel_rfl)) (fun _ _ _ h => h) (Or.inl ⟨by rfl, ?_⟩) hHeld ?_ ?_
                 rotate_left
                 ·rintro w' ⟨s0, s1, s2, s3, s4, s5, s6, s7, s8, s9, s10, s11⟩
                  go_simp
                  with_reducible rfl
                 rotate_left
                 ·simp only [Act.put, List.setIfInBounds_toArray, List.set_cons_zero, List.set_cons_succ, i64_w, i32_w]
                  rfl
                 refine pure_ (i := 16) (N := some 129) (v := ?_) (a' := ?_) (cellarerlaw07_PagerSizes.bs 50 131071) rfl rfl (any_of HT_.out (by kernel_rfl)) (fun _ _ _ h => h) (Or.inl ⟨by rfl, ?_⟩) ?_ ?_
                 rotate_left
                 ·intro w'
                  go_simp
                  with_reducible rfl
                 rotate_left
                 ·simp only [Act.put, List.setIfInBounds_toArray, List.set_cons_zero, List.set_cons_succ, i64_w, i32_w]
                  rfl
                 refine pure_ (i := 17) (N := some 130) (v := ?_) (a' := ?_) (cellarerlaw07_PagerSizes.bs 50 262143) rfl rfl (any_of HT_.out (by kernel_rfl)) (fun _ _ _ h => h) (Or.inl ⟨by rfl, ?_⟩) ?_ ?_
                 rotate_left
                 ·intro w'
                  go_simp
                  with_reducible rfl
                 rotate_left
                 ·simp only [Act.put, List.setIfInBounds_toArray, List.set_cons_zero, List.set_cons_succ, i64_w, i32_w]
                  rfl
                 refine one_ (i := 18) (N := some 131) (cellarerlaw07_PagerSizes.bs 50 524287) rfl rfl (one_of HT_.out (by kernel_rfl)) (by decide) (fun K hK => ?_)
                 refine goes_ Try.func15 (by kernel_rfl) rfl #[.slice Ao21 t374.length co21, .slice Ao29 y407.length co29] (by rfl) rfl rfl (by (try simp only [List.map_toArray, List.map_cons, List.map_nil]); first | done | rfl | (simp only [List.length_drop, List.length_take]; rfl)) ?_
                 with_reducible refine (cellarerref02_Same.calls kj45 _ _ t374 _ _ y407 true _ ?side1 ?side2 ?side3 ?side4 A85.out).mono ?_
                 (case side1 => repeat (first | exact (Kd.R_reads' HO_381001.out).2.2 | (with_reducible refine Kd.C_alloc ?_ _) | (with_reducible refine Kd.C_drewN ?_ _) | (with_reducible refine Kd.C_drew ?_)))
                 (case side2 => exact (Kd.R_reads' HO_381001.out).2.1)
                 (case side3 => repeat (first | exact (by repeat (first | (with_reducible exact HR410.out) | (with_reducible refine Kd.C_alloc ?_ _) | (with_reducible refine Kd.C_drewN ?_ _) | (with_reducible refine Kd.C_drew ?_) | exact HR410.out)) | (with_reducible refine Kd.C_alloc ?_ _) | (with_reducible refine Kd.C_drewN ?_ _) | (with_reducible refine Kd.C_drew ?_)))
                 (case side4 => exact HC410.out)
                 rintro e w' ⟨rfl, ⟨nd, rfl⟩⟩
                 refine ⟨_, rfl, ?_⟩
                 refine hK.out _ _ ⟨(blk_cell BK380.out 0).trans rfl, (blk_cell BK380.out 1).trans rfl, (blk_cell BK380.out 2).trans rfl, (blk_cell BK380.out 3).trans rfl, (blk_cell BK390.out 0).trans rfl, (blk_cell BK390.out 1).trans rfl, (blk_cell BK390.out 2).trans rfl, (blk_cell BK390.out 3).trans rfl, (blk_cell BK400.out 0).trans rfl, (blk_cell BK400.out 1).trans rfl, (blk_cell BK400.out 2).trans rfl, (blk_cell BK400.out 3).trans rfl⟩ (fun hHeld => ?_)
                 clear hK K
                 refine norm_ (a' := ?_) ?_ ?_
                 rotate_left
                 ·show Act.put _ (some 131) _ = _
                  simp only [Act.put, List.setIfInBounds_toArray, List.set_cons_zero, List.set_cons_succ, i64_w, i32_w]
                  rfl
                 refine pure_ (i := 19) (N := some 132) (v := ?_) (a' := ?_) (cellarerlaw07_PagerSizes.bs 50 1048575) rfl rfl (any_of HT_.out (by kernel_rfl)) (fun _ _ _ h => h) (Or.inl ⟨by rfl, ?_⟩) ?_ ?_
                 rotate_left
                 ·intro w'
                  go_simp
                  with_reducible rfl
                 rotate_left
                 ·simp only [Act.put, List.setIfInBounds_toArray, List.set_cons_zero, List.set_cons_succ, i64_w, i32_w]
                  rfl
                 refine pure_ (i := 20) (N := some 133) (v := ?_) (a' := ?_) (cellarerlaw07_PagerSizes.bs 50 2097151) rfl rfl (any_of HT_.out (by kernel_rfl)) (fun _ _ _ h => h) (Or.inl ⟨by rfl, ?_⟩) ?_ ?_
                 rotate_left
                 ·intro w'
                  go_simp
                  with_reducible rfl
                 rotate_left
                 ·simp only [Act.put, List.setIfInBounds_toArray, List.set_cons_zero, List.set_cons_succ, i64_w, i32_w]
                  rfl
                 refine pure_ (i := 21) (N := some 134) (v := ?_) (a' := ?_) (cellarerlaw07_PagerSizes.bs 50 4194303) rfl rfl (any_of HT_.out (by kernel_rfl)) (fun _ _ _ h => h) (Or.inl ⟨by rfl, ?_⟩) ?_ ?_
                 rotate_left
                 ·intro w'
                  go_simp
                  with_reducible rfl
                 rotate_left
                 ·simp only [Act.put, List.setIfInBounds_toArray, List.set_cons_zero, List.set_cons_succ, i64_w, i32_w]
                  rfl
                 refine pure_ (i := 24) (N := some 137) (v := ?_) (a' := ?_) (cellarerlaw07_PagerSizes.bs 50 20971519) rfl rfl (any_of HT_.out (by kernel_rfl)) (fun _ _ _ h => h) (Or.inl ⟨by rfl, ?_⟩) ?_ ?_
                 rotate_left
                 ·intro w'
                  go_simp
                  with_reducible rfl
                 rotate_left
                 ·simp only [Act.put, List.setIfInBounds_toArray, List.set_cons_zero, List.set_cons_succ, i64_w, i32_w]
                  rfl
                 refine take_ (i := 22) (N := some 135) (v := ?_) (a' := ?_) (cellarerlaw07_PagerSizes.bs 50 25165823) rfl rfl (take_ofW HT_.out HW_.out (by kernel_rfl)) (fun _ _ _ h => h) (Or.inl ⟨by rfl, ?_⟩) hHeld ?_ ?_
                 rotate_left
                 ·rintro w' ⟨s0, s1, s2, s3, s4, s5, s6, s7, s8, s9, s10, s11⟩
                  go_simp
                  with_reducible rfl
                 rotate_left
                 ·simp only [Act.put, List.setIfInBounds_toArray, List.set_cons_zero, List.set_cons_succ, i64_w, i32_w]
                  rfl
                 refine pure_ (i := 23) (N := some 136) (v := ?_) (a' := ?_) (cellarerlaw07_PagerSizes.bs 50 33554431) rfl rfl (any_of HT_.out (by kernel_rfl)) (fun _ _ _ h => h) (Or.inl ⟨by rfl, ?_⟩) ?_ ?_
                 rotate_left
                 ·intro w'
                  go_simp
                  with_reducible rfl
                 rotate_left
                 ·simp only [Act.put, List.setIfInBounds_toArray, List.set_cons_zero, List.set_cons_succ, i64_w, i32_w]
                  rfl
                 refine take_ (i := 25) (N := some 138) (v := ?_) (a' := ?_) (cellarerlaw07_PagerSizes.bs 50 67108863) rfl rfl (take_ofW HT_.out HW_.out (by kernel_rfl)) (fun _ _ _ h => h) (Or.inl ⟨by rfl, ?_⟩) hHeld ?_ ?_
                 rotate_left
                 ·rintro w' ⟨s0, s1, s2, s3, s4, s5, s6, s7, s8, s9, s10, s11⟩
                  go_simp
                  with_reducible rfl
                 rotate_left
                 ·simp only [Act.put, List.setIfInBounds_toArray, List.set_cons_zero, List.set_cons_succ, i64_w, i32_w]
                  rfl
                 refine pure_ (i := 26) (N := some 139) (v := ?_) (a' := ?_) (cellarerlaw07_PagerSizes.bs 50 134217727) rfl rfl (any_of HT_.out (by kernel_rfl)) (fun _ _ _ h => h) (Or.inl ⟨by rfl, ?_⟩) ?_ ?_
                 rotate_left
                 ·intro w'
                  go_simp
                  with_reducible rfl
                 rotate_left
                 ·simp only [Act.put, List.setIfInBounds_toArray, List.set_cons_zero, List.set_cons_succ, i64_w, i32_w]
                  rfl
                 refine pure_ (i := 27) (N := some 140) (v := ?_) (a' := ?_) (cellarerlaw07_PagerSizes.bs 50 268435455) rfl rfl (any_of HT_.out (by kernel_rfl)) (fun _ _ _ h => h) (Or.inl ⟨by rfl, ?_⟩) ?_ ?_
                 rotate_left
                 ·intro w'
                  go_simp
                  with_reducible rfl
                 rotate_left
                 ·simp only [Act.put, List.setIfInBounds_toArray, List.set_cons_zero, List.set_cons_succ, i64_w, i32_w]
                  rfl
                 refine pure_ (i := 28) (N := some 141) (v := ?_) (a' := ?_) (cellarerlaw07_PagerSizes.bs 50 536870911) rfl rfl (any_of HT_.out (by kernel_rfl)) (fun _ _ _ h => h) (Or.inl ⟨by rfl, ?_⟩) ?_ ?_
                 rotate_left
                 ·intro w'
                  go_simp
                  with_reducible rfl
                 rotate_left
                 ·simp only [Act.put, List.setIfInBounds_toArray, List.set_cons_zero, List.set_cons_succ, i64_w, i32_w]
                  rfl
                 refine pure_ (i := 29) (N := some 142) (v := ?_) (a' := ?_) (cellarerlaw07_PagerSizes.bs 50 1073741823) rfl rfl (any_of HT_.out (by kernel_rfl)) (fun _ _ _ h => h) (Or.inl ⟨by rfl, ?_⟩) ?_ ?_
                 rotate_left
                 ·intro w'
                  go_simp
                  with_reducible rfl
                 rotate_left
                 ·simp only [Act.put, List.setIfInBounds_toArray, List.set_cons_zero, List.set_cons_succ, i64_w, i32_w]
                  rfl
                 refine pure_ (i := 30) (N := some 143) (v := ?_) (a' := ?_) (cellarerlaw07_PagerSizes.bs 50 2147483647) rfl rfl (any_of HT_.out (by kernel_rfl)) (fun _ _ _ h => h) (Or.inl ⟨by rfl, ?_⟩) ?_ ?_
                 rotate_left
                 ·intro w'
                  go_simp
                  with_reducible rfl
                 rotate_left
                 ·simp only [Act.put, List.setIfInBounds_toArray, List.set_cons_zero, List.set_cons_succ, i64_w, i32_w]
                  rfl
                 refine pure_ (i := 31) (N := some 144) (v := ?_) (a' := ?_) (cellarerlaw07_PagerSizes.bs 50 4294967295) rfl rfl (any_of HT_.out (by kernel_rfl)) (fun _ _ _ h => h) (Or.inl ⟨by rfl, ?_⟩) ?_ ?_
                 rotate_left
                 ·intro w'
                  go_simp
                  with_reducible rfl
                 rotate_left
                 ·simp only [Act.put, List.setIfInBounds_toArray, List.set_cons_zero, List.set_cons_succ, i64_w, i32_w]
                  rfl
                 refine take_ (i := 32) (N := some 145) (v := ?_) (a' := ?_) (cellarerlaw07_PagerSizes.bs 50 8589934591) rfl rfl (take_ofW HT_.out HW_.out (by kernel_rfl)) (fun _ _ _ h => h) (Or.inl ⟨by rfl, ?_⟩) hHeld ?_ ?_
                 rotate_left
                 ·rintro w' ⟨s0, s1, s2, s3, s4, s5, s6, s7, s8, s9, s10, s11⟩
                  go_simp
                  with_reducible rfl
                 rotate_left
                 ·simp only [Act.put, List.setIfInBounds_toArray, List.set_cons_zero, List.set_cons_succ, i64_w, i32_w]
                  rfl
                 refine pure_ (i := 33) (N := some 146) (v := ?_) (a' := ?_) (cellarerlaw07_PagerSizes.bs 50 17179869183) rfl rfl (any_of HT_.out (by kernel_rfl)) (fun _ _ _ h => h) (Or.inl ⟨by rfl, ?_⟩) ?_ ?_
                 rotate_left
                 ·intro w'
                  go_simp
                  with_reducible rfl
                 rotate_left
                 ·simp only [Act.put, List.setIfInBounds_toArray, List.set_cons_zero, List.set_cons_succ, i64_w, i32_w]
                  rfl
                 refine pure_ (i := 34) (N := some 147) (v := ?_) (a' := ?_) (cellarerlaw07_PagerSizes.bs 50 34359738367) rfl rfl (any_of HT_.out (by kernel_rfl)) (fun _ _ _ h => h) (Or.inl ⟨by rfl, ?_⟩) ?_ ?_
                 rotate_left
                 ·intro w'
                  go_simp
                  with_reducible rfl
                 rotate_left
                 ·simp only [Act.put, List.setIfInBounds_toArray, List.set_cons_zero, List.set_cons_succ, i64_w, i32_w]
                  rfl
                 refine pure_ (i := 35) (N := some 148) (v := ?_) (a' := ?_) (cellarerlaw07_PagerSizes.bs 50 68719476735) rfl rfl (any_of HT_.out (by kernel_rfl)) (fun _ _ _ h => h) (Or.inl ⟨by rfl, ?_⟩) ?_ ?_
                 rotate_left
                 ·intro w'
                  go_simp
                  with_reducible rfl
                 rotate_left
                 ·simp only [Act.put, List.setIfInBounds_toArray, List.set_cons_zero, List.set_cons_succ, i64_w, i32_w]
                  rfl
                 refine pure_ (i := 36) (N := some 149) (v := ?_) (a' := ?_) (cellarerlaw07_PagerSizes.bs 50 137438953471) rfl rfl (any_of HT_.out (by kernel_rfl)) (fun _ _ _ h => h) (Or.inl ⟨by rfl, ?_⟩) ?_ ?_
                 rotate_left
                 ·intro w'
                  go_simp
                  with_reducible rfl
                 rotate_left
                 ·simp only [Act.put, List.setIfInBounds_toArray, List.set_cons_zero, List.set_cons_succ, i64_w, i32_w]
                  rfl
                 refine pure_ (i := 38) (N := some 151) (v := ?_) (a' := ?_) (cellarerlaw07_PagerSizes.bs 50 412316860415) rfl rfl (any_of HT_.out (by kernel_rfl)) (fun _ _ _ h => h) (Or.inl ⟨by rfl, ?_⟩) ?_ ?_
                 rotate_left
                 ·intro w'
                  go_simp
                  with_reducible rfl
                 rotate_left
                 ·simp only [Act.put, List.setIfInBounds_toArray, List.set_cons_zero, List.set_cons_succ, i64_w, i32_w]
                  rfl
                 refine pure_ (i := 39) (N := some 152) (v := ?_) (a' := ?_) (cellarerlaw07_PagerSizes.bs 50 962072674303) rfl rfl (any_of HT_.out (by kernel_rfl)) (fun _ _ _ h => h) (Or.inl ⟨by rfl, ?_⟩) ?_ ?_
                 rotate_left
                 ·intro w'
                  go_simp
                  with_reducible rfl
                 rotate_left
                 ·simp only [Act.put, List.setIfInBounds_toArray, List.set_cons_zero, List.set_cons_succ, i64_w, i32_w]
                  rfl
                 refine pure_ (i := 40) (N := some 153) (v := ?_) (a' := ?_) (cellarerlaw07_PagerSizes.bs 50 2061584302079) rfl rfl (any_of HT_.out (by kernel_rfl)) (fun _ _ _ h => h) (Or.inl ⟨by rfl, ?_⟩) ?_ ?_
                 rotate_left
                 ·intro w'
                  go_simp
                  with_reducible rfl
                 rotate_left
                 ·simp only [Act.put, List.setIfInBounds_toArray, List.set_cons_zero, List.set_cons_succ, i64_w, i32_w]
                  rfl
                 refine pure_ (i := 41) (N := some 154) (v := undef) (a' := ?_) (cellarerlaw07_PagerSizes.bs 50 4260607557631) rfl rfl (any_of HT_.out (by kernel_rfl)) (fun _ _ _ h => h) (Or.inr ⟨by rfl, rfl⟩) ?_ ?_
                 rotate_left
                 ·simp only [Act.put, List.setIfInBounds_toArray, List.set_cons_zero, List.set_cons_succ, i64_w, i32_w]
                  rfl
                 refine pure_ (i := 42) (N := some 155) (v := undef) (a' := ?_) (cellarerlaw07_PagerSizes.bs 50 8658654068735) rfl rfl (any_of HT_.out (by kernel_rfl)) (fun _ _ _ h => h) (Or.inr ⟨by rfl, rfl⟩) ?_ ?_
                 rotate_left
                 ·simp only [Act.put, List.setIfInBounds_toArray, List.set_cons_zero, List.set_cons_succ, i64_w, i32_w]
                  rfl
                 refine pure_ (i := 43) (N := some 156) (v := ?_) (a' := ?_) (cellarerlaw07_PagerSizes.bs 50 17454747090943) rfl rfl (any_of HT_.out (by kernel_rfl)) (fun _ _ _ h => h) (Or.inl ⟨by rfl, ?_⟩) ?_ ?_
                 rotate_left
                 ·intro w'
                  go_simp
                  with_reducible rfl
                 rotate_left
                 ·simp only [Act.put, List.setIfInBounds_toArray, List.set_cons_zero, List.set_cons_succ, i64_w, i32_w]
                  rfl
                 refine take_ (i := 37) (N := some 150) (v := ?_) (a' := ?_) (cellarerlaw07_PagerSizes.bs 50 17592186044415) rfl rfl (take_ofW HT_.out HW_.out (by kernel_rfl)) (fun _ _ _ h => h) (Or.inl ⟨by rfl, ?_⟩) hHeld ?_ ?_
                 rotate_left
                 ·rintro w' ⟨s0, s1, s2, s3, s4, s5, s6, s7, s8, s9, s10, s11⟩
                  go_simp
                  with_reducible rfl
                 rotate_left
                 ·simp only [Act.put, List.setIfInBounds_toArray, List.set_cons_zero, List.set_cons_succ, i64_w, i32_w]
                  rfl
                 refine pure_ (i := 44) (N := some 157) (v := ?_) (a' := ?_) (cellarerlaw07_PagerSizes.bs 50 35184372088831) rfl rfl (any_of HT_.out (by kernel_rfl)) (fun _ _ _ h => h) (Or.inl ⟨by rfl, ?_⟩) ?_ ?_
                 rotate_left
                 ·intro w'
                  go_simp
                  with_reducible rfl
                 rotate_left
                 ·simp only [Act.put, List.setIfInBounds_toArray, List.set_cons_zero, List.set_cons_succ, i64_w, i32_w]
                  rfl
                 refine pure_ (i := 45) (N := some 158) (v := ?_) (a' := ?_) (cellarerlaw07_PagerSizes.bs 50 70368744177663) rfl rfl (any_of HT_.out (by kernel_rfl)) (fun _ _ _ h => h) (Or.inl ⟨by rfl, ?_⟩) ?_ ?_
                 rotate_left
                 ·intro w'
                  go_simp
                  with_reducible rfl
                 rotate_left
                 ·simp only [Act.put, List.setIfInBounds_toArray, List.set_cons_zero, List.set_cons_succ, i64_w, i32_w]
                  rfl
                 refine pure_ (i := 46) (N := some 159) (v := ?_) (a' := ?_) (cellarerlaw07_PagerSizes.bs 50 140737488355327) rfl rfl (any_of HT_.out (by kernel_rfl)) (fun _ _ _ h => h) (Or.inl ⟨by rfl, ?_⟩) ?_ ?_
                 rotate_left
                 ·intro w'
                  go_simp
                  with_reducible rfl
                 rotate_left
                 ·simp only [Act.put, List.setIfInBounds_toArray, List.set_cons_zero, List.set_cons_succ, i64_w, i32_w]
                  rfl
                 refine one_ (i := 47) (N := some 160) (cellarerlaw07_PagerSizes.bs 50 281474976710655) rfl rfl (one_of HT_.out (by kernel_rfl)) (by decide) (fun K hK => ?_)
                 refine goes_ Try.func14 (by kernel_rfl) rfl #[] (by rfl) rfl rfl (by (try simp only [List.map_toArray, List.map_cons, List.map_nil]); first | done | rfl | (simp only [List.length_drop, List.length_take]; rfl)) ?_
                 with_reducible refine (cellarerlaw07_awake.calls  t412 _ A91.out).mono ?_
                 rintro e w99 ⟨rfl, hb⟩
                 refine ⟨_, rfl, ?_⟩
                 have n0_ := Aside0.mk (Kd.S_below (by (with_reducible repeat (first | apply Kd.S_alloc | apply Kd.S_drewN | apply Kd.S_drew)); exact HO_363000.out) hb)
                 have n1_ := Aside0.mk (Kd.R_below (by (with_reducible repeat (first | apply Kd.R_alloc | apply Kd.R_drewN | apply Kd.R_drew)); exact HO_381000.out) hb)
                 have n2_ := Aside0.mk (Kd.R_below (by (with_reducible repeat (first | apply Kd.R_alloc | apply Kd.R_drewN | apply Kd.R_drew)); exact HO_381001.out) hb)
                 have n3_ := Aside0.mk (Kd.R_below (by (with_reducible repeat (first | apply Kd.R_alloc | apply Kd.R_drewN | apply Kd.R_drew)); exact HO_391000.out) hb)
                 have n4_ := Aside0.mk (Kd.R_below (by (with_reducible repeat (first | apply Kd.R_alloc | apply Kd.R_drewN | apply Kd.R_drew)); exact HO_391001.out) hb)
                 have n5_ := Aside0.mk (Kd.R_below (by (with_reducible repeat (first | apply Kd.R_alloc | apply Kd.R_drewN | apply Kd.R_drew)); exact HO_401000.out) hb)
                 have n6_ := Aside0.mk (Kd.R_below (by (with_reducible repeat (first | apply Kd.R_alloc | apply Kd.R_drewN | apply Kd.R_drew)); exact HO_401001.out) hb)
                 have n7_ := Aside0.mk (blk_below (g := gb362) (o := .cells #[.slice Ao14 t363.length co14, .string t366, .string t367, .string t368, .int .u64 t369, .int .i64 t370] 25 (0, 0)) (by (with_reducible repeat (first | refine blk_drewN ?_ _ | refine blk_drew ?_ | refine blk_alloc ?_ _)); exact BK362.out) hb)
                 have n8_ := Aside0.mk (blk_below (g := gb380) (o := .cells #[.slice Ao18 t371.length co18, .slice Ao21 t374.length co21, .bool t377, .string t378] 29 (0, 0)) (by (with_reducible repeat (first | refine blk_drewN ?_ _ | refine blk_drew ?_ | refine blk_alloc ?_ _)); exact BK380.out) hb)
                 have n9_ := Aside0.mk (blk_below (g := gb390) (o := .cells #[.slice Ao25 t381.length co25, .slice Ao29 t384.length co29, .bool t387, .string t388] 29 (0, 0)) (by (with_reducible repeat (first | refine blk_drewN ?_ _ | refine blk_drew ?_ | refine blk_alloc ?_ _)); exact BK390.out) hb)
                 have n10_ := Aside0.mk (blk_below (g := gb400) (o := .cells #[.slice Ao33 t391.length co33, .slice Ao38 t394.length co38, .bool t397, .string t398] 29 (0, 0)) (by (with_reducible repeat (first | refine blk_drewN ?_ _ | refine blk_drew ?_ | refine blk_alloc ?_ _)); exact BK400.out) hb)
                 have n11_ : True := trivial
                 have n12_ : True := trivial
                 have n13_ := Aside0.mk (below_step (by repeat (first | (with_reducible first | exact HB.out | apply below_alloc | apply pw_below_drewN | apply below_drew1 | refine below_set ?_ GE362.out | refine below_set ?_ GE380.out | refine below_set ?_ GE390.out | refine below_set ?_ GE400.out) | exact HB.out)) hb)
                 clear HO_363000
                 clear HO_381000
                 clear HO_381001
                 clear HO_391000
                 clear HO_391001
                 clear HO_401000
                 clear HO_401001
                 clear BK362
                 clear BK380
                 clear BK390
                 clear BK400
                 clear HR405
                 clear HR410
                 clear HB
                 have HO_363000 := n0_
                 have HO_381000 := n1_
                 have HO_381001 := n2_
                 have HO_391000 := n3_
                 have HO_391001 := n4_
                 have HO_401000 := n5_
                 have HO_401001 := n6_
                 have BK362 := n7_
                 have BK380 := n8_
                 have BK390 := n9_
                 have BK400 := n10_
                 have HR405 := n11_
                 have HR410 := n12_
                 have HB := n13_
                 clear n0_ n1_ n2_ n3_ n4_ n5_ n6_ n7_ n8_ n9_ n10_ n11_ n12_ n13_
                 (try clear hb)
                 (try clear hb2)
                 (try clear hk)
                 (try clear hi)
                 refine hK.out _ _ ⟨(blk_cell BK380.out 0).trans rfl, (blk_cell BK380.out 1).trans rfl, (blk_cell BK380.out 2).trans rfl, (blk_cell BK380.out 3).trans rfl, (blk_cell BK390.out 0).trans rfl, (blk_cell BK390.out 1).trans rfl, (blk_cell BK390.out 2).trans rfl, (blk_cell BK390.out 3).trans rfl, (blk_cell BK400.out 0).trans rfl, (blk_cell BK400.out 1).trans rfl, (blk_cell BK400.out 2).trans rfl, (blk_cell BK400.out 3).trans rfl⟩ (fun hHeld => ?_)
                 clear hK K
                 refine norm_ (a' := ?_) ?_ ?_
                 rotate_left
                 ·show Act.put _ (some 160) _ = _
                  simp only [Act.put, List.setIfInBounds_toArray, List.set_cons_zero, List.set_cons_succ, i64_w, i32_w]
                  rfl
                 refine pure_ (i := 48) (N := some 161) (v := ?_) (a' := ?_) (cellarerlaw07_PagerSizes.bs 50 562949953421311) rfl rfl (any_of HT_.out (by kernel_rfl)) (fun _ _ _ h => h) (Or.inl ⟨by rfl, ?_⟩) ?_ ?_
                 rotate_left
                 ·intro w'
                  go_simp
                  with_reducible rfl
                 rotate_left
                 ·simp only [Act.put, List.setIfInBounds_toArray, List.set_cons_zero, List.set_cons_succ, i64_w, i32_w]
                  rfl
                 refine pure_ (i := 49) (N := some 6) (v := ?_) (a' := ?_) (cellarerlaw07_PagerSizes.bs 50 1125899906842623) rfl rfl (any_of HT_.out (by kernel_rfl)) (fun _ _ _ h => h) (Or.inl ⟨by rfl, ?_⟩) ?_ ?_
                 rotate_left
                 ·intro w'
                  go_simp
                  with_reducible rfl
                 rotate_left
                 ·simp only [Act.put, List.setIfInBounds_toArray, List.set_cons_zero, List.set_cons_succ, i64_w, i32_w]
                  rfl
                 refine done_ (done_of HT_.out (by kernel_rfl)) ?_
                 try go_wp2
                 go_ret
                 exact ⟨by first | rfl | (simp [errW_none, errW_some] <;> rfl) | (simp only [← hji5, ← hji7]; first | rfl | (simp [errW_none, errW_some] <;> rfl)) | (simp [*, errW_none, errW_some] <;> rfl), by repeat (first | (with_reducible first | exact HB.out | apply below_alloc | apply pw_below_drewN | apply below_drew1 | refine below_set ?_ GE362.out | refine below_set ?_ GE380.out | refine below_set ?_ GE390.out | refine below_set ?_ GE400.out) | exact HB.out)⟩
                ·rw [if_neg c90] at H
                 have c90b0 : (t397 == true) = false := by simpa using c90
                 (try (have c90b1 : decide (t397 = true) = false := by simpa using c90))
                 (try (have c90b2 : (t397 == true) = false := by simpa using c90))
                 (try (have c90b3 : ¬ (t397 = true) := by simpa using c90))
                 clear c90
                 obtain rfl := Option.some.inj H
                 exact absurd HTR_.out (by decide)
               ·rw [if_neg c89] at H
                have c89b0 : decide (0 < (wrap64 ((t381.length : Int) + (t384.length : Int)))) = false := decide_eq_false c89
                clear c89
                by_cases c107 : (t397 == t387) = true
                ·rw [if_pos c107] at H
                 have c107b0 : (t397 == t387) = true := c107
                 (try (have c107b1 : decide (t397 = t387) = true := by simpa using c107))
                 (try (have c107b2 : (t397 == t387) = true := by simpa using c107))
                 clear c107
                 replace H := Option.bind_eq_some_iff.mp H
                 obtain ⟨t413, A1080, H⟩ := H
                 replace H : (some t413) = some r := H
                 have A108 := Aside0.mk A1080
                 clear A1080
                 obtain rfl := Option.some.inj H
                 have hnb109 := NB390_362.out
                 have hnc109 := NB362_390.out
                 have hnb110 := NB390_380.out
                 have hnc110 := NB380_390.out
                 have hnb111 := NB390_400.out
                 have hnc111 := NB400_390.out
                 have hcz112_0 : wc.cell? ⟨gb390, 0, none⟩ = some (.slice Ao25 t381.length co25) := (blk_cell BK390.out 0).trans rfl
                 have hcz112_1 : wc.cell? ⟨gb390, 1, none⟩ = some (.slice Ao29 t384.length co29) := (blk_cell BK390.out 1).trans rfl
                 have hcz112_2 : wc.cell? ⟨gb390, 2, none⟩ = some (.bool t387) := (blk_cell BK390.out 2).trans rfl
                 have hcz112_3 : wc.cell? ⟨gb390, 3, none⟩ = some (.string t388) := (blk_cell BK390.out 3).trans rfl
                 have hfz112_0 := blk_frozen BK390.out 0
                 have hfz112_1 := blk_frozen BK390.out 1
                 have hfz112_2 := blk_frozen BK390.out 2
                 have hfz112_3 := blk_frozen BK390.out 3
                 try go_wp2
                 have n0_ := Aside0.mk (Kd.S_drew HO_363000.out)
                 have n1_ := Aside0.mk (Kd.R_drew HO_381000.out)
                 have n2_ := Aside0.mk (Kd.R_drew HO_381001.out)
                 have n3_ := Aside0.mk (Kd.R_drew HO_391000.out)
                 have n4_ := Aside0.mk (Kd.R_drew HO_391001.out)
                 have n5_ := Aside0.mk (Kd.R_drew HO_401000.out)
                 have n6_ := Aside0.mk (Kd.R_drew HO_401001.out)
                 have n7_ := Aside0.mk (blk_drew BK362.out)
                 have n8_ := Aside0.mk (blk_drew BK380.out)
                 have n9_ := Aside0.mk (blk_drew BK390.out)
                 have n10_ := Aside0.mk (blk_drew BK400.out)
                 have n11_ := Aside0.mk (below_drew1 HB.out)
                 clear HO_363000
                 clear HO_381000
                 clear HO_381001
                 clear HO_391000
                 clear HO_391001
                 clear HO_401000
                 clear HO_401001
                 clear BK362
                 clear BK380
                 clear BK390
                 clear BK400
                 clear HB
                 have HO_363000 := n0_
                 have HO_381000 := n1_
                 have HO_381001 := n2_
                 have HO_391000 := n3_
                 have HO_391001 := n4_
                 have HO_401000 := n5_
                 have HO_401001 := n6_
                 have BK362 := n7_
                 have BK380 := n8_
                 have BK390 := n9_
                 have BK400 := n10_
                 have HB := n11_
                 clear n0_ n1_ n2_ n3_ n4_ n5_ n6_ n7_ n8_ n9_ n10_ n11_
                 have q114 : ((t371.length : Int) : Int) ≤ ((t381.length : Int) : Int) := of_decide_eq_true (by first | (with_reducible assumption) | assumption)
                 obtain ⟨i0114, hi0114, _, hsz114, _⟩ := info_parts info9
                 have hroom114 : t381.length ≤ co25 := (Kd.R_reads' HO_391000.out).2.1
                 have hC114 : Kd.C Kd.string _ Ao25 t381.length t381 := (Kd.R_reads' HO_391000.out).2.2
                 have hcut114 := cut_to (P := Try.prog) 27 9 .i64 Try.underlying27 hi0114 Ao25 t381.length co25 (t371.length : Int) (of_decide_eq_true (by first | (with_reducible assumption) | assumption)) q114 hroom114
                 have hr114 := Kd.C_take (m := ((t371.length : Int) : Int).toNat) hC114 (by omega)
                 have hy114 : y402.length = ((t371.length : Int) : Int).toNat := (by rw [Ny402.out, List.length_take]; omega)
                 rw [← Ny402.out] at hr114
                 rw [← hy114] at hcut114
                 have HR405 := Aside0.mk hr114
                 have HC405 := Aside0.mk (show y402.length ≤ co25 from by omega)
                 clear hr114 hC114 hroom114 hi0114 hsz114
                 have KY114 := Aside0.mk hy114
                 clear hy114
                 have KL114 := Aside0.mk (show ((t371.length : Int) : Int).toNat ≤ t381.length from by omega)
                 replace q114 := eq_true q114
                 refine start_ (n := 50) (S := fun w' => w'.cell? ⟨gb380, 0, none⟩ = some (.slice Ao18 t371.length co18) ∧ w'.cell? ⟨gb380, 1, none⟩ = some (.slice Ao21 t374.length co21) ∧ w'.cell? ⟨gb380, 2, none⟩ = some (.bool t377) ∧ w'.cell? ⟨gb380, 3, none⟩ = some (.string t378) ∧ w'.cell? ⟨gb390, 0, none⟩ = some (.slice Ao25 t381.length co25) ∧ w'.cell? ⟨gb390, 1, none⟩ = some (.slice Ao29 t384.length co29) ∧ w'.cell? ⟨gb390, 2, none⟩ = some (.bool t387) ∧ w'.cell? ⟨gb390, 3, none⟩ = some (.string t388) ∧ w'.cell? ⟨gb400, 0, none⟩ = some (.slice Ao33 t391.length co33) ∧ w'.cell? ⟨gb400, 1, none⟩ = some (.slice Ao38 t394.length co38) ∧ w'.cell? ⟨gb400, 2, none⟩ = some (.bool t397) ∧ w'.cell? ⟨gb400, 3, none⟩ = some (.string t398)) (ds := []) #[false, false, false, false, false, false, false, false, false, false, false, false, false, false, false, false, false, false, false, false, false, false, false, false, false, false, false, false, false, false, false, false, false, false, false, false, false, false, false, false, false, false, false, false, false, false, false, false, false, false] (by kernel_rfl) rfl rfl ⟨(blk_cell BK380.out 0).trans rfl, (blk_cell BK380.out 1).trans rfl, (blk_cell BK380.out 2).trans rfl, (blk_cell BK380.out 3).trans rfl, (blk_cell BK390.out 0).trans rfl, (blk_cell BK390.out 1).trans rfl, (blk_cell BK390.out 2).trans rfl, (blk_cell BK390.out 3).trans rfl, (blk_cell BK400.out 0).trans rfl, (blk_cell BK400.out 1).trans rfl, (blk_cell BK400.out 2).trans rfl, (blk_cell BK400.out 3).trans rfl⟩ (fun hHeld => ?_); refine with_tabW cellarerlaw07_PagerSizes.tab10 cellarerlaw07_PagerSizes.bits10 (fun HT_ HW_ => ?_)
                 generalize wc.drew = w113 at HO_363000 HO_381000 HO_381001 HO_391000 HO_391001 HO_401000 HO_401001 BK362 BK380 BK390 BK400 HB HR405 hHeld ⊢
                 refine pure_ (i := 0) (N := some 113) (v := ?_) (a' := ?_) (cellarerlaw07_PagerSizes.bs 50 1) rfl rfl (any_of HT_.out (by kernel_rfl)) (fun _ _ _ h => h) (Or.inl ⟨by rfl, ?_⟩) ?_ ?_
                 rotate_left
                 ·intro w'
                  go_simp
                  with_reducible rfl
                 rotate_left
                 ·simp only [Act.put, List.setIfInBounds_toArray, List.set_cons_zero, List.set_cons_succ, i64_w, i32_w]
                  rfl
                 refine pure_ (i := 2) (N := some 115) (v := ?_) (a' := ?_) (cellarerlaw07_PagerSizes.bs 50 5) rfl rfl (any_of HT_.out (by kernel_rfl)) (fun _ _ _ h => h) (Or.inl ⟨by rfl, ?_⟩) ?_ ?_
                 rotate_left
                 ·intro w'
                  go_simp
                  with_reducible rfl
                 rotate_left
                 ·simp only [Act.put, List.setIfInBounds_toArray, List.set_cons_zero, List.set_cons_succ, i64_w, i32_w]
                  rfl
                 refine pure_ (i := 4) (N := some 117) (v := ?_) (a' := ?_) (cellarerlaw07_PagerSizes.bs 50 21) rfl rfl (any_of HT_.out (by kernel_rfl)) (fun _ _ _ h => h) (Or.inl ⟨by rfl, ?_⟩) ?_ ?_
                 rotate_left
                 ·intro w'
                  go_simp
                  with_reducible rfl
                 rotate_left
                 ·simp only [Act.put, List.setIfInBounds_toArray, List.set_cons_zero, List.set_cons_succ, i64_w, i32_w]
                  rfl
                 refine take_ (i := 1) (N := some 114) (v := ?_) (a' := ?_) (cellarerlaw07_PagerSizes.bs 50 23) rfl rfl (take_ofW HT_.out HW_.out (by kernel_rfl)) (fun _ _ _ h => h) (Or.inl ⟨by rfl, ?_⟩) hHeld ?_ ?_
                 rotate_left
                 ·rintro w' ⟨s0, s1, s2, s3, s4, s5, s6, s7, s8, s9, s10, s11⟩
                  go_simp
                  with_reducible rfl
                 rotate_left
                 ·simp only [Act.put, List.setIfInBounds_toArray, List.set_cons_zero, List.set_cons_succ, i64_w, i32_w]
                  rfl
                 refine take_ (i := 3) (N := some 116) (v := ?_) (a' := ?_) (cellarerlaw07_PagerSizes.bs 50 31) rfl rfl (take_ofW HT_.out HW_.out (by kernel_rfl)) (fun _ _ _ h => h) (Or.inl ⟨by rfl, ?_⟩) hHeld ?_ ?_
                 rotate_left
                 ·rintro w' ⟨s0, s1, s2, s3, s4, s5, s6, s7, s8, s9, s10, s11⟩
                  go_simp
                  with_reducible rfl
                 rotate_left
                 ·simp only [Act.put, List.setIfInBounds_toArray, List.set_cons_zero, List.set_cons_succ, i64_w, i32_w]
                  rfl
                 refine take_ (i := 5) (N := some 118) (v := ?_) (a' := ?_) (cellarerlaw07_PagerSizes.bs 50 63) rfl rfl (take_ofW HT_.out HW_.out (by kernel_rfl)) (fun _ _ _ h => h) (Or.inl ⟨by rfl, ?_⟩) hHeld ?_ ?_
                 rotate_left
                 ·rintro w' ⟨s0, s1, s2, s3, s4, s5, s6, s7, s8, s9, s10, s11⟩
                  go_simp
                  with_reducible rfl
                 rotate_left
                 ·simp only [Act.put, List.setIfInBounds_toArray, List.set_cons_zero, List.set_cons_succ, i64_w, i32_w]
                  rfl
                 refine pure_ (i := 6) (N := some 119) (v := ?_) (a' := ?_) (cellarerlaw07_PagerSizes.bs 50 127) rfl rfl (any_of HT_.out (by kernel_rfl)) (fun _ _ _ h => h) (Or.inl ⟨by rfl, ?_⟩) ?_ ?_
                 rotate_left
                 ·intro w'
                  go_simp
                  with_reducible rfl
                 rotate_left
                 ·simp only [Act.put, List.setIfInBounds_toArray, List.set_cons_zero, List.set_cons_succ, i64_w, i32_w]
                  rfl
                 refine pure_ (i := 7) (N := some 120) (v := ?_) (a' := ?_) (cellarerlaw07_PagerSizes.bs 50 255) rfl rfl (any_of HT_.out (by kernel_rfl)) (fun _ _ _ h => h) (Or.inl ⟨by rfl, ?_⟩) ?_ ?_
                 rotate_left
                 ·intro w'
                  go_simp
                  with_reducible rfl
                 rotate_left
                 ·simp only [Act.put, List.setIfInBounds_toArray, List.set_cons_zero, List.set_cons_succ, i64_w, i32_w]
                  rfl
                 refine one_ (i := 8) (N := some 121) (cellarerlaw07_PagerSizes.bs 50 511) rfl rfl (one_of HT_.out (by kernel_rfl)) (by decide) (fun K hK => ?_)
                 refine goes_ Try.func15 (by kernel_rfl) rfl #[.slice Ao18 t371.length co18, .slice Ao25 y402.length co25] (by rfl) rfl rfl (by (try simp only [List.map_toArray, List.map_cons, List.map_nil]); first | done | rfl | (simp only [List.length_drop, List.length_take]; rfl)) ?_
                 with_reducible refine (cellarerref02_Same.calls kj45 _ _ t371 _ _ y402 true _ ?side1 ?side2 ?side3 ?side4 A81.out).mono ?_
                 (case side1 => repeat (first | exact (Kd.R_reads' HO_381000.out).2.2 | (with_reducible refine Kd.C_alloc ?_ _) | (with_reducible refine Kd.C_drewN ?_ _) | (with_reducible refine Kd.C_drew ?_)))
                 (case side2 => exact (Kd.R_reads' HO_381000.out).2.1)
                 (case side3 => repeat (first | exact (by repeat (first | (with_reducible exact HR405.out) | (with_reducible refine Kd.C_alloc ?_ _) | (with_reducible refine Kd.C_drewN ?_ _) | (with_reducible refine Kd.C_drew ?_) | exact HR405.out)) | (with_reducible refine Kd.C_alloc ?_ _) | (with_reducible refine Kd.C_drewN ?_ _) | (with_reducible refine Kd.C_drew ?_)))
                 (case side4 => exact HC405.out)
                 rintro e w' ⟨rfl, ⟨nd, rfl⟩⟩
                 refine ⟨_, rfl, ?_⟩
                 have q115 : ((t374.length : Int) : Int) ≤ ((t384.length : Int) : Int) := of_decide_eq_true (by first | (with_reducible assumption) | assumption)
                 obtain ⟨i0115, hi0115, _, hsz115, _⟩ := info_parts info9
                 have hroom115 : t384.length ≤ co29 := (Kd.R_reads' HO_391001.out).2.1
                 have hC115 : Kd.C Kd.string _ Ao29 t384.length t384 := (Kd.R_reads' HO_391001.out).2.2
                 have hcut115 := cut_to (P := Try.prog) 27 9 .i64 Try.underlying27 hi0115 Ao29 t384.length co29 (t374.length : Int) (of_decide_eq_true (by first | (with_reducible assumption) | assumption)) q115 hroom115
                 have hr115 := Kd.C_take (m := ((t374.length : Int) : Int).toNat) hC115 (by omega)
                 have hy115 : y407.length = ((t374.length : Int) : Int).toNat := (by rw [Ny407.out, List.length_take]; omega)
                 rw [← Ny407.out] at hr115
                 rw [← hy115] at hcut115
                 have HR410 := Aside0.mk hr115
                 have HC410 := Aside0.mk (show y407.length ≤ co29 from by omega)
                 clear hr115 hC115 hroom115 hi0115 hsz115
                 have KY115 := Aside0.mk hy115
                 clear hy115
                 have KL115 := Aside0.mk (show ((t374.length : Int) : Int).toNat ≤ t384.length from by omega)
                 replace q115 := eq_true q115
                 refine hK.out _ _ ⟨(blk_cell BK380.out 0).trans rfl, (blk_cell BK380.out 1).trans rfl, (blk_cell BK380.out 2).trans rfl, (blk_cell BK380.out 3).trans rfl, (blk_cell BK390.out 0).trans rfl, (blk_cell BK390.out 1).trans rfl, (blk_cell BK390.out 2).trans rfl, (blk_cell BK390.out 3).trans rfl, (blk_cell BK400.out 0).trans rfl, (blk_cell BK400.out 1).trans rfl, (blk_cell BK400.out 2).trans rfl, (blk_cell BK400.out 3).trans rfl⟩ (fun hHeld => ?_)
                 clear hK K
                 refine norm_ (a' := ?_) ?_ ?_
                 rotate_left
                 ·show Act.put _ (some 121) _ = _
                  simp only [Act.put, List.setIfInBounds_toArray, List.set_cons_zero, List.set_cons_succ, i64_w, i32_w]
                  rfl
                 refine pure_ (i := 9) (N := some 122) (v := ?_) (a' := ?_) (cellarerlaw07_PagerSizes.bs 50 1023) rfl rfl (any_of HT_.out (by kernel_rfl)) (fun _ _ _ h => h) (Or.inl ⟨by rfl, ?_⟩) ?_ ?_
                 rotate_left
                 ·intro w'
                  go_simp
                  with_reducible rfl
                 rotate_left
                 ·simp only [Act.put, List.setIfInBounds_toArray, List.set_cons_zero, List.set_cons_succ, i64_w, i32_w]
                  rfl
                 refine pure_ (i := 10) (N := some 123) (v := ?_) (a' := ?_) (cellarerlaw07_PagerSizes.bs 50 2047) rfl rfl (any_of HT_.out (by kernel_rfl)) (fun _ _ _ h => h) (Or.inl ⟨by rfl, ?_⟩) ?_ ?_
                 rotate_left
                 ·intro w'
                  go_simp
                  with_reducible rfl
                 rotate_left
                 ·simp only [Act.put, List.setIfInBounds_toArray, List.set_cons_zero, List.set_cons_succ, i64_w, i32_w]
                  rfl
                 refine pure_ (i := 12) (N := some 125) (v := ?_) (a' := ?_) (cellarerlaw07_PagerSizes.bs 50 6143) rfl rfl (any_of HT_.out (by kernel_rfl)) (fun _ _ _ h => h) (Or.inl ⟨by rfl, ?_⟩) ?_ ?_
                 rotate_left
                 ·intro w'
                  go_simp
                  with_reducible rfl
                 rotate_left
                 ·simp only [Act.put, List.setIfInBounds_toArray, List.set_cons_zero, List.set_cons_succ, i64_w, i32_w]
                  rfl
                 refine pure_ (i := 14) (N := some 127) (v := ?_) (a' := ?_) (cellarerlaw07_PagerSizes.bs 50 22527) rfl rfl (any_of HT_.out (by kernel_rfl)) (fun _ _ _ h => h) (Or.inl ⟨by rfl, ?_⟩) ?_ ?_
                 rotate_left
                 ·intro w'
                  go_simp
                  with_reducible rfl
                 rotate_left
                 ·simp only [Act.put, List.setIfInBounds_toArray, List.set_cons_zero, List.set_cons_succ, i64_w, i32_w]
                  rfl
                 refine take_ (i := 11) (N := some 124) (v := ?_) (a' := ?_) (cellarerlaw07_PagerSizes.bs 50 24575) rfl rfl (take_ofW HT_.out HW_.out (by kernel_rfl)) (fun _ _ _ h => h) (Or.inl ⟨by rfl, ?_⟩) hHeld ?_ ?_
                 rotate_left
                 ·rintro w' ⟨s0, s1, s2, s3, s4, s5, s6, s7, s8, s9, s10, s11⟩
                  go_simp
                  with_reducible rfl
                 rotate_left
                 ·simp only [Act.put, List.setIfInBounds_toArray, List.set_cons_zero, List.set_cons_succ, i64_w, i32_w]
                  rfl
                 refine take_ (i := 13) (N := some 126) (v := ?_) (a' := ?_) (cellarerlaw07_PagerSizes.bs 50 32767) rfl rfl (take_ofW HT_.out HW_.out (by kernel_rfl)) (fun _ _ _ h => h) (Or.inl ⟨by rfl, ?_⟩) hHeld ?_ ?_
                 rotate_left
                 ·rintro w' ⟨s0, s1, s2, s3, s4, s5, s6, s7, s8, s9, s10, s11⟩
                  go_simp
                  with_reducible rfl
                 rotate_left
                 ·simp only [Act.put, List.setIfInBounds_toArray, List.set_cons_zero, List.set_cons_succ, i64_w, i32_w]
                  rfl
                 refine take_ (i := 15) (N := some 128) (v := ?_) (a' := ?_) (cellarerlaw07_PagerSizes.bs 50 65535) rfl rfl (take_ofW HT_.out HW_.out (by kernel_rfl)) (fun _ _ _ h => h) (Or.inl ⟨by rfl, ?_⟩) hHeld ?_ ?_
                 rotate_left
                 ·rintro w' ⟨s0, s1, s2, s3, s4, s5, s6, s7, s8, s9, s10, s11⟩
                  go_simp
                  with_reducible rfl
                 rotate_left
                 ·simp only [Act.put, List.setIfInBounds_toArray, List.set_cons_zero, List.set_cons_succ, i64_w, i32_w]
                  rfl
                 refine pure_ (i := 16) (N := some 129) (v := ?_) (a' := ?_) (cellarerlaw07_PagerSizes.bs 50 131071) rfl rfl (any_of HT_.out (by kernel_rfl)) (fun _ _ _ h => h) (Or.inl ⟨by rfl, ?_⟩) ?_ ?_
                 rotate_left
                 ·intro w'
                  go_simp
                  with_reducible rfl
                 rotate_left
                 ·simp only [Act.put, List.setIfInBounds_toArray, List.set_cons_zero, List.set_cons_succ, i64_w, i32_w]
                  rfl
                 refine pure_ (i := 17) (N := some 130) (v := ?_) (a' := ?_) (cellarerlaw07_PagerSizes.bs 50 262143) rfl rfl (any_of HT_.out (by kernel_rfl)) (fun _ _ _ h => h) (Or.inl ⟨by rfl, ?_⟩) ?_ ?_
                 rotate_left
                 ·intro w'
                  go_simp
                  with_reducible rfl
                 rotate_left
                 ·simp only [Act.put, List.setIfInBounds_toArray, List.set_cons_zero, List.set_cons_succ, i64_w, i32_w]
                  rfl
                 refine one_ (i := 18) (N := some 131) (cellarerlaw07_PagerSizes.bs 50 524287) rfl rfl (one_of HT_.out (by kernel_rfl)) (by decide) (fun K hK => ?_)
                 refine goes_ Try.func15 (by kernel_rfl) rfl #[.slice Ao21 t374.length co21, .slice Ao29 y407.length co29] (by rfl) rfl rfl (by (try simp only [List.map_toArray, List.map_cons, List.map_nil]); first | done | rfl | (simp only [List.length_drop, List.length_take]; rfl)) ?_
                 with_reducible refine (cellarerref02_Same.calls kj45 _ _ t374 _ _ y407 true _ ?side1 ?side2 ?side3 ?side4 A85.out).mono ?_
                 (case side1 => repeat (first | exact (Kd.R_reads' HO_381001.out).2.2 | (with_reducible refine Kd.C_alloc ?_ _) | (with_reducible refine Kd.C_drewN ?_ _) | (with_reducible refine Kd.C_drew ?_)))
                 (case side2 => exact (Kd.R_reads' HO_381001.out).2.1)
                 (case side3 => repeat (first | exact (by repeat (first | (with_reducible exact HR410.out) | (with_reducible refine Kd.C_alloc ?_ _) | (with_reducible refine Kd.C_drewN ?_ _) | (with_reducible refine Kd.C_drew ?_) | exact HR410.out)) | (with_reducible refine Kd.C_alloc ?_ _) | (with_reducible refine Kd.C_drewN ?_ _) | (with_reducible refine Kd.C_drew ?_)))
                 (case side4 => exact HC410.out)
                 rintro e w' ⟨rfl, ⟨nd, rfl⟩⟩
                 refine ⟨_, rfl, ?_⟩
                 refine hK.out _ _ ⟨(blk_cell BK380.out 0).trans rfl, (blk_cell BK380.out 1).trans rfl, (blk_cell BK380.out 2).trans rfl, (blk_cell BK380.out 3).trans rfl, (blk_cell BK390.out 0).trans rfl, (blk_cell BK390.out 1).trans rfl, (blk_cell BK390.out 2).trans rfl, (blk_cell BK390.out 3).trans rfl, (blk_cell BK400.out 0).trans rfl, (blk_cell BK400.out 1).trans rfl, (blk_cell BK400.out 2).trans rfl, (blk_cell BK400.out 3).trans rfl⟩ (fun hHeld => ?_)
                 clear hK K
                 refine norm_ (a' := ?_) ?_ ?_
                 rotate_left
                 ·show Act.put _ (some 131) _ = _
                  simp only [Act.put, List.setIfInBounds_toArray, List.set_cons_zero, List.set_cons_succ, i64_w, i32_w]
                  rfl
                 refine pure_ (i := 19) (N := some 132) (v := ?_) (a' := ?_) (cellarerlaw07_PagerSizes.bs 50 1048575) rfl rfl (any_of HT_.out (by kernel_rfl)) (fun _ _ _ h => h) (Or.inl ⟨by rfl, ?_⟩) ?_ ?_
                 rotate_left
                 ·intro w'
                  go_simp
                  with_reducible rfl
                 rotate_left
                 ·simp only [Act.put, List.setIfInBounds_toArray, List.set_cons_zero, List.set_cons_succ, i64_w, i32_w]
                  rfl
                 refine pure_ (i := 20) (N := some 133) (v := ?_) (a' := ?_) (cellarerlaw07_PagerSizes.bs 50 2097151) rfl rfl (any_of HT_.out (by kernel_rfl)) (fun _ _ _ h => h) (Or.inl ⟨by rfl, ?_⟩) ?_ ?_
                 rotate_left
                 ·intro w'
                  go_simp
                  with_reducible rfl
                 rotate_left
                 ·simp only [Act.put, List.setIfInBounds_toArray, List.set_cons_zero, List.set_cons_succ, i64_w, i32_w]
                  rfl
                 refine pure_ (i := 21) (N := some 134) (v := ?_) (a' := ?_) (cellarerlaw07_PagerSizes.bs 50 4194303) rfl rfl (any_of HT_.out (by kernel_rfl)) (fun _ _ _ h => h) (Or.inl ⟨by rfl, ?_⟩) ?_ ?_
                 rotate_left
                 ·intro w'
                  go_simp
                  with_reducible rfl
                 rotate_left
                 ·simp only [Act.put, List.setIfInBounds_toArray, List.set_cons_zero, List.set_cons_succ, i64_w, i32_w]
                  rfl
                 refine pure_ (i := 24) (N := some 137) (v := ?_) (a' := ?_) (cellarerlaw07_PagerSizes.bs 50 20971519) rfl rfl (any_of HT_.out (by kernel_rfl)) (fun _ _ _ h => h) (Or.inl ⟨by rfl, ?_⟩) ?_ ?_
                 rotate_left
                 ·intro w'
                  go_simp
                  with_reducible rfl
                 rotate_left
                 ·simp only [Act.put, List.setIfInBounds_toArray, List.set_cons_zero, List.set_cons_succ, i64_w, i32_w]
                  rfl
                 refine take_ (i := 22) (N := some 135) (v := ?_) (a' := ?_) (cellarerlaw07_PagerSizes.bs 50 25165823) rfl rfl (take_ofW HT_.out HW_.out (by kernel_rfl)) (fun _ _ _ h => h) (Or.inl ⟨by rfl, ?_⟩) hHeld ?_ ?_
                 rotate_left
                 ·rintro w' ⟨s0, s1, s2, s3, s4, s5, s6, s7, s8, s9, s10, s11⟩
                  go_simp
                  with_reducible rfl
                 rotate_left
                 ·simp only [Act.put, List.setIfInBounds_toArray, List.set_cons_zero, List.set_cons_succ, i64_w, i32_w]
                  rfl
                 refine pure_ (i := 23) (N := some 136) (v := ?_) (a' := ?_) (cellarerlaw07_PagerSizes.bs 50 33554431) rfl rfl (any_of HT_.out (by kernel_rfl)) (fun _ _ _ h => h) (Or.inl ⟨by rfl, ?_⟩) ?_ ?_
                 rotate_left
                 ·intro w'
                  go_simp
                  with_reducible rfl
                 rotate_left
                 ·simp only [Act.put, List.setIfInBounds_toArray, List.set_cons_zero, List.set_cons_succ, i64_w, i32_w]
                  rfl
                 refine take_ (i := 25) (N := some 138) (v := ?_) (a' := ?_) (cellarerlaw07_PagerSizes.bs 50 67108863) rfl rfl (take_ofW HT_.out HW_.out (by kernel_rfl)) (fun _ _ _ h => h) (Or.inl ⟨by rfl, ?_⟩) hHeld ?_ ?_
                 rotate_left
                 ·rintro w' ⟨s0, s1, s2, s3, s4, s5, s6, s7, s8, s9, s10, s11⟩
                  go_simp
                  with_reducible rfl
                 rotate_left
                 ·simp only [Act.put, List.setIfInBounds_toArray, List.set_cons_zero, List.set_cons_succ, i64_w, i32_w]
                  rfl
                 refine pure_ (i := 26) (N := some 139) (v := ?_) (a' := ?_) (cellarerlaw07_PagerSizes.bs 50 134217727) rfl rfl (any_of HT_.out (by kernel_rfl)) (fun _ _ _ h => h) (Or.inl ⟨by rfl, ?_⟩) ?_ ?_
                 rotate_left
                 ·intro w'
                  go_simp
                  with_reducible rfl
                 rotate_left
                 ·simp only [Act.put, List.setIfInBounds_toArray, List.set_cons_zero, List.set_cons_succ, i64_w, i32_w]
                  rfl
                 refine pure_ (i := 27) (N := some 140) (v := ?_) (a' := ?_) (cellarerlaw07_PagerSizes.bs 50 268435455) rfl rfl (any_of HT_.out (by kernel_rfl)) (fun _ _ _ h => h) (Or.inl ⟨by rfl, ?_⟩) ?_ ?_
                 rotate_left
                 ·intro w'
                  go_simp
                  with_reducible rfl
                 rotate_left
                 ·simp only [Act.put, List.setIfInBounds_toArray, List.set_cons_zero, List.set_cons_succ, i64_w, i32_w]
                  rfl
                 refine pure_ (i := 28) (N := some 141) (v := ?_) (a' := ?_) (cellarerlaw07_PagerSizes.bs 50 536870911) rfl rfl (any_of HT_.out (by kernel_rfl)) (fun _ _ _ h => h) (Or.inl ⟨by rfl, ?_⟩) ?_ ?_
                 rotate_left
                 ·intro w'
                  go_simp
                  with_reducible rfl
                 rotate_left
                 ·simp only [Act.put, List.setIfInBounds_toArray, List.set_cons_zero, List.set_cons_succ, i64_w, i32_w]
                  rfl
                 refine pure_ (i := 29) (N := some 142) (v := ?_) (a' := ?_) (cellarerlaw07_PagerSizes.bs 50 1073741823) rfl rfl (any_of HT_.out (by kernel_rfl)) (fun _ _ _ h => h) (Or.inl ⟨by rfl, ?_⟩) ?_ ?_
                 rotate_left
                 ·intro w'
                  go_simp
                  with_reducible rfl
                 rotate_left
                 ·simp only [Act.put, List.setIfInBounds_toArray, List.set_cons_zero, List.set_cons_succ, i64_w, i32_w]
                  rfl
                 refine pure_ (i := 30) (N := some 143) (v := ?_) (a' := ?_) (cellarerlaw07_PagerSizes.bs 50 2147483647) rfl rfl (any_of HT_.out (by kernel_rfl)) (fun _ _ _ h => h) (Or.inl ⟨by rfl, ?_⟩) ?_ ?_
                 rotate_left
                 ·intro w'
                  go_simp
                  with_reducible rfl
                 rotate_left
                 ·simp only [Act.put, List.setIfInBounds_toArray, List.set_cons_zero, List.set_cons_succ, i64_w, i32_w]
                  rfl
                 refine pure_ (i := 31) (N := some 144) (v := ?_) (a' := ?_) (cellarerlaw07_PagerSizes.bs 50 4294967295) rfl rfl (any_of HT_.out (by kernel_rfl)) (fun _ _ _ h => h) (Or.inl ⟨by rfl, ?_⟩) ?_ ?_
                 rotate_left
                 ·intro w'
                  go_simp
                  with_reducible rfl
                 rotate_left
                 ·simp only [Act.put, List.setIfInBounds_toArray, List.set_cons_zero, List.set_cons_succ, i64_w, i32_w]
                  rfl
                 refine take_ (i := 32) (N := some 145) (v := ?_) (a' := ?_) (cellarerlaw07_PagerSizes.bs 50 8589934591) rfl rfl (take_ofW HT_.out HW_.out (by kernel_rfl)) (fun _ _ _ h => h) (Or.inl ⟨by rfl, ?_⟩) hHeld ?_ ?_
                 rotate_left
                 ·rintro w' ⟨s0, s1, s2, s3, s4, s5, s6, s7, s8, s9, s10, s11⟩
                  go_simp
                  with_reducible rfl
                 rotate_left
                 ·simp only [Act.put, List.setIfInBounds_toArray, List.set_cons_zero, List.set_cons_succ, i64_w, i32_w]
                  rfl
                 refine pure_ (i := 33) (N := some 146) (v := ?_) (a' := ?_) (cellarerlaw07_PagerSizes.bs 50 17179869183) rfl rfl (any_of HT_.out (by kernel_rfl)) (fun _ _ _ h => h) (Or.inl ⟨by rfl, ?_⟩) ?_ ?_
                 rotate_left
                 ·intro w'
                  go_simp
                  with_reducible rfl
                 rotate_left
                 ·simp only [Act.put, List.setIfInBounds_toArray, List.set_cons_zero, List.set_cons_succ, i64_w, i32_w]
                  rfl
                 refine pure_ (i := 34) (N := some 147) (v := ?_) (a' := ?_) (cellarerlaw07_PagerSizes.bs 50 34359738367) rfl rfl (any_of HT_.out (by kernel_rfl)) (fun _ _ _ h => h) (Or.inl ⟨by rfl, ?_⟩) ?_ ?_
                 rotate_left
                 ·intro w'
                  go_simp
                  with_reducible rfl
                 rotate_left
                 ·simp only [Act.put, List.setIfInBounds_toArray, List.set_cons_zero, List.set_cons_succ, i64_w, i32_w]
                  rfl
                 refine pure_ (i := 35) (N := some 148) (v := ?_) (a' := ?_) (cellarerlaw07_PagerSizes.bs 50 68719476735) rfl rfl (any_of HT_.out (by kernel_rfl)) (fun _ _ _ h => h) (Or.inl ⟨by rfl, ?_⟩) ?_ ?_
                 rotate_left
                 ·intro w'
                  go_simp
                  with_reducible rfl
                 rotate_left
                 ·simp only [Act.put, List.setIfInBounds_toArray, List.set_cons_zero, List.set_cons_succ, i64_w, i32_w]
                  rfl
                 refine pure_ (i := 36) (N := some 149) (v := ?_) (a' := ?_) (cellarerlaw07_PagerSizes.bs 50 137438953471) rfl rfl (any_of HT_.out (by kernel_rfl)) (fun _ _ _ h => h) (Or.inl ⟨by rfl, ?_⟩) ?_ ?_
                 rotate_left
                 ·intro w'
                  go_simp
                  with_reducible rfl
                 rotate_left
                 ·simp only [Act.put, List.setIfInBounds_toArray, List.set_cons_zero, List.set_cons_succ, i64_w, i32_w]
                  rfl
                 refine pure_ (i := 38) (N := some 151) (v := ?_) (a' := ?_) (cellarerlaw07_PagerSizes.bs 50 412316860415) rfl rfl (any_of HT_.out (by kernel_rfl)) (fun _ _ _ h => h) (Or.inl ⟨by rfl, ?_⟩) ?_ ?_
                 rotate_left
                 ·intro w'
                  go_simp
                  with_reducible rfl
                 rotate_left
                 ·simp only [Act.put, List.setIfInBounds_toArray, List.set_cons_zero, List.set_cons_succ, i64_w, i32_w]
                  rfl
                 refine pure_ (i := 39) (N := some 152) (v := ?_) (a' := ?_) (cellarerlaw07_PagerSizes.bs 50 962072674303) rfl rfl (any_of HT_.out (by kernel_rfl)) (fun _ _ _ h => h) (Or.inl ⟨by rfl, ?_⟩) ?_ ?_
                 rotate_left
                 ·intro w'
                  go_simp
                  with_reducible rfl
                 rotate_left
                 ·simp only [Act.put, List.setIfInBounds_toArray, List.set_cons_zero, List.set_cons_succ, i64_w, i32_w]
                  rfl
                 refine pure_ (i := 40) (N := some 153) (v := ?_) (a' := ?_) (cellarerlaw07_PagerSizes.bs 50 2061584302079) rfl rfl (any_of HT_.out (by kernel_rfl)) (fun _ _ _ h => h) (Or.inl ⟨by rfl, ?_⟩) ?_ ?_
                 rotate_left
                 ·intro w'
                  go_simp
                  with_reducible rfl
                 rotate_left
                 ·simp only [Act.put, List.setIfInBounds_toArray, List.set_cons_zero, List.set_cons_succ, i64_w, i32_w]
                  rfl
                 refine pure_ (i := 41) (N := some 154) (v := ?_) (a' := ?_) (cellarerlaw07_PagerSizes.bs 50 4260607557631) rfl rfl (any_of HT_.out (by kernel_rfl)) (fun _ _ _ h => h) (Or.inl ⟨by rfl, ?_⟩) ?_ ?_
                 rotate_left
                 ·intro w'
                  go_simp
                  with_reducible rfl
                 rotate_left
                 ·simp only [Act.put, List.setIfInBounds_toArray, List.set_cons_zero, List.set_cons_succ, i64_w, i32_w]
                  rfl
                 refine take_ (i := 37) (N := some 150) (v := ?_) (a' := ?_) (cellarerlaw07_PagerSizes.bs 50 4398046511103) rfl rfl (take_ofW HT_.out HW_.out (by kernel_rfl)) (fun _ _ _ h => h) (Or.inl ⟨by rfl, ?_⟩) hHeld ?_ ?_
                 rotate_left
                 ·rintro w' ⟨s0, s1, s2, s3, s4, s5, s6, s7, s8, s9, s10, s11⟩
                  go_simp
                  with_reducible rfl
                 rotate_left
                 ·simp only [Act.put, List.setIfInBounds_toArray, List.set_cons_zero, List.set_cons_succ, i64_w, i32_w]
                  rfl
                 refine take_ (i := 42) (N := some 155) (v := ?_) (a' := ?_) (cellarerlaw07_PagerSizes.bs 50 8796093022207) rfl rfl (take_ofW HT_.out HW_.out (by kernel_rfl)) (fun _ _ _ h => h) (Or.inl ⟨by rfl, ?_⟩) hHeld ?_ ?_
                 rotate_left
                 ·rintro w' ⟨s0, s1, s2, s3, s4, s5, s6, s7, s8, s9, s10, s11⟩
                  go_simp
                  with_reducible rfl
                 rotate_left
                 ·simp only [Act.put, List.setIfInBounds_toArray, List.set_cons_zero, List.set_cons_succ, i64_w, i32_w]
                  rfl
                 refine pure_ (i := 43) (N := some 156) (v := ?_) (a' := ?_) (cellarerlaw07_PagerSizes.bs 50 17592186044415) rfl rfl (any_of HT_.out (by kernel_rfl)) (fun _ _ _ h => h) (Or.inl ⟨by rfl, ?_⟩) ?_ ?_
                 rotate_left
                 ·intro w'
                  go_simp
                  with_reducible rfl
                 rotate_left
                 ·simp only [Act.put, List.setIfInBounds_toArray, List.set_cons_zero, List.set_cons_succ, i64_w, i32_w]
                  rfl
                 refine pure_ (i := 44) (N := some 157) (v := ?_) (a' := ?_) (cellarerlaw07_PagerSizes.bs 50 35184372088831) rfl rfl (any_of HT_.out (by kernel_rfl)) (fun _ _ _ h => h) (Or.inl ⟨by rfl, ?_⟩) ?_ ?_
                 rotate_left
                 ·intro w'
                  go_simp
                  with_reducible rfl
                 rotate_left
                 ·simp only [Act.put, List.setIfInBounds_toArray, List.set_cons_zero, List.set_cons_succ, i64_w, i32_w]
                  rfl
                 refine pure_ (i := 45) (N := some 158) (v := ?_) (a' := ?_) (cellarerlaw07_PagerSizes.bs 50 70368744177663) rfl rfl (any_of HT_.out (by kernel_rfl)) (fun _ _ _ h => h) (Or.inl ⟨by rfl, ?_⟩) ?_ ?_
                 rotate_left
                 ·intro w'
                  go_simp
                  with_reducible rfl
                 rotate_left
                 ·simp only [Act.put, List.setIfInBounds_toArray, List.set_cons_zero, List.set_cons_succ, i64_w, i32_w]
                  rfl
                 refine pure_ (i := 46) (N := some 159) (v := ?_) (a' := ?_) (cellarerlaw07_PagerSizes.bs 50 140737488355327) rfl rfl (any_of HT_.out (by kernel_rfl)) (fun _ _ _ h => h) (Or.inl ⟨by rfl, ?_⟩) ?_ ?_
                 rotate_left
                 ·intro w'
                  go_simp
                  with_reducible rfl
                 rotate_left
                 ·simp only [Act.put, List.setIfInBounds_toArray, List.set_cons_zero, List.set_cons_succ, i64_w, i32_w]
                  rfl
                 refine one_ (i := 47) (N := some 160) (cellarerlaw07_PagerSizes.bs 50 281474976710655) rfl rfl (one_of HT_.out (by kernel_rfl)) (by decide) (fun K hK => ?_)
                 refine goes_ Try.func14 (by kernel_rfl) rfl #[] (by rfl) rfl rfl (by (try simp only [List.map_toArray, List.map_cons, List.map_nil]); first | done | rfl | (simp only [List.length_drop, List.length_take]; rfl)) ?_
                 with_reducible refine (cellarerlaw07_awake.calls  t413 _ A108.out).mono ?_
                 rintro e w116 ⟨rfl, hb⟩
                 refine ⟨_, rfl, ?_⟩
                 have n0_ := Aside0.mk (Kd.S_below (by (with_reducible repeat (first | apply Kd.S_alloc | apply Kd.S_drewN | apply Kd.S_drew)); exact HO_363000.out) hb)
                 have n1_ := Aside0.mk (Kd.R_below (by (with_reducible repeat (first | apply Kd.R_alloc | apply Kd.R_drewN | apply Kd.R_drew)); exact HO_381000.out) hb)
                 have n2_ := Aside0.mk (Kd.R_below (by (with_reducible repeat (first | apply Kd.R_alloc | apply Kd.R_drewN | apply Kd.R_drew)); exact HO_381001.out) hb)
                 have n3_ := Aside0.mk (Kd.R_below (by (with_reducible repeat (first | apply Kd.R_alloc | apply Kd.R_drewN | apply Kd.R_drew)); exact HO_391000.out) hb)
                 have n4_ := Aside0.mk (Kd.R_below (by (with_reducible repeat (first | apply Kd.R_alloc | apply Kd.R_drewN | apply Kd.R_drew)); exact HO_391001.out) hb)
                 have n5_ := Aside0.mk (Kd.R_below (by (with_reducible repeat (first | apply Kd.R_alloc | apply Kd.R_drewN | apply Kd.R_drew)); exact HO_401000.out) hb)
                 have n6_ := Aside0.mk (Kd.R_below (by (with_reducible repeat (first | apply Kd.R_alloc | apply Kd.R_drewN | apply Kd.R_drew)); exact HO_401001.out) hb)
                 have n7_ := Aside0.mk (blk_below (g := gb362) (o := .cells #[.slice Ao14 t363.length co14, .string t366, .string t367, .string t368, .int .u64 t369, .int .i64 t370] 25 (0, 0)) (by (with_reducible repeat (first | refine blk_drewN ?_ _ | refine blk_drew ?_ | refine blk_alloc ?_ _)); exact BK362.out) hb)
                 have n8_ := Aside0.mk (blk_below (g := gb380) (o := .cells #[.slice Ao18 t371.length co18, .slice Ao21 t374.length co21, .bool t377, .string t378] 29 (0, 0)) (by (with_reducible repeat (first | refine blk_drewN ?_ _ | refine blk_drew ?_ | refine blk_alloc ?_ _)); exact BK380.out) hb)
                 have n9_ := Aside0.mk (blk_below (g := gb390) (o := .cells #[.slice Ao25 t381.length co25, .slice Ao29 t384.length co29, .bool t387, .string t388] 29 (0, 0)) (by (with_reducible repeat (first | refine blk_drewN ?_ _ | refine blk_drew ?_ | refine blk_alloc ?_ _)); exact BK390.out) hb)
                 have n10_ := Aside0.mk (blk_below (g := gb400) (o := .cells #[.slice Ao33 t391.length co33, .slice Ao38 t394.length co38, .bool t397, .string t398] 29 (0, 0)) (by (with_reducible repeat (first | refine blk_drewN ?_ _ | refine blk_drew ?_ | refine blk_alloc ?_ _)); exact BK400.out) hb)
                 have n11_ : True := trivial
                 have n12_ : True := trivial
                 have n13_ := Aside0.mk (below_step (by repeat (first | (with_reducible first | exact HB.out | apply below_alloc | apply pw_below_drewN | apply below_drew1 | refine below_set ?_ GE362.out | refine below_set ?_ GE380.out | refine below_set ?_ GE390.out | refine below_set ?_ GE400.out) | exact HB.out)) hb)
                 clear HO_363000
                 clear HO_381000
                 clear HO_381001
                 clear HO_391000
                 clear HO_391001
                 clear HO_401000
                 clear HO_401001
                 clear BK362
                 clear BK380
                 clear BK390
                 clear BK400
                 clear HR405
                 clear HR410
                 clear HB
                 have HO_363000 := n0_
                 have HO_381000 := n1_
                 have HO_381001 := n2_
                 have HO_391000 := n3_
                 have HO_391001 := n4_
                 have HO_401000 := n5_
                 have HO_401001 := n6_
                 have BK362 := n7_
                 have BK380 := n8_
                 have BK390 := n9_
                 have BK400 := n10_
                 have HR405 := n11_
                 have HR410 := n12_
                 have HB := n13_
                 clear n0_ n1_ n2_ n3_ n4_ n5_ n6_ n7_ n8_ n9_ n10_ n11_ n12_ n13_
                 (try clear hb)
                 (try clear hb2)
                 (try clear hk)
                 (try clear hi)
                 refine hK.out _ _ ⟨(blk_cell BK380.out 0).trans rfl, (blk_cell BK380.out 1).trans rfl, (blk_cell BK380.out 2).trans rfl, (blk_cell BK380.out 3).trans rfl, (blk_cell BK390.out 0).trans rfl, (blk_cell BK390.out 1).trans rfl, (blk_cell BK390.out 2).trans rfl, (blk_cell BK390.out 3).trans rfl, (blk_cell BK400.out 0).trans rfl, (blk_cell BK400.out 1).trans rfl, (blk_cell BK400.out 2).trans rfl, (blk_cell BK400.out 3).trans rfl⟩ (fun hHeld => ?_)
                 clear hK K
                 refine norm_ (a' := ?_) ?_ ?_
                 rotate_left
                 ·show Act.put _ (some 160) _ = _
                  simp only [Act.put, List.setIfInBounds_toArray, List.set_cons_zero, List.set_cons_succ, i64_w, i32_w]
                  rfl
                 refine pure_ (i := 48) (N := some 161) (v := ?_) (a' := ?_) (cellarerlaw07_PagerSizes.bs 50 562949953421311) rfl rfl (any_of HT_.out (by kernel_rfl)) (fun _ _ _ h => h) (Or.inl ⟨by rfl, ?_⟩) ?_ ?_
                 rotate_left
                 ·intro w'
                  go_simp
                  with_reducible rfl
                 rotate_left
                 ·simp only [Act.put, List.setIfInBounds_toArray, List.set_cons_zero, List.set_cons_succ, i64_w, i32_w]
                  rfl
                 refine pure_ (i := 49) (N := some 6) (v := ?_) (a' := ?_) (cellarerlaw07_PagerSizes.bs 50 1125899906842623) rfl rfl (any_of HT_.out (by kernel_rfl)) (fun _ _ _ h => h) (Or.inl ⟨by rfl, ?_⟩) ?_ ?_
                 rotate_left
                 ·intro w'
                  go_simp
                  with_reducible rfl
                 rotate_left
                 ·simp only [Act.put, List.setIfInBounds_toArray, List.set_cons_zero, List.set_cons_succ, i64_w, i32_w]
                  rfl
                 refine done_ (done_of HT_.out (by kernel_rfl)) ?_
                 try go_wp2
                 go_ret
                 exact ⟨by first | rfl | (simp [errW_none, errW_some] <;> rfl) | (simp only [← hji5, ← hji7]; first | rfl | (simp [errW_none, errW_some] <;> rfl)) | (simp [*, errW_none, errW_some] <;> rfl), by repeat (first | (with_reducible first | exact HB.out | apply below_alloc | apply pw_below_drewN | apply below_drew1 | refine below_set ?_ GE362.out | refine below_set ?_ GE380.out | refine below_set ?_ GE390.out | refine below_set ?_ GE400.out) | exact HB.out)⟩
                ·rw [if_neg c107] at H
                 have c107b0 : (t397 == t387) = false := by simpa using c107
                 (try (have c107b1 : decide (t397 = t387) = false := by simpa using c107))
                 (try (have c107b2 : (t397 == t387) = false := by simpa using c107))
                 (try (have c107b3 : ¬ (t397 = t387) := by simpa using c107))
                 clear c107
                 obtain rfl := Option.some.inj H
                 exact absurd HTR_.out (by decide)
              ·rw [if_neg c88] at H
               have c88b0 : (t398.toList == ([] : List UInt8)) = false := beq_eq_false_iff_ne.mpr c88
               have c88b1 : (t398.toList != ([] : List UInt8)) = true := bne_iff_ne.mpr c88
               obtain rfl := Option.some.inj H
               exact absurd HTR_.out (by decide)
             ·rw [if_neg c87] at H
              have c87b0 : ((wrap64 ((t391.length : Int) + (t394.length : Int))) == 0) = false := beq_eq_false_iff_ne.mpr c87
              have c87b1 : ((wrap64 ((t391.length : Int) + (t394.length : Int))) != 0) = true := bne_iff_ne.mpr c87
              obtain rfl := Option.some.inj H
              exact absurd HTR_.out (by decide)
            ·replace c86 := Bool.eq_false_iff.mpr c86
             subst c86
             have H1 : (some false) = some r := by rw [if_neg (show ¬ (false = true) by decide)] at H; exact H
             clear H
             have H := H1
             clear H1
             obtain rfl := Option.some.inj H
             exact absurd HTR_.out (by decide)
           ·rw [if_neg c84] at H
            exact absurd H (by simp)
          ·rw [if_neg c83] at H
           exact absurd H (by simp)
         ·replace c82 := Bool.eq_false_iff.mpr c82
          subst c82
          have H1 : (some false) = some r := by rw [if_neg (show ¬ (false = true) by decide)] at H; exact H
          clear H
          have H := H1
          clear H1
          obtain rfl := Option.some.inj H
          exact absurd HTR_.out (by decide)
        ·rw [if_neg c80] at H
         exact absurd H (by simp)
       ·rw [if_neg c79] at H
        exact absurd H (by simp)

/-- THE ONE PURE STATEMENT of cellarerlaw07_PagerSizes. -/
-- GIVEN cellarerlaw07_PagerSizes.Pure
def cellarerlaw07_PagerSizes.Pure : Prop := ∀ (l0_0 : List (S50)) (a0_1 : ByteArray) (a0_2 : ByteArray) (a0_3 : ByteArray) (a0_4 : Int) (a0_5 : Int) (a1 : Int) (a2 : Int), okS25 (⟨l0_0, a0_1, a0_2, a0_3, a0_4, a0_5⟩ : S25) → (Lit.int .u8 a1).wf = true → (Lit.int .u8 a2).wf = true → ∃ k, cellarerlaw07_PagerSizes.f k l0_0 a0_1 a0_2 a0_3 a0_4 a0_5 a1 a2 = some true

end Go.Proofs.Ytcnnijkgiioniaa.P
