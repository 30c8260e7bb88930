/- Printed by a program of this session (wip/tools/gprint.py, over the kit's print) out of the translation: functions and their contracts. -/
import Derived.Test.YtgolfeglabmkkaaPx0
import Derived.Test.YtgolfeglabmkkaaPx2
import Derived.Test.YtgolfeglabmkkaaPx4
import Derived.Test.YtgolfeglabmkkaaPx8
import Derived.Test.YtgolfeglabmkkaaPx9
import Derived.Test.YtgolfeglabmkkaaPxOpens
namespace Go.Proofs.Ytgolfeglabmkkaa.P
open Go.RowKit Go.Proofs.YtgolfeglabmkkaaW.PrintWords Go.Proofs.YtgolfeglabmkkaaW.PrintLast Go.Proofs.YtgolfeglabmkkaaW.PrintMore
attribute [local go_sem] max2_int min2_int max_two min_two max_three min_three max_four min_four   -- for this text's walks alone
set_option linter.unusedVariables false
set_option linter.unusedSimpArgs false

/-! ### cellarerlaw06_IndexTurns: function 4 -/
def cellarerlaw06_IndexTurns.j0 : Nat → List (S38) → List (S38) → Bool → Option (Bool)
 | 0, _, _, _ => none
 | k + 1, x9, x12, x99 => if x99 = true then ((cellarerlaw06_awake.f k).bind fun t267 => (some t267)) else ((cellarerref06_Same.f k x9 x12).bind fun t268 => (if t268 = true then ((cellarerlaw06_awake.f k).bind fun t269 => (some t269)) else (some false)))
def cellarerlaw06_IndexTurns.f (k : Nat) (l0 : List (S38)) (a1_0 : ByteArray) (l1_1 : List (S50)) (a2_0 : ByteArray) (l2_1 : List (S50)) : Option (Bool) := (cellarerlaw06_Few.f k l0).bind fun t226 => ((cellarerlaw06_Few.f k (([(⟨a1_0, l1_1⟩ : S38)] : List (S38)))).bind fun t232 => ((cellarerlaw06_Few.f k (([(⟨a2_0, l2_1⟩ : S38)] : List (S38)))).bind fun t238 => (if 0 < (t232.length : Int) then ((index_Put.f t226 ((rd_T38 t232 0).f0) ((rd_T38 t232 0).f1)).bind fun bt243 => (if 0 < (t238.length : Int) then ((index_Put.f bt243.1 ((rd_T38 t238 0).f0) ((rd_T38 t238 0).f1)).bind fun bt249 => ((index_Put.f t226 ((rd_T38 t238 0).f0) ((rd_T38 t238 0).f1)).bind fun bt255 => ((index_Put.f bt255.1 ((rd_T38 t232 0).f0) ((rd_T38 t232 0).f1)).bind fun bt261 => (if bt243.2 = 0 then (if bt249.2 = 0 then (if bt255.2 = 0 then (if bt261.2 = 0 then (cellarerlaw06_IndexTurns.j0 k bt249.1 bt261.1 (((rd_T38 t232 0).f0).toList == ((rd_T38 t238 0).f0).toList)) else (cellarerlaw06_IndexTurns.j0 k bt249.1 bt261.1 true)) else (cellarerlaw06_IndexTurns.j0 k bt249.1 bt261.1 true)) else (cellarerlaw06_IndexTurns.j0 k bt249.1 bt261.1 true)) else (cellarerlaw06_IndexTurns.j0 k bt249.1 bt261.1 true))))) else (none))) else (none))))
theorem cellarerlaw06_IndexTurns.mono_l : ∀ k, (∀ y0 y1 y2, LeO (cellarerlaw06_IndexTurns.j0 k y0 y1 y2) (cellarerlaw06_IndexTurns.j0 (k + 1) y0 y1 y2))
 | 0 => fun _ _ _ r h => by simp [cellarerlaw06_IndexTurns.j0] at h
 | k + 1 => by
  have ih0 := cellarerlaw06_IndexTurns.mono_l k
  ·intro y0 y1 y2
   unfold cellarerlaw06_IndexTurns.j0
   repeat' first
   | (with_reducible exact ih0 _ _ _)
   | (with_reducible exact cellarerlaw06_Few.mono _ _)
   | (with_reducible exact cellarerlaw06_awake.mono _)
   | (with_reducible exact cellarerref06_Same.mono _ _ _)
   | (with_reducible exact LeO.refl _)
   | (with_reducible exact LeO.none _)
   | (with_reducible refine LeO.ite ?_ ?_)
   | (with_reducible refine LeO.bind ?_ (fun _ => ?_))
   | exact ih0 _ _ _
   | exact cellarerlaw06_Few.mono _ _
   | exact cellarerlaw06_awake.mono _
   | exact cellarerref06_Same.mono _ _ _
   | exact LeO.none _
   | refine LeO.ite ?_ ?_
   | refine LeO.bind ?_ (fun _ => ?_)
theorem cellarerlaw06_IndexTurns.mono : ∀ a0 a1 a2 a3 a4 k, LeO (cellarerlaw06_IndexTurns.f k a0 a1 a2 a3 a4) (cellarerlaw06_IndexTurns.f (k + 1) a0 a1 a2 a3 a4) := by
 intro a0 a1 a2 a3 a4 k
 have ih0 := cellarerlaw06_IndexTurns.mono_l k
 unfold cellarerlaw06_IndexTurns.f
 repeat' first
   | (with_reducible exact ih0 _ _ _)
   | (with_reducible exact cellarerlaw06_Few.mono _ _)
   | (with_reducible exact cellarerlaw06_awake.mono _)
   | (with_reducible exact cellarerref06_Same.mono _ _ _)
   | (with_reducible exact LeO.refl _)
   | (with_reducible exact LeO.none _)
   | (with_reducible refine LeO.ite ?_ ?_)
   | (with_reducible refine LeO.bind ?_ (fun _ => ?_))
   | exact ih0 _ _ _
   | exact cellarerlaw06_Few.mono _ _
   | exact cellarerlaw06_awake.mono _
   | exact cellarerref06_Same.mono _ _ _
   | exact LeO.none _
   | refine LeO.ite ?_ ?_
   | refine LeO.bind ?_ (fun _ => ?_)
def cellarerlaw06_IndexTurns.T2 : Bool × List (List Nat × List Nat) := (true, [([], []), ([0], [0]), ([1], [1]), ([], []), ([3], [3]), ([4, 2], [4]), ([2, 5, 0, 1, 2], [2]), ([5, 6, 0, 1, 2, 3, 4, 5, 6], [5])])
def cellarerlaw06_IndexTurns.B2 : List Nat := [0, 1, 3, 0, 8, 31, 63, 127]
theorem cellarerlaw06_IndexTurns.tab2 : rtab .any (opsOf Try.f4 2) = cellarerlaw06_IndexTurns.T2 := by kernel_rfl
theorem cellarerlaw06_IndexTurns.bits2 : waitsOk cellarerlaw06_IndexTurns.T2.2 cellarerlaw06_IndexTurns.B2 = true := by kernel_rfl
def cellarerlaw06_IndexTurns.T3 : Bool × List (List Nat × List Nat) := (true, [([], []), ([], []), ([1], [1]), ([2], [2]), ([3], [3]), ([], []), ([5], [5]), ([6], [6]), ([7], [7]), ([0, 4, 8], [0, 4, 8]), ([9], [9]), ([10], [10]), ([10], [10]), ([11, 9, 0, 1, 2, 3, 4, 5, 6, 7, 8, 9, 10, 11], [11]), ([12, 13, 0, 1, 2, 3, 4, 5, 6, 7, 8, 9, 10, 11, 12, 13], [12])])
def cellarerlaw06_IndexTurns.B3 : List Nat := [0, 0, 2, 6, 14, 0, 32, 96, 224, 511, 1023, 2047, 2047, 4095, 16383]
theorem cellarerlaw06_IndexTurns.tab3 : rtab .any (opsOf Try.f4 3) = cellarerlaw06_IndexTurns.T3 := by kernel_rfl
theorem cellarerlaw06_IndexTurns.bits3 : waitsOk cellarerlaw06_IndexTurns.T3.2 cellarerlaw06_IndexTurns.B3 = true := by kernel_rfl
def cellarerlaw06_IndexTurns.T4 : Bool × List (List Nat × List Nat) := (true, [([], []), ([], []), ([1], [1]), ([2], [2]), ([3], [3]), ([], []), ([5], [5]), ([6], [6]), ([7], [7]), ([0, 4, 8], [0, 4, 8]), ([9], [9]), ([10], [10]), ([10], [10]), ([11, 9, 0, 1, 2, 3, 4, 5, 6, 7, 8, 9, 10, 11], [0, 11]), ([12, 13, 0, 1, 2, 3, 4, 5, 6, 7, 8, 9, 10, 11, 12, 13], [12])])
def cellarerlaw06_IndexTurns.B4 : List Nat := [0, 0, 2, 6, 14, 0, 32, 96, 224, 511, 1023, 2047, 2047, 4095, 16383]
theorem cellarerlaw06_IndexTurns.tab4 : rtab .any (opsOf Try.f4 4) = cellarerlaw06_IndexTurns.T4 := by kernel_rfl
theorem cellarerlaw06_IndexTurns.bits4 : waitsOk cellarerlaw06_IndexTurns.T4.2 cellarerlaw06_IndexTurns.B4 = true := by kernel_rfl
def cellarerlaw06_IndexTurns.T5 : Bool × List (List Nat × List Nat) := (true, [([], []), ([], []), ([1], [1]), ([2], [2]), ([3], [3]), ([], []), ([5], [5]), ([6], [6]), ([7], [7]), ([0, 4, 8], [0, 4, 8]), ([9], [9]), ([10], [10]), ([10], [10]), ([11, 9, 0, 1, 2, 3, 4, 5, 6, 7, 8, 9, 10, 11], [11]), ([12, 13, 0, 1, 2, 3, 4, 5, 6, 7, 8, 9, 10, 11, 12, 13], [12])])
def cellarerlaw06_IndexTurns.B5 : List Nat := [0, 0, 2, 6, 14, 0, 32, 96, 224, 511, 1023, 2047, 2047, 4095, 16383]
theorem cellarerlaw06_IndexTurns.tab5 : rtab .any (opsOf Try.f4 5) = cellarerlaw06_IndexTurns.T5 := by kernel_rfl
theorem cellarerlaw06_IndexTurns.bits5 : waitsOk cellarerlaw06_IndexTurns.T5.2 cellarerlaw06_IndexTurns.B5 = true := by kernel_rfl
def cellarerlaw06_IndexTurns.T6 : Bool × List (List Nat × List Nat) := (true, [([], []), ([], []), ([1], [1]), ([2], [2]), ([3], [3]), ([], []), ([5], [5]), ([6], [6]), ([7], [7]), ([0, 4, 8], [0, 4, 8]), ([9], [9]), ([10], [10]), ([10], [10]), ([11, 9, 0, 1, 2, 3, 4, 5, 6, 7, 8, 9, 10, 11], [0, 11]), ([12, 13, 0, 1, 2, 3, 4, 5, 6, 7, 8, 9, 10, 11, 12, 13], [12])])
def cellarerlaw06_IndexTurns.B6 : List Nat := [0, 0, 2, 6, 14, 0, 32, 96, 224, 511, 1023, 2047, 2047, 4095, 16383]
theorem cellarerlaw06_IndexTurns.tab6 : rtab .any (opsOf Try.f4 6) = cellarerlaw06_IndexTurns.T6 := by kernel_rfl
theorem cellarerlaw06_IndexTurns.bits6 : waitsOk cellarerlaw06_IndexTurns.T6.2 cellarerlaw06_IndexTurns.B6 = true := by kernel_rfl
def cellarerlaw06_IndexTurns.T7 : Bool × List (List Nat × List Nat) := (true, [([], []), ([0], [0]), ([1], [1]), ([2], [2]), ([3, 2], [2, 3]), ([2, 4], [2, 4]), ([5, 2], [5]), ([6], [6]), ([7, 6], [6, 7]), ([6, 8], [6, 8]), ([9, 6], [9]), ([10], [10]), ([11, 10], [10, 11]), ([10, 12], [10, 12]), ([13, 10], [13]), ([14], [14]), ([15, 14], [14, 15]), ([16, 14], [14, 16]), ([17, 14], [14, 17]), ([14], [14]), ([19, 14], [14, 19]), ([20, 14], [14, 20]), ([21, 14], [14, 21]), ([18, 22, 14], [14, 18, 22]), ([14, 23], [14, 23])])
def cellarerlaw06_IndexTurns.B7 : List Nat := [0, 1, 3, 7, 15, 31, 63, 127, 255, 511, 1023, 2047, 4095, 8191, 16383, 32767, 65535, 131071, 262143, 32767, 557055, 1605631, 3702783, 8388607, 16777215]
theorem cellarerlaw06_IndexTurns.tab7 : rtab .any (opsOf Try.f4 7) = cellarerlaw06_IndexTurns.T7 := by kernel_rfl
theorem cellarerlaw06_IndexTurns.bits7 : waitsOk cellarerlaw06_IndexTurns.T7.2 cellarerlaw06_IndexTurns.B7 = true := by kernel_rfl
set_option maxHeartbeats 8000000 in
set_option maxRecDepth 100000 in
theorem cellarerlaw06_IndexTurns.calls (k : Nat) (A0 : Option Addr) (c0 : Nat) (l0 : List (S38)) (a1_0 : ByteArray) (P1_1_ : Nat → Prop) (A1_1 : Option Addr) (c1_1 : Nat) (l1_1 : List (S50)) (a2_0 : ByteArray) (P2_1_ : Nat → Prop) (A2_1 : Option Addr) (c2_1 : Nat) (l2_1 : List (S50)) (r : Bool) (w : World) (hr0 : Kd.C k38 w A0 l0.length l0) (hc0 : l0.length ≤ c0) (hs1_1 : Kd.V k50 50 w w.heap.size (fun k_ => P1_1_ k_) (.slice A1_1 l1_1.length c1_1) l1_1) (hs2_1 : Kd.V k50 50 w w.heap.size (fun k_ => P2_1_ k_) (.slice A2_1 l2_1.length c2_1) l2_1) (h : cellarerlaw06_IndexTurns.f k l0 a1_0 l1_1 a2_0 l2_1 = some r) :
  Calls Try.prog 4 #[.slice A0 l0.length c0, .agg #[.string a1_0, .slice A1_1 l1_1.length c1_1], .agg #[.string a2_0, .slice A2_1 l2_1.length c2_1]] w fun e w' => e = .returned (.bool r) ∧ Below w.heap.size w w' := by
 have hu38 := Try.underlying38
 have HR0 := Aside0.mk hr0
 have HC0 := Aside0.mk hc0
 clear hr0 hc0
 have HO1_1 := Aside0.mk (show Kd.V k50 50 w w.heap.size (fun k_ => ((P1_1_ k_ ∨ P2_1_ k_) ∨ w.heap.size ≤ k_)) (.slice A1_1 l1_1.length c1_1) l1_1 from Kd.V_mono hs1_1 (fun k_ hk => .inl (.inl hk)))
 have HO2_1 := Aside0.mk (show Kd.V k50 50 w w.heap.size (fun k_ => ((P1_1_ k_ ∨ P2_1_ k_) ∨ w.heap.size ≤ k_)) (.slice A2_1 l2_1.length c2_1) l2_1 from Kd.V_mono hs2_1 (fun k_ hk => .inl (.inr hk)))
 have HB := Aside0.mk (Below.refl w.heap.size w)
 have H : ((cellarerlaw06_Few.f k l0).bind fun t226 => ((cellarerlaw06_Few.f k (([(⟨a1_0, l1_1⟩ : S38)] : List (S38)))).bind fun t232 => ((cellarerlaw06_Few.f k (([(⟨a2_0, l2_1⟩ : S38)] : List (S38)))).bind fun t238 => (if 0 < (t232.length : Int) then ((index_Put.f t226 ((rd_T38 t232 0).f0) ((rd_T38 t232 0).f1)).bind fun bt243 => (if 0 < (t238.length : Int) then ((index_Put.f bt243.1 ((rd_T38 t238 0).f0) ((rd_T38 t238 0).f1)).bind fun bt249 => ((index_Put.f t226 ((rd_T38 t238 0).f0) ((rd_T38 t238 0).f1)).bind fun bt255 => ((index_Put.f bt255.1 ((rd_T38 t232 0).f0) ((rd_T38 t232 0).f1)).bind fun bt261 => (if bt243.2 = 0 then (if bt249.2 = 0 then (if bt255.2 = 0 then (if bt261.2 = 0 then (cellarerlaw06_IndexTurns.j0 k bt249.1 bt261.1 (((rd_T38 t232 0).f0).toList == ((rd_T38 t238 0).f0).toList)) else (cellarerlaw06_IndexTurns.j0 k bt249.1 bt261.1 true)) else (cellarerlaw06_IndexTurns.j0 k bt249.1 bt261.1 true)) else (cellarerlaw06_IndexTurns.j0 k bt249.1 bt261.1 true)) else (cellarerlaw06_IndexTurns.j0 k bt249.1 bt261.1 true))))) else (none))) else (none))))) = some r := h
 clear h
 replace H := Option.bind_eq_some_iff.mp H
 obtain ⟨t226, A40, H⟩ := H
 replace H : ((cellarerlaw06_Few.f k (([(⟨a1_0, l1_1⟩ : S38)] : List (S38)))).bind fun t232 => ((cellarerlaw06_Few.f k (([(⟨a2_0, l2_1⟩ : S38)] : List (S38)))).bind fun t238 => (if 0 < (t232.length : Int) then ((index_Put.f t226 ((rd_T38 t232 0).f0) ((rd_T38 t232 0).f1)).bind fun bt243 => (if 0 < (t238.length : Int) then ((index_Put.f bt243.1 ((rd_T38 t238 0).f0) ((rd_T38 t238 0).f1)).bind fun bt249 => ((index_Put.f t226 ((rd_T38 t238 0).f0) ((rd_T38 t238 0).f1)).bind fun bt255 => ((index_Put.f bt255.1 ((rd_T38 t232 0).f0) ((rd_T38 t232 0).f1)).bind fun bt261 => (if bt243.2 = 0 then (if bt249.2 = 0 then (if bt255.2 = 0 then (if bt261.2 = 0 then (cellarerlaw06_IndexTurns.j0 k bt249.1 bt261.1 (((rd_T38 t232 0).f0).toList == ((rd_T38 t238 0).f0).toList)) else (cellarerlaw06_IndexTurns.j0 k bt249.1 bt261.1 true)) else (cellarerlaw06_IndexTurns.j0 k bt249.1 bt261.1 true)) else (cellarerlaw06_IndexTurns.j0 k bt249.1 bt261.1 true)) else (cellarerlaw06_IndexTurns.j0 k bt249.1 bt261.1 true))))) else (none))) else (none)))) = some r := H
 have A4 := Aside0.mk A40
 clear A40
 obtain ⟨y229, hy229⟩ : ∃ y_ : List (S38), y_ = (([(⟨a1_0, l1_1⟩ : S38)] : List (S38))) := ⟨_, rfl⟩
 replace H : ((cellarerlaw06_Few.f k y229).bind fun t232 => ((cellarerlaw06_Few.f k (([(⟨a2_0, l2_1⟩ : S38)] : List (S38)))).bind fun t238 => (if 0 < (t232.length : Int) then ((index_Put.f t226 ((rd_T38 t232 0).f0) ((rd_T38 t232 0).f1)).bind fun bt243 => (if 0 < (t238.length : Int) then ((index_Put.f bt243.1 ((rd_T38 t238 0).f0) ((rd_T38 t238 0).f1)).bind fun bt249 => ((index_Put.f t226 ((rd_T38 t238 0).f0) ((rd_T38 t238 0).f1)).bind fun bt255 => ((index_Put.f bt255.1 ((rd_T38 t232 0).f0) ((rd_T38 t232 0).f1)).bind fun bt261 => (if bt243.2 = 0 then (if bt249.2 = 0 then (if bt255.2 = 0 then (if bt261.2 = 0 then (cellarerlaw06_IndexTurns.j0 k bt249.1 bt261.1 (((rd_T38 t232 0).f0).toList == ((rd_T38 t238 0).f0).toList)) else (cellarerlaw06_IndexTurns.j0 k bt249.1 bt261.1 true)) else (cellarerlaw06_IndexTurns.j0 k bt249.1 bt261.1 true)) else (cellarerlaw06_IndexTurns.j0 k bt249.1 bt261.1 true)) else (cellarerlaw06_IndexTurns.j0 k bt249.1 bt261.1 true))))) else (none))) else (none)))) = some r := by first | (rw [hy229]; with_reducible exact H) | (have H2_ := (Option.bind_some _ _).symm.trans H; rw [hy229]; with_reducible exact H2_) | (have H2_ := (Option.bind_some _ _).symm.trans H; with_reducible exact H2_) | with_reducible exact H | (rw [hy229]; exact H) | exact H
 have Ny229 := Aside0.mk hy229
 clear hy229
 replace H := Option.bind_eq_some_iff.mp H
 obtain ⟨t232, A50, H⟩ := H
 replace H : ((cellarerlaw06_Few.f k (([(⟨a2_0, l2_1⟩ : S38)] : List (S38)))).bind fun t238 => (if 0 < (t232.length : Int) then ((index_Put.f t226 ((rd_T38 t232 0).f0) ((rd_T38 t232 0).f1)).bind fun bt243 => (if 0 < (t238.length : Int) then ((index_Put.f bt243.1 ((rd_T38 t238 0).f0) ((rd_T38 t238 0).f1)).bind fun bt249 => ((index_Put.f t226 ((rd_T38 t238 0).f0) ((rd_T38 t238 0).f1)).bind fun bt255 => ((index_Put.f bt255.1 ((rd_T38 t232 0).f0) ((rd_T38 t232 0).f1)).bind fun bt261 => (if bt243.2 = 0 then (if bt249.2 = 0 then (if bt255.2 = 0 then (if bt261.2 = 0 then (cellarerlaw06_IndexTurns.j0 k bt249.1 bt261.1 (((rd_T38 t232 0).f0).toList == ((rd_T38 t238 0).f0).toList)) else (cellarerlaw06_IndexTurns.j0 k bt249.1 bt261.1 true)) else (cellarerlaw06_IndexTurns.j0 k bt249.1 bt261.1 true)) else (cellarerlaw06_IndexTurns.j0 k bt249.1 bt261.1 true)) else (cellarerlaw06_IndexTurns.j0 k bt249.1 bt261.1 true))))) else (none))) else (none))) = some r := H
 have A5 := Aside0.mk A50
 clear A50
 obtain ⟨y235, hy235⟩ : ∃ y_ : List (S38), y_ = (([(⟨a2_0, l2_1⟩ : S38)] : List (S38))) := ⟨_, rfl⟩
 replace H : ((cellarerlaw06_Few.f k y235).bind fun t238 => (if 0 < (t232.length : Int) then ((index_Put.f t226 ((rd_T38 t232 0).f0) ((rd_T38 t232 0).f1)).bind fun bt243 => (if 0 < (t238.length : Int) then ((index_Put.f bt243.1 ((rd_T38 t238 0).f0) ((rd_T38 t238 0).f1)).bind fun bt249 => ((index_Put.f t226 ((rd_T38 t238 0).f0) ((rd_T38 t238 0).f1)).bind fun bt255 => ((index_Put.f bt255.1 ((rd_T38 t232 0).f0) ((rd_T38 t232 0).f1)).bind fun bt261 => (if bt243.2 = 0 then (if bt249.2 = 0 then (if bt255.2 = 0 then (if bt261.2 = 0 then (cellarerlaw06_IndexTurns.j0 k bt249.1 bt261.1 (((rd_T38 t232 0).f0).toList == ((rd_T38 t238 0).f0).toList)) else (cellarerlaw06_IndexTurns.j0 k bt249.1 bt261.1 true)) else (cellarerlaw06_IndexTurns.j0 k bt249.1 bt261.1 true)) else (cellarerlaw06_IndexTurns.j0 k bt249.1 bt261.1 true)) else (cellarerlaw06_IndexTurns.j0 k bt249.1 bt261.1 true))))) else (none))) else (none))) = some r := by first | (rw [hy235]; with_reducible exact H) | (have H2_ := (Option.bind_some _ _).symm.trans H; rw [hy235]; with_reducible exact H2_) | (have H2_ := (Option.bind_some _ _).symm.trans H; with_reducible exact H2_) | with_reducible exact H | (rw [hy235]; exact H) | exact H
 have Ny235 := Aside0.mk hy235
 clear hy235
 replace H := Option.bind_eq_some_iff.mp H
 obtain ⟨t238, A60, H⟩ := H
 replace H : (if 0 < (t232.length : Int) then ((index_Put.f t226 ((rd_T38 t232 0).f0) ((rd_T38 t232 0).f1)).bind fun bt243 => (if 0 < (t238.length : Int) then ((index_Put.f bt243.1 ((rd_T38 t238 0).f0) ((rd_T38 t238 0).f1)).bind fun bt249 => ((index_Put.f t226 ((rd_T38 t238 0).f0) ((rd_T38 t238 0).f1)).bind fun bt255 => ((index_Put.f bt255.1 ((rd_T38 t232 0).f0) ((rd_T38 t232 0).f1)).bind fun bt261 => (if bt243.2 = 0 then (if bt249.2 = 0 then (if bt255.2 = 0 then (if bt261.2 = 0 then (cellarerlaw06_IndexTurns.j0 k bt249.1 bt261.1 (((rd_T38 t232 0).f0).toList == ((rd_T38 t238 0).f0).toList)) else (cellarerlaw06_IndexTurns.j0 k bt249.1 bt261.1 true)) else (cellarerlaw06_IndexTurns.j0 k bt249.1 bt261.1 true)) else (cellarerlaw06_IndexTurns.j0 k bt249.1 bt261.1 true)) else (cellarerlaw06_IndexTurns.j0 k bt249.1 bt261.1 true))))) else (none))) else (none)) = some r := H
 have A6 := Aside0.mk A60
 clear A60
 by_cases c7 : 0 < (t232.length : Int)
 ·rw [if_pos c7] at H
  have c7b0 : decide (0 < (t232.length : Int)) = true := decide_eq_true c7
  have c7b1 : decide (0 < t232.length) = true := decide_eq_true (by omega)
  clear c7
  replace H := Option.bind_eq_some_iff.mp H
  obtain ⟨⟨t243, t246⟩, A80, H⟩ := H
  replace H : (if 0 < (t238.length : Int) then ((index_Put.f t243 ((rd_T38 t238 0).f0) ((rd_T38 t238 0).f1)).bind fun bt249 => ((index_Put.f t226 ((rd_T38 t238 0).f0) ((rd_T38 t238 0).f1)).bind fun bt255 => ((index_Put.f bt255.1 ((rd_T38 t232 0).f0) ((rd_T38 t232 0).f1)).bind fun bt261 => (if t246 = 0 then (if bt249.2 = 0 then (if bt255.2 = 0 then (if bt261.2 = 0 then (cellarerlaw06_IndexTurns.j0 k bt249.1 bt261.1 (((rd_T38 t232 0).f0).toList == ((rd_T38 t238 0).f0).toList)) else (cellarerlaw06_IndexTurns.j0 k bt249.1 bt261.1 true)) else (cellarerlaw06_IndexTurns.j0 k bt249.1 bt261.1 true)) else (cellarerlaw06_IndexTurns.j0 k bt249.1 bt261.1 true)) else (cellarerlaw06_IndexTurns.j0 k bt249.1 bt261.1 true))))) else (none)) = some r := H
  have A8 := Aside0.mk A80
  clear A80
  by_cases c9 : 0 < (t238.length : Int)
  ·rw [if_pos c9] at H
   have c9b0 : decide (0 < (t238.length : Int)) = true := decide_eq_true c9
   have c9b1 : decide (0 < t238.length) = true := decide_eq_true (by omega)
   clear c9
   replace H := Option.bind_eq_some_iff.mp H
   obtain ⟨⟨t249, t252⟩, A100, H⟩ := H
   replace H : ((index_Put.f t226 ((rd_T38 t238 0).f0) ((rd_T38 t238 0).f1)).bind fun bt255 => ((index_Put.f bt255.1 ((rd_T38 t232 0).f0) ((rd_T38 t232 0).f1)).bind fun bt261 => (if t246 = 0 then (if t252 = 0 then (if bt255.2 = 0 then (if bt261.2 = 0 then (cellarerlaw06_IndexTurns.j0 k t249 bt261.1 (((rd_T38 t232 0).f0).toList == ((rd_T38 t238 0).f0).toList)) else (cellarerlaw06_IndexTurns.j0 k t249 bt261.1 true)) else (cellarerlaw06_IndexTurns.j0 k t249 bt261.1 true)) else (cellarerlaw06_IndexTurns.j0 k t249 bt261.1 true)) else (cellarerlaw06_IndexTurns.j0 k t249 bt261.1 true)))) = some r := H
   have A10 := Aside0.mk A100
   clear A100
   replace H := Option.bind_eq_some_iff.mp H
   obtain ⟨⟨t255, t258⟩, A110, H⟩ := H
   replace H : ((index_Put.f t255 ((rd_T38 t232 0).f0) ((rd_T38 t232 0).f1)).bind fun bt261 => (if t246 = 0 then (if t252 = 0 then (if t258 = 0 then (if bt261.2 = 0 then (cellarerlaw06_IndexTurns.j0 k t249 bt261.1 (((rd_T38 t232 0).f0).toList == ((rd_T38 t238 0).f0).toList)) else (cellarerlaw06_IndexTurns.j0 k t249 bt261.1 true)) else (cellarerlaw06_IndexTurns.j0 k t249 bt261.1 true)) else (cellarerlaw06_IndexTurns.j0 k t249 bt261.1 true)) else (cellarerlaw06_IndexTurns.j0 k t249 bt261.1 true))) = some r := H
   have A11 := Aside0.mk A110
   clear A110
   replace H := Option.bind_eq_some_iff.mp H
   obtain ⟨⟨t261, t264⟩, A120, H⟩ := H
   replace H : (if t246 = 0 then (if t252 = 0 then (if t258 = 0 then (if t264 = 0 then (cellarerlaw06_IndexTurns.j0 k t249 t261 (((rd_T38 t232 0).f0).toList == ((rd_T38 t238 0).f0).toList)) else (cellarerlaw06_IndexTurns.j0 k t249 t261 true)) else (cellarerlaw06_IndexTurns.j0 k t249 t261 true)) else (cellarerlaw06_IndexTurns.j0 k t249 t261 true)) else (cellarerlaw06_IndexTurns.j0 k t249 t261 true)) = some r := H
   have A12 := Aside0.mk A120
   clear A120
   have HC13 := Aside0.mk H
   clear H
   go_enter Try.func4, Try.ntmps4
   try go_wp2_with (first | ((with_reducible refine gate_dst (N := 4) rfl ?_); refine box_event ?hg (N := 4) ?hd (cs := #[.string a1_0, .slice A1_1 l1_1.length c1_1]) (t := 38) ?hr ?_; (case hd => rfl); (case hg => rfl); (case hr => first | (go_simp; done) | (go_simp; rfl)); intro gb224 hg w14 hbox hb; have n0_ := Aside0.mk (Kd.V_below (Kd.V_elderB (by (with_reducible repeat (first | apply Kd.V_alloc | apply Kd.V_drewN | apply Kd.V_drew)); exact HO1_1.out) gb224 (Nat.le_of_eq hg.symm)) hb); have n1_ := Aside0.mk (Kd.V_below (Kd.V_elderB (by (with_reducible repeat (first | apply Kd.V_alloc | apply Kd.V_drewN | apply Kd.V_drew)); exact HO2_1.out) gb224 (Nat.le_of_eq hg.symm)) hb); have n2_ := Aside0.mk (below_step (by repeat (first | (with_reducible first | exact HB.out | apply below_alloc | apply pw_below_drewN | apply below_drew1) | exact HB.out)) hb); have n3_ := Aside0.mk (hbox); have n4_ := Aside0.mk ((by rw [hg]; exact (below_size (by repeat (first | (with_reducible first | exact HB.out | apply below_alloc | apply pw_below_drewN | apply below_drew1) | exact HB.out))) : w.heap.size ≤ gb224)); have n5_ := Aside0.mk ((by rw [hg]; exact (below_size (by repeat (first | (with_reducible first | exact HB.out | apply below_alloc | apply pw_below_drewN | apply below_drew1) | exact HB.out))) : w.heap.size ≤ gb224)); clear HO1_1; clear HO2_1; clear HB; have HO1_1 := n0_; have HO2_1 := n1_; have HB := n2_; have BK224 := n3_; have GW224 := n4_; have GE224 := n5_; clear n0_ n1_ n2_ n3_ n4_ n5_; clear hb hbox hg) | ((with_reducible refine gate_dst (N := 5) rfl ?_); refine box_event ?hg (N := 5) ?hd (cs := #[.string a2_0, .slice A2_1 l2_1.length c2_1]) (t := 38) ?hr ?_; (case hd => rfl); (case hg => rfl); (case hr => first | (go_simp; done) | (go_simp; rfl)); intro gb225 hg w15 hbox hb; have n0_ := Aside0.mk (Kd.V_below (Kd.V_elderB (by (with_reducible repeat (first | apply Kd.V_alloc | apply Kd.V_drewN | apply Kd.V_drew)); exact HO1_1.out) gb225 (Nat.le_of_eq hg.symm)) hb); have n1_ := Aside0.mk (Kd.V_below (Kd.V_elderB (by (with_reducible repeat (first | apply Kd.V_alloc | apply Kd.V_drewN | apply Kd.V_drew)); exact HO2_1.out) gb225 (Nat.le_of_eq hg.symm)) hb); have n2_ := Aside0.mk (blk_below (g := gb224) (o := .cells #[.string a1_0, .slice A1_1 l1_1.length c1_1] 38 (0, 0)) (by (with_reducible repeat (first | refine blk_drewN ?_ _ | refine blk_drew ?_ | refine blk_alloc ?_ _)); exact BK224.out) hb); have n3_ := Aside0.mk (below_step (by repeat (first | (with_reducible first | exact HB.out | apply below_alloc | apply pw_below_drewN | apply below_drew1 | refine below_set ?_ GE224.out) | exact HB.out)) hb); have n4_ := Aside0.mk (hbox); have n5_ := Aside0.mk ((by rw [hg]; exact (below_size (by repeat (first | (with_reducible first | exact HB.out | apply below_alloc | apply pw_below_drewN | apply below_drew1 | refine below_set ?_ GE224.out) | exact HB.out))) : w.heap.size ≤ gb225)); have n6_ := Aside0.mk ((by rw [hg]; exact (below_size (by repeat (first | (with_reducible first | exact HB.out | apply below_alloc | apply pw_below_drewN | apply below_drew1 | refine below_set ?_ GE224.out) | exact HB.out))) : w.heap.size ≤ gb225)); have n7_ := Aside0.mk ((by rw [hg]; exact Nat.ne_of_lt (blk_lt (g := gb224) (o := .cells #[.string a1_0, .slice A1_1 l1_1.length c1_1] 38 (0, 0)) (by (with_reducible repeat (first | refine blk_drewN ?_ _ | refine blk_drew ?_ | refine blk_alloc ?_ _)); exact BK224.out)) : gb224 ≠ gb225)); have n8_ := Aside0.mk ((by rw [hg]; exact Nat.ne_of_gt (blk_lt (g := gb224) (o := .cells #[.string a1_0, .slice A1_1 l1_1.length c1_1] 38 (0, 0)) (by (with_reducible repeat (first | refine blk_drewN ?_ _ | refine blk_drew ?_ | refine blk_alloc ?_ _)); exact BK224.out)) : gb225 ≠ gb224)); clear HO1_1; clear HO2_1; clear BK224; clear HB; have HO1_1 := n0_; have HO2_1 := n1_; have BK224 := n2_; have HB := n3_; have BK225 := n4_; have GW225 := n5_; have GE225 := n6_; have NB224_225 := n7_; have NB225_224 := n8_; clear n0_ n1_ n2_ n3_ n4_ n5_ n6_ n7_ n8_; clear hb hbox hg) | ((with_reducible refine gate_callee (f := 9) rfl ?_); refine goesL_ (some 16) rfl rfl Try.func9 (by kernel_rfl) rfl #[.slice A0 l0.length c0] rfl (by (try simp only [List.map_toArray, List.map_cons, List.map_nil]); first | done | rfl | (simp only [List.length_drop, List.length_take]; rfl)) ?_; (with_reducible refine (cellarerlaw06_Few.calls k _ _ l0 t226 _ ?side1 ?side2 A4.out).mono ?_); (case side1 => repeat (first | exact (Kd.C_below HR0.out HB.out) | (with_reducible refine Kd.C_alloc ?_ _) | (with_reducible refine Kd.C_drewN ?_ _) | (with_reducible refine Kd.C_drew ?_))); (case side2 => exact HC0.out); rintro e w16 ⟨v227, rfl, ho0, hb⟩; refine ⟨_, rfl, ?_⟩; have n0_ := Aside0.mk (Kd.V_elder' (by (with_reducible repeat (first | apply Kd.V_alloc | apply Kd.V_drewN | apply Kd.V_drew)); exact HO1_1.out) (by first | exact Kd.N_base ho0 | exact Kd.N_base (Kd.S_N ho0)) hb); have n1_ := Aside0.mk (Kd.V_elder' (by (with_reducible repeat (first | apply Kd.V_alloc | apply Kd.V_drewN | apply Kd.V_drew)); exact HO2_1.out) (by first | exact Kd.N_base ho0 | exact Kd.N_base (Kd.S_N ho0)) hb); have n2_ := Aside0.mk (Kd.N_lower (Kd.N_mono (ok' := fun k_ => ((P1_1_ k_ ∨ P2_1_ k_) ∨ w.heap.size ≤ k_) ∧ k_ ≠ gb224 ∧ k_ ≠ gb225) (Kd.S_N (Kd.S_bound ho0)) (fun k_ hk_ => ⟨(.inr (Nat.le_trans (below_size (by repeat (first | (with_reducible first | exact HB.out | apply below_alloc | apply pw_below_drewN | apply below_drew1 | refine below_set ?_ GE224.out | refine below_set ?_ GE225.out) | exact HB.out))) hk_.2.1)), (Kd.freshB (g := gb224) (o := .cells #[.string a1_0, .slice A1_1 l1_1.length c1_1] 38 (0, 0)) (by (with_reducible repeat (first | refine blk_drewN ?_ _ | refine blk_drew ?_ | refine blk_alloc ?_ _)); exact BK224.out) k_ hk_.2.1), (Kd.freshB (g := gb225) (o := .cells #[.string a2_0, .slice A2_1 l2_1.length c2_1] 38 (0, 0)) (by (with_reducible repeat (first | refine blk_drewN ?_ _ | refine blk_drew ?_ | refine blk_alloc ?_ _)); exact BK225.out) k_ hk_.2.1)⟩)) (below_size (by repeat (first | (with_reducible first | exact HB.out | apply below_alloc | apply pw_below_drewN | apply below_drew1 | refine below_set ?_ GE224.out | refine below_set ?_ GE225.out) | exact HB.out)))); have n3_ := Aside0.mk (blk_below (g := gb224) (o := .cells #[.string a1_0, .slice A1_1 l1_1.length c1_1] 38 (0, 0)) (by (with_reducible repeat (first | refine blk_drewN ?_ _ | refine blk_drew ?_ | refine blk_alloc ?_ _)); exact BK224.out) hb); have n4_ := Aside0.mk (blk_below (g := gb225) (o := .cells #[.string a2_0, .slice A2_1 l2_1.length c2_1] 38 (0, 0)) (by (with_reducible repeat (first | refine blk_drewN ?_ _ | refine blk_drew ?_ | refine blk_alloc ?_ _)); exact BK225.out) hb); have n5_ := Aside0.mk (below_step (by repeat (first | (with_reducible first | exact HB.out | apply below_alloc | apply pw_below_drewN | apply below_drew1 | refine below_set ?_ GE224.out | refine below_set ?_ GE225.out) | exact HB.out)) hb); clear HO1_1; clear HO2_1; clear BK224; clear BK225; clear HB; have HO1_1 := n0_; have HO2_1 := n1_; have HO228 := n2_; have BK224 := n3_; have BK225 := n4_; have HB := n5_; clear n0_ n1_ n2_ n3_ n4_ n5_; (try clear hb); (try clear hb2); (try clear hk); (try clear hi); (try clear ho0)))
   have n0_ := Aside0.mk (Kd.V_drew HO1_1.out)
   have n1_ := Aside0.mk (Kd.V_drew HO2_1.out)
   have n2_ := Aside0.mk (Kd.N_drew HO228.out)
   have n3_ := Aside0.mk (blk_drew BK224.out)
   have n4_ := Aside0.mk (blk_drew BK225.out)
   have n5_ := Aside0.mk (below_drew1 HB.out)
   clear HO1_1
   clear HO2_1
   clear HO228
   clear BK224
   clear BK225
   clear HB
   have HO1_1 := n0_
   have HO2_1 := n1_
   have HO228 := n2_
   have BK224 := n3_
   have BK225 := n4_
   have HB := n5_
   clear n0_ n1_ n2_ n3_ n4_ n5_
   refine start_ (n := 8) (S := fun w' => True) (ds := []) #[false, false, false, false, false, false, false, false] (by kernel_rfl) rfl rfl trivial (fun hHeld => ?_); refine with_tabW cellarerlaw06_IndexTurns.tab2 cellarerlaw06_IndexTurns.bits2 (fun HT_ HW_ => ?_)
   generalize w16.drew = w17 at HO1_1 HO2_1 HO228 BK224 BK225 HB hHeld ⊢
   refine inv_at [0, 1, 2, 3, 4, 5, 6, 7] (fun a0_ b a w' => ∃ (v230 : Value) (v233 : Value) (v236 : Value) (v239 : Value) (m6_ : Value) (m7_ : Value), a = putSel a0_ b [(0, 17, .agg #[.string a1_0, .slice A1_1 l1_1.length c1_1]), (1, 18, v230), (2, 19, v233), (3, 20, .agg #[.string a2_0, .slice A2_1 l2_1.length c2_1]), (4, 21, v236), (5, 22, v239), (6, 7, m6_), (7, 8, m7_)] ∧ (Kd.V k50 50 w' w.heap.size (fun k_ => ((P1_1_ k_ ∨ P2_1_ k_) ∨ w.heap.size ≤ k_) ∧ some k_ ≠ (v227 : Value).ownBlock ∧ k_ ≠ gb224 ∧ k_ ≠ gb225) (.slice A1_1 l1_1.length c1_1) l1_1) ∧ (Kd.N k38 38 w' w.heap.size (fun k_ => ((P1_1_ k_ ∨ P2_1_ k_) ∨ w.heap.size ≤ k_) ∧ k_ ≠ gb224 ∧ k_ ≠ gb225) v227 t226) ∧ (Kd.V k50 50 w' w.heap.size (fun k_ => ((P1_1_ k_ ∨ P2_1_ k_) ∨ w.heap.size ≤ k_) ∧ some k_ ≠ (v227 : Value).ownBlock ∧ k_ ≠ gb224 ∧ k_ ≠ gb225) (.slice A2_1 l2_1.length c2_1) l2_1) ∧ (w'.heap[gb224]? = some (.cells #[.string a1_0, .slice A1_1 l1_1.length c1_1] 38 (0, 0))) ∧ (w'.heap[gb225]? = some (.cells #[.string a2_0, .slice A2_1 l2_1.length c2_1] 38 (0, 0))) ∧ (Below w.heap.size w w') ∧ (b 1 = true → Kd.N k38 38 w' w.heap.size (fun k_ => ((P1_1_ k_ ∨ P2_1_ k_) ∨ w.heap.size ≤ k_) ∧ some k_ ≠ (v227 : Value).ownBlock ∧ k_ ≠ gb224 ∧ k_ ≠ gb225) v230 y229) ∧ (b 2 = true → Kd.N k38 38 w' w.heap.size (fun k_ => ((P1_1_ k_ ∨ P2_1_ k_) ∨ w.heap.size ≤ k_) ∧ some k_ ≠ (v227 : Value).ownBlock ∧ k_ ≠ gb224 ∧ k_ ≠ gb225) v233 t232) ∧ (b 4 = true → Kd.N k38 38 w' w.heap.size (fun k_ => ((P1_1_ k_ ∨ P2_1_ k_) ∨ w.heap.size ≤ k_) ∧ some k_ ≠ (v227 : Value).ownBlock ∧ k_ ≠ gb224 ∧ k_ ≠ gb225) v236 y235) ∧ (b 5 = true → Kd.N k38 38 w' w.heap.size (fun k_ => ((P1_1_ k_ ∨ P2_1_ k_) ∨ w.heap.size ≤ k_) ∧ some k_ ≠ (v227 : Value).ownBlock ∧ k_ ≠ gb224 ∧ k_ ≠ gb225) v239 t238) ∧ (b 6 = true → (m6_ : Value) = v233) ∧ (b 7 = true → (m7_ : Value) = v239)) HT_.out HW_.out (by kernel_rfl) (by kernel_rfl) ?_ ?_ ?_
   ·exact ⟨.bool false, .bool false, .bool false, .bool false, .bool false, .bool false, by simp only [putSel, Bool.false_eq_true, if_false], (Kd.V_mono HO1_1.out (fun k_ hk => by first | exact hk | (simp only [hk, ne_eq, not_false_eq_true, and_self, true_and, and_true, or_true, true_or]; done) | (simp only [ne_eq, and_assoc] at hk ⊢; simp only [hk, not_false_eq_true, and_self, true_and, and_true]))), HO228.out, (Kd.V_mono HO2_1.out (fun k_ hk => by first | exact hk | (simp only [hk, ne_eq, not_false_eq_true, and_self, true_and, and_true, or_true, true_or]; done) | (simp only [ne_eq, and_assoc] at hk ⊢; simp only [hk, not_false_eq_true, and_self, true_and, and_true]))), BK224.out, BK225.out, HB.out, fun h_ => absurd h_ (by decide), fun h_ => absurd h_ (by decide), fun h_ => absurd h_ (by decide), fun h_ => absurd h_ (by decide), fun h_ => absurd h_ (by decide), fun h_ => absurd h_ (by decide)⟩
   ·skip
    clear BK224 BK225 HB HO1_1 HO228 HO2_1
    refine steps_cons ?_ ?_
    ·rintro b a w' ⟨v230, v233, v236, v239, m6_, m7_, ha, Q_HO1_1, Q_HO228, Q_HO2_1, Q_BK224, Q_BK225, Q_HB, Q_HO231, Q_HO234, Q_HO237, Q_HO240, Q_X6_, Q_X7_⟩ hb_ hon hoff
     refine ⟨_, rfl, fun K hK => ?_⟩
     have e4 : a.tmps[4]? = some (.pointer (some ⟨gb224, 0, none⟩)) := by rw [ha]; exact (putSel_off rfl).trans rfl
     replace ha := Aside0.mk ha
     have HO1_1 := Aside0.mk Q_HO1_1
     have HO228 := Aside0.mk Q_HO228
     have HO2_1 := Aside0.mk Q_HO2_1
     have BK224 := Aside0.mk Q_BK224
     have BK225 := Aside0.mk Q_BK225
     have HB := Aside0.mk Q_HB
     have hc0_ : w'.cell? ⟨gb224, 0, none⟩ = some (.string a1_0) := (blk_cell BK224.out 0).trans rfl
     have hc1_ : w'.cell? ⟨gb224, 1, none⟩ = some (.slice A1_1 l1_1.length c1_1) := (blk_cell BK224.out 1).trans rfl
     refine value_ (w1 := w') (v := .agg #[.string a1_0, .slice A1_1 l1_1.length c1_1]) (by rfl) rfl ?_ ?_
     ·go_simp
      (try simp only [i64_w])
      try rfl
     refine hK.out _ _ ⟨v230, v233, v236, v239, m6_, m7_, (by rw [ha.out]; exact putSel_upk 0 hb_ rfl rfl rfl), Q_HO1_1, Q_HO228, Q_HO2_1, Q_BK224, Q_BK225, Q_HB, fun h0_ => absurd ((hoff 1 (by kernel_rfl)).symm.trans h0_) (by decide), fun h0_ => absurd ((hoff 2 (by kernel_rfl)).symm.trans h0_) (by decide), Q_HO237, fun h0_ => absurd ((hoff 5 (by kernel_rfl)).symm.trans h0_) (by decide), fun h0_ => absurd ((hoff 6 (by kernel_rfl)).symm.trans h0_) (by decide), fun h0_ => absurd ((hoff 7 (by kernel_rfl)).symm.trans h0_) (by decide)⟩
    refine steps_cons ?_ ?_
    ·rintro b a w' ⟨v230, v233, v236, v239, m6_, m7_, ha, Q_HO1_1, Q_HO228, Q_HO2_1, Q_BK224, Q_BK225, Q_HB, Q_HO231, Q_HO234, Q_HO237, Q_HO240, Q_X6_, Q_X7_⟩ hb_ hon hoff
     refine ⟨_, rfl, fun K hK => ?_⟩
     have e17 : a.tmps[17]? = some (.agg #[.string a1_0, .slice A1_1 l1_1.length c1_1]) := by rw [ha]; exact putSel_on (e := (0, 17, .agg #[.string a1_0, .slice A1_1 l1_1.length c1_1])) 0 rfl rfl (hon 0 (by kernel_rfl)) rfl
     replace ha := Aside0.mk ha
     have HO1_1 := Aside0.mk Q_HO1_1
     have HO228 := Aside0.mk Q_HO228
     have HO2_1 := Aside0.mk Q_HO2_1
     have BK224 := Aside0.mk Q_BK224
     have BK225 := Aside0.mk Q_BK225
     have HB := Aside0.mk Q_HB
     refine Kd.N_lit_step k38 _ 38 ?hg (N' := 18) ?hd (xs := ([(⟨a1_0, l1_1⟩ : S38)] : List (S38))) (inner := [.string a1_0, .slice A1_1 l1_1.length c1_1]) (ok := (fun k_ => ((P1_1_ k_ ∨ P2_1_ k_) ∨ w.heap.size ≤ k_) ∧ some k_ ≠ (v227 : Value).ownBlock ∧ k_ ≠ gb224 ∧ k_ ≠ gb225)) (okp := (fun k_ => ((P1_1_ k_ ∨ P2_1_ k_) ∨ w.heap.size ≤ k_) ∧ some k_ ≠ (v227 : Value).ownBlock ∧ k_ ≠ gb224 ∧ k_ ≠ gb225)) ?hr ?hp (fun _ hk => hk) ((show ∀ k_, w'.heap.size ≤ k_ → (fun k_ => ((P1_1_ k_ ∨ P2_1_ k_) ∨ w.heap.size ≤ k_) ∧ some k_ ≠ (v227 : Value).ownBlock ∧ k_ ≠ gb224 ∧ k_ ≠ gb225) k_ from fun k_ hk => ⟨(.inr (Nat.le_trans (below_size (by repeat (first | (with_reducible first | exact HB.out | apply below_alloc | apply pw_below_drewN | apply below_drew1 | refine below_set ?_ GE224.out | refine below_set ?_ GE225.out) | exact HB.out))) hk)), Kd.fresh' (Kd.N_lt (by (with_reducible repeat (first | apply Kd.N_alloc | apply Kd.N_drewN | apply Kd.N_drew)); first | exact HO228.out | exact Kd.N_mono HO228.out (fun k_ hk => by first | exact hk | (simp only [hk, ne_eq, not_false_eq_true, and_self, true_and, and_true, or_true, true_or]; done) | (simp only [ne_eq, and_assoc] at hk ⊢; simp only [hk, not_false_eq_true, and_self, true_and, and_true])))) k_ hk, Kd.freshB (g := gb224) (o := .cells #[.string a1_0, .slice A1_1 l1_1.length c1_1] 38 (0, 0)) (by (with_reducible repeat (first | refine blk_drewN ?_ _ | refine blk_drew ?_ | refine blk_alloc ?_ _)); exact BK224.out) k_ hk, Kd.freshB (g := gb225) (o := .cells #[.string a2_0, .slice A2_1 l2_1.length c2_1] 38 (0, 0)) (by (with_reducible repeat (first | refine blk_drewN ?_ _ | refine blk_drew ?_ | refine blk_alloc ?_ _)); exact BK225.out) k_ hk⟩) _ (Nat.le_refl _)) (Below.refl _ _) (Nat.le_refl _) (by simp) ?_; (case hd => rfl); (case hg => rfl); (case hr => first | (go_simp; done) | (go_simp; rfl)); (case hp => exact (Reps.c2 (show Kd.FK k38 _ _ (⟨a1_0, l1_1⟩ : S38) [.string a1_0, .slice A1_1 l1_1.length c1_1] from (k38_mkF _ _ (⟨a1_0, l1_1⟩ : S38) (Kd.V_reads' (Kd.V_mono (ok' := (fun k_ => ((P1_1_ k_ ∨ P2_1_ k_) ∨ w.heap.size ≤ k_) ∧ some k_ ≠ (v227 : Value).ownBlock ∧ k_ ≠ gb224 ∧ k_ ≠ gb225)) (HO1_1.out) (fun k_ hk => by first | exact hk | (simp only [hk, ne_eq, not_false_eq_true, and_self, true_and, and_true, or_true, true_or]; done) | (simp only [ne_eq, and_assoc] at hk ⊢; simp only [hk, not_false_eq_true, and_self, true_and, and_true])))).2.1 (Kd.V_F (Kd.V_mono (ok' := (fun k_ => ((P1_1_ k_ ∨ P2_1_ k_) ∨ w.heap.size ≤ k_) ∧ some k_ ≠ (v227 : Value).ownBlock ∧ k_ ≠ gb224 ∧ k_ ≠ gb225)) (HO1_1.out) (fun k_ hk => by first | exact hk | (simp only [hk, ne_eq, not_false_eq_true, and_self, true_and, and_true, or_true, true_or]; done) | (simp only [ne_eq, and_assoc] at hk ⊢; simp only [hk, not_false_eq_true, and_self, true_and, and_true])))))) (Reps.none _ _)))
     intro v230 w18 ho19 hb hg_ hnew_
     clear hg_ hnew_
     (first | rw [← Ny229.out] at ho19 | (simp only [Int.reduceToNat] at ho19; rw [← Ny229.out] at ho19))
     have n0_ := Aside0.mk (Kd.V_elder' (by (with_reducible repeat (first | apply Kd.V_alloc | apply Kd.V_drewN | apply Kd.V_drew)); exact HO1_1.out) (Kd.N_base ho19) hb)
     have n1_ := Aside0.mk (Kd.V_elder' (by (with_reducible repeat (first | apply Kd.V_alloc | apply Kd.V_drewN | apply Kd.V_drew)); exact HO2_1.out) (Kd.N_base ho19) hb)
     have n2_ := Aside0.mk (Kd.N_elder' (by (with_reducible repeat (first | apply Kd.N_alloc | apply Kd.N_drewN | apply Kd.N_drew)); first | exact HO228.out | exact Kd.N_mono HO228.out (fun k_ hk => by first | exact hk | (simp only [hk, ne_eq, not_false_eq_true, and_self, true_and, and_true, or_true, true_or]; done) | (simp only [ne_eq, and_assoc] at hk ⊢; simp only [hk, not_false_eq_true, and_self, true_and, and_true]))) (Kd.N_base ho19) hb)
     have n3_ := Aside0.mk (Kd.N_lower ho19 (below_size (by repeat (first | (with_reducible first | exact HB.out | apply below_alloc | apply pw_below_drewN | apply below_drew1 | refine below_set ?_ GE224.out | refine below_set ?_ GE225.out) | exact HB.out))))
     have n4_ := Aside0.mk (blk_below (g := gb224) (o := .cells #[.string a1_0, .slice A1_1 l1_1.length c1_1] 38 (0, 0)) (by (with_reducible repeat (first | refine blk_drewN ?_ _ | refine blk_drew ?_ | refine blk_alloc ?_ _)); exact BK224.out) hb)
     have n5_ := Aside0.mk (blk_below (g := gb225) (o := .cells #[.string a2_0, .slice A2_1 l2_1.length c2_1] 38 (0, 0)) (by (with_reducible repeat (first | refine blk_drewN ?_ _ | refine blk_drew ?_ | refine blk_alloc ?_ _)); exact BK225.out) hb)
     have n6_ := Aside0.mk (below_step (by repeat (first | (with_reducible first | exact HB.out | apply below_alloc | apply pw_below_drewN | apply below_drew1 | refine below_set ?_ GE224.out | refine below_set ?_ GE225.out) | exact HB.out)) hb)
     have z_HO237 := fun (h0_ : b 4 = true) => (show Kd.N k38 38 w18 w.heap.size (fun k_ => ((P1_1_ k_ ∨ P2_1_ k_) ∨ w.heap.size ≤ k_) ∧ some k_ ≠ (v227 : Value).ownBlock ∧ k_ ≠ gb224 ∧ k_ ≠ gb225) v236 y235 from by first | exact (Kd.N_elder' (by (with_reducible repeat (first | apply Kd.N_alloc | apply Kd.N_drewN | apply Kd.N_drew)); exact (Q_HO237 h0_)) (Kd.N_base ho19) hb) | exact Kd.N_mono (Kd.N_elder' (by (with_reducible repeat (first | apply Kd.N_alloc | apply Kd.N_drewN | apply Kd.N_drew)); exact (Q_HO237 h0_)) (Kd.N_base ho19) hb) (fun _ h_ => by first | trivial | exact h_ | exact h_.1))
     clear HO1_1
     clear HO2_1
     clear HO228
     clear BK224
     clear BK225
     clear HB
     have HO1_1 := n0_
     have HO2_1 := n1_
     have HO228 := n2_
     have HO231 := n3_
     have BK224 := n4_
     have BK225 := n5_
     have HB := n6_
     clear n0_ n1_ n2_ n3_ n4_ n5_ n6_
     clear hb ho19
     refine hK.out _ _ ⟨v230, v233, v236, v239, m6_, m7_, (by rw [ha.out]; exact putSel_upk 1 hb_ rfl rfl rfl), (by (with_reducible repeat (first | apply Kd.V_alloc | apply Kd.V_drewN | apply Kd.V_drew)); exact Kd.V_mono HO1_1.out (fun _ hk => by first | exact hk | (simp only [hk, ne_eq, not_false_eq_true, and_self, true_and, and_true, or_true, true_or]; done) | (simp only [ne_eq, and_assoc] at hk ⊢; simp only [hk, not_false_eq_true, and_self, true_and, and_true]))), (by (with_reducible repeat (first | apply Kd.N_alloc | apply Kd.N_drewN | apply Kd.N_drew)); exact Kd.N_mono HO228.out (fun _ hk => by first | exact hk | (simp only [hk, ne_eq, not_false_eq_true, and_self, true_and, and_true, or_true, true_or]; done) | (simp only [ne_eq, and_assoc] at hk ⊢; simp only [hk, not_false_eq_true, and_self, true_and, and_true]))), (by (with_reducible repeat (first | apply Kd.V_alloc | apply Kd.V_drewN | apply Kd.V_drew)); exact Kd.V_mono HO2_1.out (fun _ hk => by first | exact hk | (simp only [hk, ne_eq, not_false_eq_true, and_self, true_and, and_true, or_true, true_or]; done) | (simp only [ne_eq, and_assoc] at hk ⊢; simp only [hk, not_false_eq_true, and_self, true_and, and_true]))), (by (with_reducible repeat (first | refine blk_drewN ?_ _ | refine blk_drew ?_ | refine blk_alloc ?_ _)); exact BK224.out), (by (with_reducible repeat (first | refine blk_drewN ?_ _ | refine blk_drew ?_ | refine blk_alloc ?_ _)); exact BK225.out), (by repeat (first | (with_reducible first | exact HB.out | apply below_alloc | apply pw_below_drewN | apply below_drew1 | refine below_set ?_ GE224.out | refine below_set ?_ GE225.out) | exact HB.out)), fun _ => (by (with_reducible repeat (first | apply Kd.N_alloc | apply Kd.N_drewN | apply Kd.N_drew)); first | exact HO231.out | exact Kd.N_mono HO231.out (fun k_ hk => by first | exact hk | (simp only [hk, ne_eq, not_false_eq_true, and_self, true_and, and_true, or_true, true_or]; done) | (simp only [ne_eq, and_assoc] at hk ⊢; simp only [hk, not_false_eq_true, and_self, true_and, and_true]))), fun h0_ => absurd ((hoff 2 (by kernel_rfl)).symm.trans h0_) (by decide), z_HO237, fun h0_ => absurd ((hoff 5 (by kernel_rfl)).symm.trans h0_) (by decide), fun h0_ => absurd ((hoff 6 (by kernel_rfl)).symm.trans h0_) (by decide), fun h0_ => absurd ((hoff 7 (by kernel_rfl)).symm.trans h0_) (by decide)⟩
    refine steps_cons ?_ ?_
    ·rintro b a w' ⟨v230, v233, v236, v239, m6_, m7_, ha, Q_HO1_1, Q_HO228, Q_HO2_1, Q_BK224, Q_BK225, Q_HB, Q_HO231, Q_HO234, Q_HO237, Q_HO240, Q_X6_, Q_X7_⟩ hb_ hon hoff
     refine ⟨_, rfl, fun K hK => ?_⟩
     have e18 : a.tmps[18]? = some (v230) := by rw [ha]; exact putSel_on (e := (1, 18, v230)) 1 rfl rfl (hon 1 (by kernel_rfl)) rfl
     replace ha := Aside0.mk ha
     have HO1_1 := Aside0.mk Q_HO1_1
     have HO228 := Aside0.mk Q_HO228
     have HO2_1 := Aside0.mk Q_HO2_1
     have BK224 := Aside0.mk Q_BK224
     have BK225 := Aside0.mk Q_BK225
     have HB := Aside0.mk Q_HB
     have HO231 := Aside0.mk (Q_HO231 (hon 1 (by kernel_rfl)))
     obtain ⟨Ao21, co21, eo21⟩ := Kd.N_slice HO231.out
     (first | subst eo21 | (injection eo21 with f1_ f2_ f3_; have f4_ := f1_.symm; have f5_ := f3_.symm; clear f1_ f2_ f3_; subst f4_; subst f5_))
     refine goes_ Try.func9 (by kernel_rfl) rfl #[.slice Ao21 y229.length co21] (by rfl) rfl rfl (by first | (simp only [List.map_toArray, List.map_cons, List.map_nil, Act.eval, Array.getD_eq_getD_getElem?, Option.getD_some, e18]; done) | (simp only [List.map_toArray, List.map_cons, List.map_nil, Act.eval, Array.getD_eq_getD_getElem?, Option.getD_some, e18]; rfl)) ?_
     with_reducible refine (cellarerlaw06_Few.calls k _ _ y229 t232 _ ?side1 ?side2 A5.out).mono ?_
     (case side1 => repeat (first | exact (Kd.N_reads' HO231.out).2.2 | (with_reducible refine Kd.C_alloc ?_ _) | (with_reducible refine Kd.C_drewN ?_ _) | (with_reducible refine Kd.C_drew ?_)))
     (case side2 => exact (Kd.N_reads' HO231.out).2.1)
     rintro e w22 ⟨v233, rfl, ho0, hb⟩
     refine ⟨_, rfl, ?_⟩
     have n0_ := Aside0.mk (Kd.V_elder' (by (with_reducible repeat (first | apply Kd.V_alloc | apply Kd.V_drewN | apply Kd.V_drew)); exact HO1_1.out) (by first | exact Kd.N_base ho0 | exact Kd.N_base (Kd.S_N ho0)) hb)
     have n1_ := Aside0.mk (Kd.V_elder' (by (with_reducible repeat (first | apply Kd.V_alloc | apply Kd.V_drewN | apply Kd.V_drew)); exact HO2_1.out) (by first | exact Kd.N_base ho0 | exact Kd.N_base (Kd.S_N ho0)) hb)
     have n2_ := Aside0.mk (Kd.N_elder' (by (with_reducible repeat (first | apply Kd.N_alloc | apply Kd.N_drewN | apply Kd.N_drew)); first | exact HO228.out | exact Kd.N_mono HO228.out (fun k_ hk => by first | exact hk | (simp only [hk, ne_eq, not_false_eq_true, and_self, true_and, and_true, or_true, true_or]; done) | (simp only [ne_eq, and_assoc] at hk ⊢; simp only [hk, not_false_eq_true, and_self, true_and, and_true]))) (by first | exact Kd.N_base ho0 | exact Kd.N_base (Kd.S_N ho0)) hb)
     have n3_ := Aside0.mk (Kd.N_elder' (by (with_reducible repeat (first | apply Kd.N_alloc | apply Kd.N_drewN | apply Kd.N_drew)); first | exact HO231.out | exact Kd.N_mono HO231.out (fun k_ hk => by first | exact hk | (simp only [hk, ne_eq, not_false_eq_true, and_self, true_and, and_true, or_true, true_or]; done) | (simp only [ne_eq, and_assoc] at hk ⊢; simp only [hk, not_false_eq_true, and_self, true_and, and_true]))) (by first | exact Kd.N_base ho0 | exact Kd.N_base (Kd.S_N ho0)) hb)
     have n4_ := Aside0.mk (Kd.N_lower (Kd.N_mono (ok' := fun k_ => ((P1_1_ k_ ∨ P2_1_ k_) ∨ w.heap.size ≤ k_) ∧ some k_ ≠ (v227 : Value).ownBlock ∧ some k_ ≠ (.slice Ao21 y229.length co21 : Value).ownBlock ∧ k_ ≠ gb224 ∧ k_ ≠ gb225) (Kd.S_N (Kd.S_bound ho0)) (fun k_ hk_ => ⟨(.inr (Nat.le_trans (below_size (by repeat (first | (with_reducible first | exact HB.out | apply below_alloc | apply pw_below_drewN | apply below_drew1 | refine below_set ?_ GE224.out | refine below_set ?_ GE225.out) | exact HB.out))) hk_.2.1)), (Kd.fresh' (Kd.N_lt (by (with_reducible repeat (first | apply Kd.N_alloc | apply Kd.N_drewN | apply Kd.N_drew)); first | exact HO228.out | exact Kd.N_mono HO228.out (fun k_ hk => by first | exact hk | (simp only [hk, ne_eq, not_false_eq_true, and_self, true_and, and_true, or_true, true_or]; done) | (simp only [ne_eq, and_assoc] at hk ⊢; simp only [hk, not_false_eq_true, and_self, true_and, and_true])))) k_ hk_.2.1), (Kd.fresh' (Kd.N_lt (by (with_reducible repeat (first | apply Kd.N_alloc | apply Kd.N_drewN | apply Kd.N_drew)); first | exact HO231.out | exact Kd.N_mono HO231.out (fun k_ hk => by first | exact hk | (simp only [hk, ne_eq, not_false_eq_true, and_self, true_and, and_true, or_true, true_or]; done) | (simp only [ne_eq, and_assoc] at hk ⊢; simp only [hk, not_false_eq_true, and_self, true_and, and_true])))) k_ hk_.2.1), (Kd.freshB (g := gb224) (o := .cells #[.string a1_0, .slice A1_1 l1_1.length c1_1] 38 (0, 0)) (by (with_reducible repeat (first | refine blk_drewN ?_ _ | refine blk_drew ?_ | refine blk_alloc ?_ _)); exact BK224.out) k_ hk_.2.1), (Kd.freshB (g := gb225) (o := .cells #[.string a2_0, .slice A2_1 l2_1.length c2_1] 38 (0, 0)) (by (with_reducible repeat (first | refine blk_drewN ?_ _ | refine blk_drew ?_ | refine blk_alloc ?_ _)); exact BK225.out) k_ hk_.2.1)⟩)) (below_size (by repeat (first | (with_reducible first | exact HB.out | apply below_alloc | apply pw_below_drewN | apply below_drew1 | refine below_set ?_ GE224.out | refine below_set ?_ GE225.out) | exact HB.out))))
     have n5_ := Aside0.mk (blk_below (g := gb224) (o := .cells #[.string a1_0, .slice A1_1 l1_1.length c1_1] 38 (0, 0)) (by (with_reducible repeat (first | refine blk_drewN ?_ _ | refine blk_drew ?_ | refine blk_alloc ?_ _)); exact BK224.out) hb)
     have n6_ := Aside0.mk (blk_below (g := gb225) (o := .cells #[.string a2_0, .slice A2_1 l2_1.length c2_1] 38 (0, 0)) (by (with_reducible repeat (first | refine blk_drewN ?_ _ | refine blk_drew ?_ | refine blk_alloc ?_ _)); exact BK225.out) hb)
     have n7_ := Aside0.mk (below_step (by repeat (first | (with_reducible first | exact HB.out | apply below_alloc | apply pw_below_drewN | apply below_drew1 | refine below_set ?_ GE224.out | refine below_set ?_ GE225.out) | exact HB.out)) hb)
     have z_HO237 := fun (h0_ : b 4 = true) => (show Kd.N k38 38 w22 w.heap.size (fun k_ => ((P1_1_ k_ ∨ P2_1_ k_) ∨ w.heap.size ≤ k_) ∧ some k_ ≠ (v227 : Value).ownBlock ∧ k_ ≠ gb224 ∧ k_ ≠ gb225) v236 y235 from by first | exact (Kd.N_elder' (by (with_reducible repeat (first | apply Kd.N_alloc | apply Kd.N_drewN | apply Kd.N_drew)); exact (Q_HO237 h0_)) (by first | exact Kd.N_base ho0 | exact Kd.N_base (Kd.S_N ho0)) hb) | exact Kd.N_mono (Kd.N_elder' (by (with_reducible repeat (first | apply Kd.N_alloc | apply Kd.N_drewN | apply Kd.N_drew)); exact (Q_HO237 h0_)) (by first | exact Kd.N_base ho0 | exact Kd.N_base (Kd.S_N ho0)) hb) (fun _ h_ => by first | trivial | exact h_ | exact h_.1))
     clear HO1_1
     clear HO2_1
     clear HO228
     clear HO231
     clear BK224
     clear BK225
     clear HB
     have HO1_1 := n0_
     have HO2_1 := n1_
     have HO228 := n2_
     have HO231 := n3_
     have HO234 := n4_
     have BK224 := n5_
     have BK225 := n6_
     have HB := n7_
     clear n0_ n1_ n2_ n3_ n4_ n5_ n6_ n7_
     (try clear hb)
     (try clear hb2)
     (try clear hk)
     (try clear hi)
     (try clear ho0)
     refine hK.out _ _ ⟨.slice Ao21 y229.length co21, v233, v236, v239, m6_, m7_, (by rw [ha.out]; exact putSel_upk 2 hb_ rfl rfl rfl), (by (with_reducible repeat (first | apply Kd.V_alloc | apply Kd.V_drewN | apply Kd.V_drew)); exact Kd.V_mono HO1_1.out (fun _ hk => by first | exact hk | (simp only [hk, ne_eq, not_false_eq_true, and_self, true_and, and_true, or_true, true_or]; done) | (simp only [ne_eq, and_assoc] at hk ⊢; simp only [hk, not_false_eq_true, and_self, true_and, and_true]))), (by (with_reducible repeat (first | apply Kd.N_alloc | apply Kd.N_drewN | apply Kd.N_drew)); exact Kd.N_mono HO228.out (fun _ hk => by first | exact hk | (simp only [hk, ne_eq, not_false_eq_true, and_self, true_and, and_true, or_true, true_or]; done) | (simp only [ne_eq, and_assoc] at hk ⊢; simp only [hk, not_false_eq_true, and_self, true_and, and_true]))), (by (with_reducible repeat (first | apply Kd.V_alloc | apply Kd.V_drewN | apply Kd.V_drew)); exact Kd.V_mono HO2_1.out (fun _ hk => by first | exact hk | (simp only [hk, ne_eq, not_false_eq_true, and_self, true_and, and_true, or_true, true_or]; done) | (simp only [ne_eq, and_assoc] at hk ⊢; simp only [hk, not_false_eq_true, and_self, true_and, and_true]))), (by (with_reducible repeat (first | refine blk_drewN ?_ _ | refine blk_drew ?_ | refine blk_alloc ?_ _)); exact BK224.out), (by (with_reducible repeat (first | refine blk_drewN ?_ _ | refine blk_drew ?_ | refine blk_alloc ?_ _)); exact BK225.out), (by repeat (first | (with_reducible first | exact HB.out | apply below_alloc | apply pw_below_drewN | apply below_drew1 | refine below_set ?_ GE224.out | refine below_set ?_ GE225.out) | exact HB.out)), fun _ => (by (with_reducible repeat (first | apply Kd.N_alloc | apply Kd.N_drewN | apply Kd.N_drew)); exact Kd.N_mono HO231.out (fun _ hk => by first | exact hk | (simp only [hk, ne_eq, not_false_eq_true, and_self, true_and, and_true, or_true, true_or]; done) | (simp only [ne_eq, and_assoc] at hk ⊢; simp only [hk, not_false_eq_true, and_self, true_and, and_true]))), fun _ => (by (with_reducible repeat (first | apply Kd.N_alloc | apply Kd.N_drewN | apply Kd.N_drew)); first | exact HO234.out | exact Kd.N_mono HO234.out (fun k_ hk => by first | exact hk | (simp only [hk, ne_eq, not_false_eq_true, and_self, true_and, and_true, or_true, true_or]; done) | (simp only [ne_eq, and_assoc] at hk ⊢; simp only [hk, not_false_eq_true, and_self, true_and, and_true]))), z_HO237, fun h0_ => absurd ((hoff 5 (by kernel_rfl)).symm.trans h0_) (by decide), fun h0_ => absurd ((hoff 6 (by kernel_rfl)).symm.trans h0_) (by decide), fun h0_ => absurd ((hoff 7 (by kernel_rfl)).symm.trans h0_) (by decide)⟩
    refine steps_cons ?_ ?_
    ·rintro b a w' ⟨v230, v233, v236, v239, m6_, m7_, ha, Q_HO1_1, Q_HO228, Q_HO2_1, Q_BK224, Q_BK225, Q_HB, Q_HO231, Q_HO234, Q_HO237, Q_HO240, Q_X6_, Q_X7_⟩ hb_ hon hoff
     refine ⟨_, rfl, fun K hK => ?_⟩
     have e5 : a.tmps[5]? = some (.pointer (some ⟨gb225, 0, none⟩)) := by rw [ha]; exact (putSel_off rfl).trans rfl
     replace ha := Aside0.mk ha
     have HO1_1 := Aside0.mk Q_HO1_1
     have HO228 := Aside0.mk Q_HO228
     have HO2_1 := Aside0.mk Q_HO2_1
     have BK224 := Aside0.mk Q_BK224
     have BK225 := Aside0.mk Q_BK225
     have HB := Aside0.mk Q_HB
     have hc0_ : w'.cell? ⟨gb225, 0, none⟩ = some (.string a2_0) := (blk_cell BK225.out 0).trans rfl
     have hc1_ : w'.cell? ⟨gb225, 1, none⟩ = some (.slice A2_1 l2_1.length c2_1) := (blk_cell BK225.out 1).trans rfl
     refine value_ (w1 := w') (v := .agg #[.string a2_0, .slice A2_1 l2_1.length c2_1]) (by rfl) rfl ?_ ?_
     ·go_simp
      (try simp only [i64_w])
      try rfl
     refine hK.out _ _ ⟨v230, v233, v236, v239, m6_, m7_, (by rw [ha.out]; exact putSel_upk 3 hb_ rfl rfl rfl), Q_HO1_1, Q_HO228, Q_HO2_1, Q_BK224, Q_BK225, Q_HB, Q_HO231, Q_HO234, fun h0_ => absurd ((hoff 4 (by kernel_rfl)).symm.trans h0_) (by decide), fun h0_ => absurd ((hoff 5 (by kernel_rfl)).symm.trans h0_) (by decide), fun h0_ => absurd ((hoff 6 (by kernel_rfl)).symm.trans h0_) (by decide), fun h0_ => absurd ((hoff 7 (by kernel_rfl)).symm.trans h0_) (by decide)⟩
    refine steps_cons ?_ ?_
    ·rintro b a w' ⟨v230, v233, v236, v239, m6_, m7_, ha, Q_HO1_1, Q_HO228, Q_HO2_1, Q_BK224, Q_BK225, Q_HB, Q_HO231, Q_HO234, Q_HO237, Q_HO240, Q_X6_, Q_X7_⟩ hb_ hon hoff
     refine ⟨_, rfl, fun K hK => ?_⟩
     have e20 : a.tmps[20]? = some (.agg #[.string a2_0, .slice A2_1 l2_1.length c2_1]) := by rw [ha]; exact putSel_on (e := (3, 20, .agg #[.string a2_0, .slice A2_1 l2_1.length c2_1])) 3 rfl rfl (hon 3 (by kernel_rfl)) rfl
     replace ha := Aside0.mk ha
     have HO1_1 := Aside0.mk Q_HO1_1
     have HO228 := Aside0.mk Q_HO228
     have HO2_1 := Aside0.mk Q_HO2_1
     have BK224 := Aside0.mk Q_BK224
     have BK225 := Aside0.mk Q_BK225
     have HB := Aside0.mk Q_HB
     refine Kd.N_lit_step k38 _ 38 ?hg (N' := 21) ?hd (xs := ([(⟨a2_0, l2_1⟩ : S38)] : List (S38))) (inner := [.string a2_0, .slice A2_1 l2_1.length c2_1]) (ok := (fun k_ => ((P1_1_ k_ ∨ P2_1_ k_) ∨ w.heap.size ≤ k_) ∧ some k_ ≠ (v227 : Value).ownBlock ∧ k_ ≠ gb224 ∧ k_ ≠ gb225)) (okp := (fun k_ => ((P1_1_ k_ ∨ P2_1_ k_) ∨ w.heap.size ≤ k_) ∧ some k_ ≠ (v227 : Value).ownBlock ∧ k_ ≠ gb224 ∧ k_ ≠ gb225)) ?hr ?hp (fun _ hk => hk) ((show ∀ k_, w'.heap.size ≤ k_ → (fun k_ => ((P1_1_ k_ ∨ P2_1_ k_) ∨ w.heap.size ≤ k_) ∧ some k_ ≠ (v227 : Value).ownBlock ∧ k_ ≠ gb224 ∧ k_ ≠ gb225) k_ from fun k_ hk => ⟨(.inr (Nat.le_trans (below_size (by repeat (first | (with_reducible first | exact HB.out | apply below_alloc | apply pw_below_drewN | apply below_drew1 | refine below_set ?_ GE224.out | refine below_set ?_ GE225.out) | exact HB.out))) hk)), Kd.fresh' (Kd.N_lt (by (with_reducible repeat (first | apply Kd.N_alloc | apply Kd.N_drewN | apply Kd.N_drew)); first | exact HO228.out | exact Kd.N_mono HO228.out (fun k_ hk => by first | exact hk | (simp only [hk, ne_eq, not_false_eq_true, and_self, true_and, and_true, or_true, true_or]; done) | (simp only [ne_eq, and_assoc] at hk ⊢; simp only [hk, not_false_eq_true, and_self, true_and, and_true])))) k_ hk, Kd.freshB (g := gb224) (o := .cells #[.string a1_0, .slice A1_1 l1_1.length c1_1] 38 (0, 0)) (by (with_reducible repeat (first | refine blk_drewN ?_ _ | refine blk_drew ?_ | refine blk_alloc ?_ _)); exact BK224.out) k_ hk, Kd.freshB (g := gb225) (o := .cells #[.string a2_0, .slice A2_1 l2_1.length c2_1] 38 (0, 0)) (by (with_reducible repeat (first | refine blk_drewN ?_ _ | refine blk_drew ?_ | refine blk_alloc ?_ _)); exact BK225.out) k_ hk⟩) _ (Nat.le_refl _)) (Below.refl _ _) (Nat.le_refl _) (by simp) ?_; (case hd => rfl); (case hg => rfl); (case hr => first | (go_simp; done) | (go_simp; rfl)); (case hp => exact (Reps.c2 (show Kd.FK k38 _ _ (⟨a2_0, l2_1⟩ : S38) [.string a2_0, .slice A2_1 l2_1.length c2_1] from (k38_mkF _ _ (⟨a2_0, l2_1⟩ : S38) (Kd.V_reads' (Kd.V_mono (ok' := (fun k_ => ((P1_1_ k_ ∨ P2_1_ k_) ∨ w.heap.size ≤ k_) ∧ some k_ ≠ (v227 : Value).ownBlock ∧ k_ ≠ gb224 ∧ k_ ≠ gb225)) (HO2_1.out) (fun k_ hk => by first | exact hk | (simp only [hk, ne_eq, not_false_eq_true, and_self, true_and, and_true, or_true, true_or]; done) | (simp only [ne_eq, and_assoc] at hk ⊢; simp only [hk, not_false_eq_true, and_self, true_and, and_true])))).2.1 (Kd.V_F (Kd.V_mono (ok' := (fun k_ => ((P1_1_ k_ ∨ P2_1_ k_) ∨ w.heap.size ≤ k_) ∧ some k_ ≠ (v227 : Value).ownBlock ∧ k_ ≠ gb224 ∧ k_ ≠ gb225)) (HO2_1.out) (fun k_ hk => by first | exact hk | (simp only [hk, ne_eq, not_false_eq_true, and_self, true_and, and_true, or_true, true_or]; done) | (simp only [ne_eq, and_assoc] at hk ⊢; simp only [hk, not_false_eq_true, and_self, true_and, and_true])))))) (Reps.none _ _)))
     intro v236 w18 ho19 hb hg_ hnew_
     clear hg_ hnew_
     (first | rw [← Ny235.out] at ho19 | (simp only [Int.reduceToNat] at ho19; rw [← Ny235.out] at ho19))
     have n0_ := Aside0.mk (Kd.V_elder' (by (with_reducible repeat (first | apply Kd.V_alloc | apply Kd.V_drewN | apply Kd.V_drew)); exact HO1_1.out) (Kd.N_base ho19) hb)
     have n1_ := Aside0.mk (Kd.V_elder' (by (with_reducible repeat (first | apply Kd.V_alloc | apply Kd.V_drewN | apply Kd.V_drew)); exact HO2_1.out) (Kd.N_base ho19) hb)
     have n2_ := Aside0.mk (Kd.N_elder' (by (with_reducible repeat (first | apply Kd.N_alloc | apply Kd.N_drewN | apply Kd.N_drew)); first | exact HO228.out | exact Kd.N_mono HO228.out (fun k_ hk => by first | exact hk | (simp only [hk, ne_eq, not_false_eq_true, and_self, true_and, and_true, or_true, true_or]; done) | (simp only [ne_eq, and_assoc] at hk ⊢; simp only [hk, not_false_eq_true, and_self, true_and, and_true]))) (Kd.N_base ho19) hb)
     have n3_ := Aside0.mk (Kd.N_lower ho19 (below_size (by repeat (first | (with_reducible first | exact HB.out | apply below_alloc | apply pw_below_drewN | apply below_drew1 | refine below_set ?_ GE224.out | refine below_set ?_ GE225.out) | exact HB.out))))
     have n4_ := Aside0.mk (blk_below (g := gb224) (o := .cells #[.string a1_0, .slice A1_1 l1_1.length c1_1] 38 (0, 0)) (by (with_reducible repeat (first | refine blk_drewN ?_ _ | refine blk_drew ?_ | refine blk_alloc ?_ _)); exact BK224.out) hb)
     have n5_ := Aside0.mk (blk_below (g := gb225) (o := .cells #[.string a2_0, .slice A2_1 l2_1.length c2_1] 38 (0, 0)) (by (with_reducible repeat (first | refine blk_drewN ?_ _ | refine blk_drew ?_ | refine blk_alloc ?_ _)); exact BK225.out) hb)
     have n6_ := Aside0.mk (below_step (by repeat (first | (with_reducible first | exact HB.out | apply below_alloc | apply pw_below_drewN | apply below_drew1 | refine below_set ?_ GE224.out | refine below_set ?_ GE225.out) | exact HB.out)) hb)
     have z_HO231 := fun (h0_ : b 1 = true) => (show Kd.N k38 38 w18 w.heap.size (fun k_ => ((P1_1_ k_ ∨ P2_1_ k_) ∨ w.heap.size ≤ k_) ∧ some k_ ≠ (v227 : Value).ownBlock ∧ k_ ≠ gb224 ∧ k_ ≠ gb225) v230 y229 from by first | exact (Kd.N_elder' (by (with_reducible repeat (first | apply Kd.N_alloc | apply Kd.N_drewN | apply Kd.N_drew)); exact (Q_HO231 h0_)) (Kd.N_base ho19) hb) | exact Kd.N_mono (Kd.N_elder' (by (with_reducible repeat (first | apply Kd.N_alloc | apply Kd.N_drewN | apply Kd.N_drew)); exact (Q_HO231 h0_)) (Kd.N_base ho19) hb) (fun _ h_ => by first | trivial | exact h_ | exact h_.1))
     have z_HO234 := fun (h0_ : b 2 = true) => (show Kd.N k38 38 w18 w.heap.size (fun k_ => ((P1_1_ k_ ∨ P2_1_ k_) ∨ w.heap.size ≤ k_) ∧ some k_ ≠ (v227 : Value).ownBlock ∧ k_ ≠ gb224 ∧ k_ ≠ gb225) v233 t232 from by first | exact (Kd.N_elder' (by (with_reducible repeat (first | apply Kd.N_alloc | apply Kd.N_drewN | apply Kd.N_drew)); exact (Q_HO234 h0_)) (Kd.N_base ho19) hb) | exact Kd.N_mono (Kd.N_elder' (by (with_reducible repeat (first | apply Kd.N_alloc | apply Kd.N_drewN | apply Kd.N_drew)); exact (Q_HO234 h0_)) (Kd.N_base ho19) hb) (fun _ h_ => by first | trivial | exact h_ | exact h_.1))
     clear HO1_1
     clear HO2_1
     clear HO228
     clear BK224
     clear BK225
     clear HB
     have HO1_1 := n0_
     have HO2_1 := n1_
     have HO228 := n2_
     have HO237 := n3_
     have BK224 := n4_
     have BK225 := n5_
     have HB := n6_
     clear n0_ n1_ n2_ n3_ n4_ n5_ n6_
     clear hb ho19
     refine hK.out _ _ ⟨v230, v233, v236, v239, m6_, m7_, (by rw [ha.out]; exact putSel_upk 4 hb_ rfl rfl rfl), (by (with_reducible repeat (first | apply Kd.V_alloc | apply Kd.V_drewN | apply Kd.V_drew)); exact Kd.V_mono HO1_1.out (fun _ hk => by first | exact hk | (simp only [hk, ne_eq, not_false_eq_true, and_self, true_and, and_true, or_true, true_or]; done) | (simp only [ne_eq, and_assoc] at hk ⊢; simp only [hk, not_false_eq_true, and_self, true_and, and_true]))), (by (with_reducible repeat (first | apply Kd.N_alloc | apply Kd.N_drewN | apply Kd.N_drew)); exact Kd.N_mono HO228.out (fun _ hk => by first | exact hk | (simp only [hk, ne_eq, not_false_eq_true, and_self, true_and, and_true, or_true, true_or]; done) | (simp only [ne_eq, and_assoc] at hk ⊢; simp only [hk, not_false_eq_true, and_self, true_and, and_true]))), (by (with_reducible repeat (first | apply Kd.V_alloc | apply Kd.V_drewN | apply Kd.V_drew)); exact Kd.V_mono HO2_1.out (fun _ hk => by first | exact hk | (simp only [hk, ne_eq, not_false_eq_true, and_self, true_and, and_true, or_true, true_or]; done) | (simp only [ne_eq, and_assoc] at hk ⊢; simp only [hk, not_false_eq_true, and_self, true_and, and_true]))), (by (with_reducible repeat (first | refine blk_drewN ?_ _ | refine blk_drew ?_ | refine blk_alloc ?_ _)); exact BK224.out), (by (with_reducible repeat (first | refine blk_drewN ?_ _ | refine blk_drew ?_ | refine blk_alloc ?_ _)); exact BK225.out), (by repeat (first | (with_reducible first | exact HB.out | apply below_alloc | apply pw_below_drewN | apply below_drew1 | refine below_set ?_ GE224.out | refine below_set ?_ GE225.out) | exact HB.out)), z_HO231, z_HO234, fun _ => (by (with_reducible repeat (first | apply Kd.N_alloc | apply Kd.N_drewN | apply Kd.N_drew)); first | exact HO237.out | exact Kd.N_mono HO237.out (fun k_ hk => by first | exact hk | (simp only [hk, ne_eq, not_false_eq_true, and_self, true_and, and_true, or_true, true_or]; done) | (simp only [ne_eq, and_assoc] at hk ⊢; simp only [hk, not_false_eq_true, and_self, true_and, and_true]))), fun h0_ => absurd ((hoff 5 (by kernel_rfl)).symm.trans h0_) (by decide), fun h0_ => absurd ((hoff 6 (by kernel_rfl)).symm.trans h0_) (by decide), fun h0_ => absurd ((hoff 7 (by kernel_rfl)).symm.trans h0_) (by decide)⟩
    refine steps_cons ?_ ?_
    ·rintro b a w' ⟨v230, v233, v236, v239, m6_, m7_, ha, Q_HO1_1, Q_HO228, Q_HO2_1, Q_BK224, Q_BK225, Q_HB, Q_HO231, Q_HO234, Q_HO237, Q_HO240, Q_X6_, Q_X7_⟩ hb_ hon hoff
     refine ⟨_, rfl, fun K hK => ?_⟩
     have e21 : a.tmps[21]? = some (v236) := by rw [ha]; exact putSel_on (e := (4, 21, v236)) 4 rfl rfl (hon 4 (by kernel_rfl)) rfl
     replace ha := Aside0.mk ha
     have HO1_1 := Aside0.mk Q_HO1_1
     have HO228 := Aside0.mk Q_HO228
     have HO2_1 := Aside0.mk Q_HO2_1
     have BK224 := Aside0.mk Q_BK224
     have BK225 := Aside0.mk Q_BK225
     have HB := Aside0.mk Q_HB
     have HO231 := Aside0.mk (Q_HO231 (hon 1 (by kernel_rfl)))
     have HO234 := Aside0.mk (Q_HO234 (hon 2 (by kernel_rfl)))
     have HO237 := Aside0.mk (Q_HO237 (hon 4 (by kernel_rfl)))
     obtain ⟨Ao25, co25, eo25⟩ := Kd.N_slice HO237.out
     (first | subst eo25 | (injection eo25 with f1_ f2_ f3_; have f4_ := f1_.symm; have f5_ := f3_.symm; clear f1_ f2_ f3_; subst f4_; subst f5_))
     refine goes_ Try.func9 (by kernel_rfl) rfl #[.slice Ao25 y235.length co25] (by rfl) rfl rfl (by first | (simp only [List.map_toArray, List.map_cons, List.map_nil, Act.eval, Array.getD_eq_getD_getElem?, Option.getD_some, e21]; done) | (simp only [List.map_toArray, List.map_cons, List.map_nil, Act.eval, Array.getD_eq_getD_getElem?, Option.getD_some, e21]; rfl)) ?_
     with_reducible refine (cellarerlaw06_Few.calls k _ _ y235 t238 _ ?side1 ?side2 A6.out).mono ?_
     (case side1 => repeat (first | exact (Kd.N_reads' HO237.out).2.2 | (with_reducible refine Kd.C_alloc ?_ _) | (with_reducible refine Kd.C_drewN ?_ _) | (with_reducible refine Kd.C_drew ?_)))
     (case side2 => exact (Kd.N_reads' HO237.out).2.1)
     rintro e w26 ⟨v239, rfl, ho0, hb⟩
     refine ⟨_, rfl, ?_⟩
     have n0_ := Aside0.mk (Kd.V_elder' (by (with_reducible repeat (first | apply Kd.V_alloc | apply Kd.V_drewN | apply Kd.V_drew)); exact HO1_1.out) (by first | exact Kd.N_base ho0 | exact Kd.N_base (Kd.S_N ho0)) hb)
     have n1_ := Aside0.mk (Kd.V_elder' (by (with_reducible repeat (first | apply Kd.V_alloc | apply Kd.V_drewN | apply Kd.V_drew)); exact HO2_1.out) (by first | exact Kd.N_base ho0 | exact Kd.N_base (Kd.S_N ho0)) hb)
     have n2_ := Aside0.mk (Kd.N_elder' (by (with_reducible repeat (first | apply Kd.N_alloc | apply Kd.N_drewN | apply Kd.N_drew)); first | exact HO228.out | exact Kd.N_mono HO228.out (fun k_ hk => by first | exact hk | (simp only [hk, ne_eq, not_false_eq_true, and_self, true_and, and_true, or_true, true_or]; done) | (simp only [ne_eq, and_assoc] at hk ⊢; simp only [hk, not_false_eq_true, and_self, true_and, and_true]))) (by first | exact Kd.N_base ho0 | exact Kd.N_base (Kd.S_N ho0)) hb)
     have n3_ := Aside0.mk (Kd.N_elder' (by (with_reducible repeat (first | apply Kd.N_alloc | apply Kd.N_drewN | apply Kd.N_drew)); first | exact HO231.out | exact Kd.N_mono HO231.out (fun k_ hk => by first | exact hk | (simp only [hk, ne_eq, not_false_eq_true, and_self, true_and, and_true, or_true, true_or]; done) | (simp only [ne_eq, and_assoc] at hk ⊢; simp only [hk, not_false_eq_true, and_self, true_and, and_true]))) (by first | exact Kd.N_base ho0 | exact Kd.N_base (Kd.S_N ho0)) hb)
     have n4_ := Aside0.mk (Kd.N_elder' (by (with_reducible repeat (first | apply Kd.N_alloc | apply Kd.N_drewN | apply Kd.N_drew)); first | exact HO234.out | exact Kd.N_mono HO234.out (fun k_ hk => by first | exact hk | (simp only [hk, ne_eq, not_false_eq_true, and_self, true_and, and_true, or_true, true_or]; done) | (simp only [ne_eq, and_assoc] at hk ⊢; simp only [hk, not_false_eq_true, and_self, true_and, and_true]))) (by first | exact Kd.N_base ho0 | exact Kd.N_base (Kd.S_N ho0)) hb)
     have n5_ := Aside0.mk (Kd.N_elder' (by (with_reducible repeat (first | apply Kd.N_alloc | apply Kd.N_drewN | apply Kd.N_drew)); first | exact HO237.out | exact Kd.N_mono HO237.out (fun k_ hk => by first | exact hk | (simp only [hk, ne_eq, not_false_eq_true, and_self, true_and, and_true, or_true, true_or]; done) | (simp only [ne_eq, and_assoc] at hk ⊢; simp only [hk, not_false_eq_true, and_self, true_and, and_true]))) (by first | exact Kd.N_base ho0 | exact Kd.N_base (Kd.S_N ho0)) hb)
     have n6_ := Aside0.mk (Kd.N_lower (Kd.N_mono (ok' := fun k_ => ((P1_1_ k_ ∨ P2_1_ k_) ∨ w.heap.size ≤ k_) ∧ some k_ ≠ (v227 : Value).ownBlock ∧ some k_ ≠ (v230 : Value).ownBlock ∧ some k_ ≠ (v233 : Value).ownBlock ∧ some k_ ≠ (.slice Ao25 y235.length co25 : Value).ownBlock ∧ k_ ≠ gb224 ∧ k_ ≠ gb225) (Kd.S_N (Kd.S_bound ho0)) (fun k_ hk_ => ⟨(.inr (Nat.le_trans (below_size (by repeat (first | (with_reducible first | exact HB.out | apply below_alloc | apply pw_below_drewN | apply below_drew1 | refine below_set ?_ GE224.out | refine below_set ?_ GE225.out) | exact HB.out))) hk_.2.1)), (Kd.fresh' (Kd.N_lt (by (with_reducible repeat (first | apply Kd.N_alloc | apply Kd.N_drewN | apply Kd.N_drew)); first | exact HO228.out | exact Kd.N_mono HO228.out (fun k_ hk => by first | exact hk | (simp only [hk, ne_eq, not_false_eq_true, and_self, true_and, and_true, or_true, true_or]; done) | (simp only [ne_eq, and_assoc] at hk ⊢; simp only [hk, not_false_eq_true, and_self, true_and, and_true])))) k_ hk_.2.1), (Kd.fresh' (Kd.N_lt (by (with_reducible repeat (first | apply Kd.N_alloc | apply Kd.N_drewN | apply Kd.N_drew)); first | exact HO231.out | exact Kd.N_mono HO231.out (fun k_ hk => by first | exact hk | (simp only [hk, ne_eq, not_false_eq_true, and_self, true_and, and_true, or_true, true_or]; done) | (simp only [ne_eq, and_assoc] at hk ⊢; simp only [hk, not_false_eq_true, and_self, true_and, and_true])))) k_ hk_.2.1), (Kd.fresh' (Kd.N_lt (by (with_reducible repeat (first | apply Kd.N_alloc | apply Kd.N_drewN | apply Kd.N_drew)); first | exact HO234.out | exact Kd.N_mono HO234.out (fun k_ hk => by first | exact hk | (simp only [hk, ne_eq, not_false_eq_true, and_self, true_and, and_true, or_true, true_or]; done) | (simp only [ne_eq, and_assoc] at hk ⊢; simp only [hk, not_false_eq_true, and_self, true_and, and_true])))) k_ hk_.2.1), (Kd.fresh' (Kd.N_lt (by (with_reducible repeat (first | apply Kd.N_alloc | apply Kd.N_drewN | apply Kd.N_drew)); first | exact HO237.out | exact Kd.N_mono HO237.out (fun k_ hk => by first | exact hk | (simp only [hk, ne_eq, not_false_eq_true, and_self, true_and, and_true, or_true, true_or]; done) | (simp only [ne_eq, and_assoc] at hk ⊢; simp only [hk, not_false_eq_true, and_self, true_and, and_true])))) k_ hk_.2.1), (Kd.freshB (g := gb224) (o := .cells #[.string a1_0, .slice A1_1 l1_1.length c1_1] 38 (0, 0)) (by (with_reducible repeat (first | refine blk_drewN ?_ _ | refine blk_drew ?_ | refine blk_alloc ?_ _)); exact BK224.out) k_ hk_.2.1), (Kd.freshB (g := gb225) (o := .cells #[.string a2_0, .slice A2_1 l2_1.length c2_1] 38 (0, 0)) (by (with_reducible repeat (first | refine blk_drewN ?_ _ | refine blk_drew ?_ | refine blk_alloc ?_ _)); exact BK225.out) k_ hk_.2.1)⟩)) (below_size (by repeat (first | (with_reducible first | exact HB.out | apply below_alloc | apply pw_below_drewN | apply below_drew1 | refine below_set ?_ GE224.out | refine below_set ?_ GE225.out) | exact HB.out))))
     have n7_ := Aside0.mk (blk_below (g := gb224) (o := .cells #[.string a1_0, .slice A1_1 l1_1.length c1_1] 38 (0, 0)) (by (with_reducible repeat (first | refine blk_drewN ?_ _ | refine blk_drew ?_ | refine blk_alloc ?_ _)); exact BK224.out) hb)
     have n8_ := Aside0.mk (blk_below (g := gb225) (o := .cells #[.string a2_0, .slice A2_1 l2_1.length c2_1] 38 (0, 0)) (by (with_reducible repeat (first | refine blk_drewN ?_ _ | refine blk_drew ?_ | refine blk_alloc ?_ _)); exact BK225.out) hb)
     have n9_ := Aside0.mk (below_step (by repeat (first | (with_reducible first | exact HB.out | apply below_alloc | apply pw_below_drewN | apply below_drew1 | refine below_set ?_ GE224.out | refine below_set ?_ GE225.out) | exact HB.out)) hb)
     clear HO1_1
     clear HO2_1
     clear HO228
     clear HO231
     clear HO234
     clear HO237
     clear BK224
     clear BK225
     clear HB
     have HO1_1 := n0_
     have HO2_1 := n1_
     have HO228 := n2_
     have HO231 := n3_
     have HO234 := n4_
     have HO237 := n5_
     have HO240 := n6_
     have BK224 := n7_
     have BK225 := n8_
     have HB := n9_
     clear n0_ n1_ n2_ n3_ n4_ n5_ n6_ n7_ n8_ n9_
     (try clear hb)
     (try clear hb2)
     (try clear hk)
     (try clear hi)
     (try clear ho0)
     refine hK.out _ _ ⟨v230, v233, .slice Ao25 y235.length co25, v239, m6_, m7_, (by rw [ha.out]; exact putSel_upk 5 hb_ rfl rfl rfl), (by (with_reducible repeat (first | apply Kd.V_alloc | apply Kd.V_drewN | apply Kd.V_drew)); exact Kd.V_mono HO1_1.out (fun _ hk => by first | exact hk | (simp only [hk, ne_eq, not_false_eq_true, and_self, true_and, and_true, or_true, true_or]; done) | (simp only [ne_eq, and_assoc] at hk ⊢; simp only [hk, not_false_eq_true, and_self, true_and, and_true]))), (by (with_reducible repeat (first | apply Kd.N_alloc | apply Kd.N_drewN | apply Kd.N_drew)); exact Kd.N_mono HO228.out (fun _ hk => by first | exact hk | (simp only [hk, ne_eq, not_false_eq_true, and_self, true_and, and_true, or_true, true_or]; done) | (simp only [ne_eq, and_assoc] at hk ⊢; simp only [hk, not_false_eq_true, and_self, true_and, and_true]))), (by (with_reducible repeat (first | apply Kd.V_alloc | apply Kd.V_drewN | apply Kd.V_drew)); exact Kd.V_mono HO2_1.out (fun _ hk => by first | exact hk | (simp only [hk, ne_eq, not_false_eq_true, and_self, true_and, and_true, or_true, true_or]; done) | (simp only [ne_eq, and_assoc] at hk ⊢; simp only [hk, not_false_eq_true, and_self, true_and, and_true]))), (by (with_reducible repeat (first | refine blk_drewN ?_ _ | refine blk_drew ?_ | refine blk_alloc ?_ _)); exact BK224.out), (by (with_reducible repeat (first | refine blk_drewN ?_ _ | refine blk_drew ?_ | refine blk_alloc ?_ _)); exact BK225.out), (by repeat (first | (with_reducible first | exact HB.out | apply below_alloc | apply pw_below_drewN | apply below_drew1 | refine below_set ?_ GE224.out | refine below_set ?_ GE225.out) | exact HB.out)), fun _ => (by (with_reducible repeat (first | apply Kd.N_alloc | apply Kd.N_drewN | apply Kd.N_drew)); exact Kd.N_mono HO231.out (fun _ hk => by first | exact hk | (simp only [hk, ne_eq, not_false_eq_true, and_self, true_and, and_true, or_true, true_or]; done) | (simp only [ne_eq, and_assoc] at hk ⊢; simp only [hk, not_false_eq_true, and_self, true_and, and_true]))), fun _ => (by (with_reducible repeat (first | apply Kd.N_alloc | apply Kd.N_drewN | apply Kd.N_drew)); exact Kd.N_mono HO234.out (fun _ hk => by first | exact hk | (simp only [hk, ne_eq, not_false_eq_true, and_self, true_and, and_true, or_true, true_or]; done) | (simp only [ne_eq, and_assoc] at hk ⊢; simp only [hk, not_false_eq_true, and_self, true_and, and_true]))), fun _ => (by (with_reducible repeat (first | apply Kd.N_alloc | apply Kd.N_drewN | apply Kd.N_drew)); exact Kd.N_mono HO237.out (fun _ hk => by first | exact hk | (simp only [hk, ne_eq, not_false_eq_true, and_self, true_and, and_true, or_true, true_or]; done) | (simp only [ne_eq, and_assoc] at hk ⊢; simp only [hk, not_false_eq_true, and_self, true_and, and_true]))), fun _ => (by (with_reducible repeat (first | apply Kd.N_alloc | apply Kd.N_drewN | apply Kd.N_drew)); first | exact HO240.out | exact Kd.N_mono HO240.out (fun k_ hk => by first | exact hk | (simp only [hk, ne_eq, not_false_eq_true, and_self, true_and, and_true, or_true, true_or]; done) | (simp only [ne_eq, and_assoc] at hk ⊢; simp only [hk, not_false_eq_true, and_self, true_and, and_true]))), fun h0_ => absurd ((hoff 6 (by kernel_rfl)).symm.trans h0_) (by decide), fun h0_ => absurd ((hoff 7 (by kernel_rfl)).symm.trans h0_) (by decide)⟩
    refine steps_cons ?_ ?_
    ·rintro b a w' ⟨v230, v233, v236, v239, m6_, m7_, ha, Q_HO1_1, Q_HO228, Q_HO2_1, Q_BK224, Q_BK225, Q_HB, Q_HO231, Q_HO234, Q_HO237, Q_HO240, Q_X6_, Q_X7_⟩ hb_ hon hoff
     refine ⟨_, rfl, fun K hK => ?_⟩
     have e19 : a.tmps[19]? = some (v233) := by rw [ha]; exact putSel_on (e := (2, 19, v233)) 2 rfl rfl (hon 2 (by kernel_rfl)) rfl
     replace ha := Aside0.mk ha
     have HO1_1 := Aside0.mk Q_HO1_1
     have HO228 := Aside0.mk Q_HO228
     have HO2_1 := Aside0.mk Q_HO2_1
     have BK224 := Aside0.mk Q_BK224
     have BK225 := Aside0.mk Q_BK225
     have HB := Aside0.mk Q_HB
     have HO231 := Aside0.mk (Q_HO231 (hon 1 (by kernel_rfl)))
     have HO234 := Aside0.mk (Q_HO234 (hon 2 (by kernel_rfl)))
     have HO237 := Aside0.mk (Q_HO237 (hon 4 (by kernel_rfl)))
     have HO240 := Aside0.mk (Q_HO240 (hon 5 (by kernel_rfl)))
     refine value_ (w1 := w') (v := v233) (by rfl) rfl ?_ ?_
     ·go_simp
      (try simp only [i64_w])
      try rfl
     refine hK.out _ _ ⟨v230, v233, v236, v239, (v233), m7_, (by rw [ha.out]; exact putSel_upk 6 hb_ rfl rfl rfl), Q_HO1_1, Q_HO228, Q_HO2_1, Q_BK224, Q_BK225, Q_HB, Q_HO231, Q_HO234, Q_HO237, Q_HO240, fun _ => rfl, fun h0_ => absurd ((hoff 7 (by kernel_rfl)).symm.trans h0_) (by decide)⟩
    refine steps_cons ?_ ?_
    ·rintro b a w' ⟨v230, v233, v236, v239, m6_, m7_, ha, Q_HO1_1, Q_HO228, Q_HO2_1, Q_BK224, Q_BK225, Q_HB, Q_HO231, Q_HO234, Q_HO237, Q_HO240, Q_X6_, Q_X7_⟩ hb_ hon hoff
     refine ⟨_, rfl, fun K hK => ?_⟩
     have e22 : a.tmps[22]? = some (v239) := by rw [ha]; exact putSel_on (e := (5, 22, v239)) 5 rfl rfl (hon 5 (by kernel_rfl)) rfl
     replace ha := Aside0.mk ha
     have HO1_1 := Aside0.mk Q_HO1_1
     have HO228 := Aside0.mk Q_HO228
     have HO2_1 := Aside0.mk Q_HO2_1
     have BK224 := Aside0.mk Q_BK224
     have BK225 := Aside0.mk Q_BK225
     have HB := Aside0.mk Q_HB
     have HO231 := Aside0.mk (Q_HO231 (hon 1 (by kernel_rfl)))
     have HO234 := Aside0.mk (Q_HO234 (hon 2 (by kernel_rfl)))
     have HO237 := Aside0.mk (Q_HO237 (hon 4 (by kernel_rfl)))
     have HO240 := Aside0.mk (Q_HO240 (hon 5 (by kernel_rfl)))
     refine value_ (w1 := w') (v := v239) (by rfl) rfl ?_ ?_
     ·go_simp
      (try simp only [i64_w])
      try rfl
     refine hK.out _ _ ⟨v230, v233, v236, v239, m6_, (v239), (by rw [ha.out]; exact putSel_upk 7 hb_ rfl rfl rfl), Q_HO1_1, Q_HO228, Q_HO2_1, Q_BK224, Q_BK225, Q_HB, Q_HO231, Q_HO234, Q_HO237, Q_HO240, Q_X6_, fun _ => rfl⟩
    exact steps_nil
   rintro b a w26 hall ⟨v230, v233, v236, v239, m6_, m7_, ha, Q_HO1_1, Q_HO228, Q_HO2_1, Q_BK224, Q_BK225, Q_HB, Q_HO231, Q_HO234, Q_HO237, Q_HO240, Q_X6_, Q_X7_⟩
   clear BK224 BK225 HB HO1_1 HO228 HO2_1
   have hb0_ := hall 0 (by kernel_rfl)
   have hb1_ := hall 1 (by kernel_rfl)
   have hb2_ := hall 2 (by kernel_rfl)
   have hb3_ := hall 3 (by kernel_rfl)
   have hb4_ := hall 4 (by kernel_rfl)
   have hb5_ := hall 5 (by kernel_rfl)
   have hb6_ := hall 6 (by kernel_rfl)
   have hb7_ := hall 7 (by kernel_rfl)
   subst ha
   have ex6_ := Q_X6_ hb6_; subst m6_
   have ex7_ := Q_X7_ hb7_; subst m7_
   simp only [putSel, hb0_, hb1_, hb2_, hb3_, hb4_, hb5_, hb6_, hb7_, if_true, Act.put, List.setIfInBounds_toArray, List.set_cons_zero, List.set_cons_succ]
   have HO1_1 := Aside0.mk Q_HO1_1
   clear Q_HO1_1
   have HO228 := Aside0.mk Q_HO228
   clear Q_HO228
   have HO2_1 := Aside0.mk Q_HO2_1
   clear Q_HO2_1
   have BK224 := Aside0.mk Q_BK224
   clear Q_BK224
   have BK225 := Aside0.mk Q_BK225
   clear Q_BK225
   have HB := Aside0.mk Q_HB
   clear Q_HB
   have HO231 := Aside0.mk (Q_HO231 hb1_)
   clear Q_HO231
   have HO234 := Aside0.mk (Q_HO234 hb2_)
   clear Q_HO234
   have HO237 := Aside0.mk (Q_HO237 hb4_)
   clear Q_HO237
   have HO240 := Aside0.mk (Q_HO240 hb5_)
   clear Q_HO240
   clear hall hb0_ hb1_ hb2_ hb3_ hb4_ hb5_ hb6_ hb7_
   try go_wp2
   have n0_ := Aside0.mk (Kd.V_drew HO1_1.out)
   have n1_ := Aside0.mk (Kd.V_drew HO2_1.out)
   have n2_ := Aside0.mk (Kd.N_drew HO228.out)
   have n3_ := Aside0.mk (Kd.N_drew HO231.out)
   have n4_ := Aside0.mk (Kd.N_drew HO234.out)
   have n5_ := Aside0.mk (Kd.N_drew HO237.out)
   have n6_ := Aside0.mk (Kd.N_drew HO240.out)
   have n7_ := Aside0.mk (blk_drew BK224.out)
   have n8_ := Aside0.mk (blk_drew BK225.out)
   have n9_ := Aside0.mk (below_drew1 HB.out)
   clear HO1_1
   clear HO2_1
   clear HO228
   clear HO231
   clear HO234
   clear HO237
   clear HO240
   clear BK224
   clear BK225
   clear HB
   have HO1_1 := n0_
   have HO2_1 := n1_
   have HO228 := n2_
   have HO231 := n3_
   have HO234 := n4_
   have HO237 := n5_
   have HO240 := n6_
   have BK224 := n7_
   have BK225 := n8_
   have HB := n9_
   clear n0_ n1_ n2_ n3_ n4_ n5_ n6_ n7_ n8_ n9_
   obtain ⟨Ao28, co28, eo28⟩ := Kd.N_slice HO234.out
   (first | subst eo28 | (injection eo28 with f1_ f2_ f3_; have f4_ := f1_.symm; have f5_ := f3_.symm; clear f1_ f2_ f3_; subst f4_; subst f5_))
   have p241 : 0 ≤ (0 : Int) := (by omega)
   have q241 : 0 < (t232.length : Int) := of_decide_eq_true (by first | (with_reducible assumption) | assumption)
   obtain ⟨ad241, A241_1, c241_1, e241, hx241_0, hx241_1, hl241_1, hi241_1⟩ := at_T38 (Kd.N_reads' HO234.out).2.2 0 p241 q241
   cases e241
   obtain ⟨ce241, hce241, hMe241, hcc241⟩ := Kd.N_get HO234.out z38 0 p241 (by first | exact q241 | exact of_decide_eq_true (by first | (with_reducible assumption) | assumption) | (have e_ := (Kd.N_reads' HO234.out).1; omega))
   obtain ⟨ua241_1, uc241_1, rfl, ul241_1, ge241_1⟩ := k38_openF hMe241
   have hv241_1 := hcc241 1 _ rfl
   rw [add_field _ _ 1 (by omega)] at hv241_1
   replace hv241_1 := Option.some.inj (hv241_1.symm.trans hx241_1)
   injection hv241_1 with hva_ hvn_ hvc_
   rw [hva_] at ge241_1
   rw [hvc_] at ul241_1
   have HL241_1 := Aside0.mk (show Kd.V k50 50 _ w.heap.size _ _ ((rd_T38 t232 0).f1) from Kd.V_mk ul241_1 ge241_1)
   clear hva_ hvn_ hvc_ ge241_1 ul241_1
   clear hcc241 hce241
   have qi241 : (0 < t232.length) = True := eq_true (by omega)
   (try rw [show ((0 : Int)).toNat = 0 from rfl] at hx241_0)
   (try rw [show 0 * 2 = 0 from rfl] at hx241_0)
   (try rw [Addr.add_zero'] at hx241_0)
   (try rw [show ((0 : Int)).toNat = 0 from rfl] at hx241_1)
   (try rw [show 0 * 2 = 0 from rfl] at hx241_1)
   (try rw [Addr.add_zero'] at hx241_1)
   have HR241_1 := Aside0.mk hi241_1
   have HC241_1 := Aside0.mk hl241_1
   clear hi241_1 hl241_1
   replace p241 := eq_true p241
   replace q241 := eq_true q241
   have p242 : 0 ≤ (0 : Int) := (by omega)
   have q242 : 0 < (t232.length : Int) := of_decide_eq_true (by first | (with_reducible assumption) | assumption)
   obtain ⟨ad242, A242_1, c242_1, e242, hx242_0, hx242_1, hl242_1, hi242_1⟩ := at_T38 (Kd.N_reads' HO234.out).2.2 0 p242 q242
   obtain rfl : ad241 = ad242 := (by injection e242)
   obtain ⟨ce242, hce242, hMe242, hcc242⟩ := Kd.N_get HO234.out z38 0 p242 (by first | exact q242 | exact of_decide_eq_true (by first | (with_reducible assumption) | assumption) | (have e_ := (Kd.N_reads' HO234.out).1; omega))
   obtain ⟨ua242_1, uc242_1, rfl, ul242_1, ge242_1⟩ := k38_openF hMe242
   have hv242_1 := hcc242 1 _ rfl
   rw [add_field _ _ 1 (by omega)] at hv242_1
   replace hv242_1 := Option.some.inj (hv242_1.symm.trans hx242_1)
   injection hv242_1 with hva_ hvn_ hvc_
   rw [hva_] at ge242_1
   rw [hvc_] at ul242_1
   have HL242_1 := Aside0.mk (show Kd.V k50 50 _ w.heap.size _ _ ((rd_T38 t232 0).f1) from Kd.V_mk ul242_1 ge242_1)
   clear hva_ hvn_ hvc_ ge242_1 ul242_1
   clear hcc242 hce242
   have qi242 : (0 < t232.length) = True := eq_true (by omega)
   (try rw [show ((0 : Int)).toNat = 0 from rfl] at hx242_0)
   (try rw [show 0 * 2 = 0 from rfl] at hx242_0)
   (try rw [Addr.add_zero'] at hx242_0)
   (try rw [show ((0 : Int)).toNat = 0 from rfl] at hx242_1)
   (try rw [show 0 * 2 = 0 from rfl] at hx242_1)
   (try rw [Addr.add_zero'] at hx242_1)
   have HR242_1 := Aside0.mk hi242_1
   have HC242_1 := Aside0.mk hl242_1
   clear hi242_1 hl242_1
   replace p242 := eq_true p242
   replace q242 := eq_true q242
   have ea_ := Option.some.inj (hx241_1.symm.trans hx242_1)
   injection ea_ with ea_ en_ ec_
   subst ea_
   subst ec_
   clear en_
   obtain ⟨Ao29, co29, eo29⟩ := Kd.N_slice HO228.out
   (first | subst eo29 | (injection eo29 with f1_ f2_ f3_; have f4_ := f1_.symm; have f5_ := f3_.symm; clear f1_ f2_ f3_; subst f4_; subst f5_))
   refine start_ (n := 15) (S := fun w' => w'.cell? ad241 = some (.string ((rd_T38 t232 0).f0)) ∧ w'.cell? ⟨ad241.block, ad241.off + 1, none⟩ = some (.slice A241_1 ((rd_T38 t232 0).f1).length c241_1) ∧ w'.cell? ad241 = some (.string ((rd_T38 t232 0).f0)) ∧ w'.cell? ⟨ad241.block, ad241.off + 1, none⟩ = some (.slice A241_1 ((rd_T38 t232 0).f1).length c241_1)) (ds := []) #[false, false, false, false, false, false, false, false, false, false, false, false, false, false, false] (by kernel_rfl) rfl rfl ⟨hx241_0, hx241_1, hx242_0, hx242_1⟩ (fun hHeld => ?_); refine with_tabW cellarerlaw06_IndexTurns.tab3 cellarerlaw06_IndexTurns.bits3 (fun HT_ HW_ => ?_)
   generalize w26.drew = w27 at HO1_1 HO2_1 HO228 HO231 HO234 HO237 HO240 BK224 BK225 HB HL241_1 HL242_1 HR241_1 HR242_1 hx241_0 hx241_1 hx242_0 hx242_1 hHeld ⊢
   refine pure_ (i := 0) (N := some 24) (v := ?_) (a' := ?_) #[true, false, false, false, false, false, false, false, false, false, false, false, false, false, false] rfl rfl (any_of HT_.out (by kernel_rfl)) (fun _ _ _ h => h) (Or.inl ⟨by rfl, ?_⟩) ?_ ?_
   rotate_left
   ·intro w'
    go_simp
    with_reducible rfl
   rotate_left
   ·simp only [Act.put, List.setIfInBounds_toArray, List.set_cons_zero, List.set_cons_succ, i64_w, i32_w]
    rfl
   refine pure_ (i := 1) (N := some 25) (v := ?_) (a' := ?_) #[true, true, false, false, false, false, false, false, false, false, false, false, false, false, false] rfl rfl (any_of HT_.out (by kernel_rfl)) (fun _ _ _ h => h) (Or.inl ⟨by rfl, ?_⟩) ?_ ?_
   rotate_left
   ·intro w'
    go_simp
    with_reducible rfl
   rotate_left
   ·simp only [Act.put, List.setIfInBounds_toArray, List.set_cons_zero, List.set_cons_succ, i64_w, i32_w]
    rfl
   refine pure_ (i := 2) (N := some 26) (v := ?_) (a' := ?_) #[true, true, true, false, false, false, false, false, false, false, false, false, false, false, false] rfl rfl (any_of HT_.out (by kernel_rfl)) (fun _ _ _ h => h) (Or.inl ⟨by rfl, ?_⟩) ?_ ?_
   rotate_left
   ·intro w'
    go_simp
    with_reducible rfl
   rotate_left
   ·simp only [Act.put, List.setIfInBounds_toArray, List.set_cons_zero, List.set_cons_succ, i64_w, i32_w]
    rfl
   refine pure_ (i := 3) (N := some 27) (v := ?_) (a' := ?_) #[true, true, true, true, false, false, false, false, false, false, false, false, false, false, false] rfl rfl (any_of HT_.out (by kernel_rfl)) (fun _ _ _ h => h) (Or.inl ⟨by rfl, ?_⟩) ?_ ?_
   rotate_left
   ·intro w'
    go_simp
    with_reducible rfl
   rotate_left
   ·simp only [Act.put, List.setIfInBounds_toArray, List.set_cons_zero, List.set_cons_succ, i64_w, i32_w]
    rfl
   refine pure_ (i := 5) (N := some 29) (v := ?_) (a' := ?_) #[true, true, true, true, false, true, false, false, false, false, false, false, false, false, false] rfl rfl (any_of HT_.out (by kernel_rfl)) (fun _ _ _ h => h) (Or.inl ⟨by rfl, ?_⟩) ?_ ?_
   rotate_left
   ·intro w'
    go_simp
    with_reducible rfl
   rotate_left
   ·simp only [Act.put, List.setIfInBounds_toArray, List.set_cons_zero, List.set_cons_succ, i64_w, i32_w]
    rfl
   refine pure_ (i := 6) (N := some 30) (v := ?_) (a' := ?_) #[true, true, true, true, false, true, true, false, false, false, false, false, false, false, false] rfl rfl (any_of HT_.out (by kernel_rfl)) (fun _ _ _ h => h) (Or.inl ⟨by rfl, ?_⟩) ?_ ?_
   rotate_left
   ·intro w'
    go_simp
    with_reducible rfl
   rotate_left
   ·simp only [Act.put, List.setIfInBounds_toArray, List.set_cons_zero, List.set_cons_succ, i64_w, i32_w]
    rfl
   refine pure_ (i := 7) (N := some 31) (v := ?_) (a' := ?_) #[true, true, true, true, false, true, true, true, false, false, false, false, false, false, false] rfl rfl (any_of HT_.out (by kernel_rfl)) (fun _ _ _ h => h) (Or.inl ⟨by rfl, ?_⟩) ?_ ?_
   rotate_left
   ·intro w'
    go_simp
    with_reducible rfl
   rotate_left
   ·simp only [Act.put, List.setIfInBounds_toArray, List.set_cons_zero, List.set_cons_succ, i64_w, i32_w]
    rfl
   refine take_ (i := 4) (N := some 28) (v := ?_) (a' := ?_) #[true, true, true, true, true, true, true, true, false, false, false, false, false, false, false] rfl rfl (take_ofW HT_.out HW_.out (by kernel_rfl)) (fun _ _ _ h => h) (Or.inl ⟨by rfl, ?_⟩) hHeld ?_ ?_
   rotate_left
   ·rintro w' ⟨s0, s1, s2, s3⟩
    go_simp
    with_reducible rfl
   rotate_left
   ·simp only [Act.put, List.setIfInBounds_toArray, List.set_cons_zero, List.set_cons_succ, i64_w, i32_w]
    rfl
   refine take_ (i := 8) (N := some 32) (v := ?_) (a' := ?_) #[true, true, true, true, true, true, true, true, true, false, false, false, false, false, false] rfl rfl (take_ofW HT_.out HW_.out (by kernel_rfl)) (fun _ _ _ h => h) (Or.inl ⟨by rfl, ?_⟩) hHeld ?_ ?_
   rotate_left
   ·rintro w' ⟨s0, s1, s2, s3⟩
    go_simp
    with_reducible rfl
   rotate_left
   ·simp only [Act.put, List.setIfInBounds_toArray, List.set_cons_zero, List.set_cons_succ, i64_w, i32_w]
    rfl
   refine one_ (i := 9) (N := some 33) #[true, true, true, true, true, true, true, true, true, true, false, false, false, false, false] rfl rfl (one_of HT_.out (by kernel_rfl)) (by decide) (fun K hK => ?_)
   refine goes_ Try.func12 (by kernel_rfl) rfl #[.slice Ao29 t226.length co29, .string ((rd_T38 t232 0).f0), .slice A241_1 ((rd_T38 t232 0).f1).length c241_1] (by rfl) rfl rfl (by (try simp only [List.map_toArray, List.map_cons, List.map_nil]); first | done | rfl | (simp only [List.length_drop, List.length_take]; rfl)) ?_
   with_reducible refine (index_Put.calls (fun k_ => (((P1_1_ k_ ∨ P2_1_ k_) ∨ w.heap.size ≤ k_) ∧ (k_ ≠ gb224 ∧ k_ ≠ gb225))) _ _ t226 ((rd_T38 t232 0).f0) _ _ ((rd_T38 t232 0).f1) t243 t246 _ ?side1 ?side2 ?side3 A8.out).mono ?_
   (case side1 => exact Kd.N_V (HO228.out))
   (case side2 => repeat (first | exact (by repeat (first | (with_reducible exact HR242_1.out) | (with_reducible refine Kd.C_alloc ?_ _) | (with_reducible refine Kd.C_drewN ?_ _) | (with_reducible refine Kd.C_drew ?_) | exact HR242_1.out)) | (with_reducible refine Kd.C_alloc ?_ _) | (with_reducible refine Kd.C_drewN ?_ _) | (with_reducible refine Kd.C_drew ?_)))
   (case side3 => exact HC242_1.out)
   rintro e w30 ⟨v244, rfl, ho0, hb⟩
   have HS0_ := (hb.cell (World.block_lt_of_cell? _ _ (hHeld.1))).trans (hHeld.1)
   have HS1_ := (hb.cell (World.block_lt_of_cell? _ _ (hHeld.2.1))).trans (hHeld.2.1)
   have HS2_ := (hb.cell (World.block_lt_of_cell? _ _ (hHeld.2.2.1))).trans (hHeld.2.2.1)
   have HS3_ := (hb.cell (World.block_lt_of_cell? _ _ (hHeld.2.2.2))).trans (hHeld.2.2.2)
   refine ⟨_, rfl, ?_⟩
   have n0_ := Aside0.mk (Kd.V_below (by (with_reducible repeat (first | apply Kd.V_alloc | apply Kd.V_drewN | apply Kd.V_drew)); exact HO1_1.out) hb)
   have n1_ := Aside0.mk (Kd.V_below (by (with_reducible repeat (first | apply Kd.V_alloc | apply Kd.V_drewN | apply Kd.V_drew)); exact HO2_1.out) hb)
   have n2_ := Aside0.mk (Kd.N_below (by (with_reducible repeat (first | apply Kd.N_alloc | apply Kd.N_drewN | apply Kd.N_drew)); first | exact HO228.out | exact Kd.N_mono HO228.out (fun k_ hk => by first | exact hk | (simp only [hk, ne_eq, not_false_eq_true, and_self, true_and, and_true, or_true, true_or]; done) | (simp only [ne_eq, and_assoc] at hk ⊢; simp only [hk, not_false_eq_true, and_self, true_and, and_true]))) hb)
   have n3_ := Aside0.mk (Kd.N_below (by (with_reducible repeat (first | apply Kd.N_alloc | apply Kd.N_drewN | apply Kd.N_drew)); first | exact HO231.out | exact Kd.N_mono HO231.out (fun k_ hk => by first | exact hk | (simp only [hk, ne_eq, not_false_eq_true, and_self, true_and, and_true, or_true, true_or]; done) | (simp only [ne_eq, and_assoc] at hk ⊢; simp only [hk, not_false_eq_true, and_self, true_and, and_true]))) hb)
   have n4_ := Aside0.mk (Kd.N_below (by (with_reducible repeat (first | apply Kd.N_alloc | apply Kd.N_drewN | apply Kd.N_drew)); first | exact HO234.out | exact Kd.N_mono HO234.out (fun k_ hk => by first | exact hk | (simp only [hk, ne_eq, not_false_eq_true, and_self, true_and, and_true, or_true, true_or]; done) | (simp only [ne_eq, and_assoc] at hk ⊢; simp only [hk, not_false_eq_true, and_self, true_and, and_true]))) hb)
   have n5_ := Aside0.mk (Kd.N_below (by (with_reducible repeat (first | apply Kd.N_alloc | apply Kd.N_drewN | apply Kd.N_drew)); first | exact HO237.out | exact Kd.N_mono HO237.out (fun k_ hk => by first | exact hk | (simp only [hk, ne_eq, not_false_eq_true, and_self, true_and, and_true, or_true, true_or]; done) | (simp only [ne_eq, and_assoc] at hk ⊢; simp only [hk, not_false_eq_true, and_self, true_and, and_true]))) hb)
   have n6_ := Aside0.mk (Kd.N_below (by (with_reducible repeat (first | apply Kd.N_alloc | apply Kd.N_drewN | apply Kd.N_drew)); first | exact HO240.out | exact Kd.N_mono HO240.out (fun k_ hk => by first | exact hk | (simp only [hk, ne_eq, not_false_eq_true, and_self, true_and, and_true, or_true, true_or]; done) | (simp only [ne_eq, and_assoc] at hk ⊢; simp only [hk, not_false_eq_true, and_self, true_and, and_true]))) hb)
   have n7_ := Aside0.mk (Kd.V_below (by (with_reducible repeat (first | apply Kd.V_alloc | apply Kd.V_drewN | apply Kd.V_drew)); exact HL241_1.out) hb)
   have n8_ := Aside0.mk (Kd.V_below (by (with_reducible repeat (first | apply Kd.V_alloc | apply Kd.V_drewN | apply Kd.V_drew)); exact HL242_1.out) hb)
   have n9_ := Aside0.mk (Kd.V_lower (Kd.V_mono (ok' := fun k_ => ((P1_1_ k_ ∨ P2_1_ k_) ∨ w.heap.size ≤ k_) ∧ k_ ≠ gb224 ∧ k_ ≠ gb225) ho0 (fun k_ hk_ => ⟨Or.elim hk_ (fun hs_ => hs_.1) (fun hn_ => (.inr (Nat.le_trans (below_size (by repeat (first | (with_reducible first | exact HB.out | apply below_alloc | apply pw_below_drewN | apply below_drew1 | refine below_set ?_ GE224.out | refine below_set ?_ GE225.out) | exact HB.out))) hn_))), Or.elim hk_ (fun hs_ => hs_.2.1) (fun hn_ => (Kd.freshB (g := gb224) (o := .cells #[.string a1_0, .slice A1_1 l1_1.length c1_1] 38 (0, 0)) (by (with_reducible repeat (first | refine blk_drewN ?_ _ | refine blk_drew ?_ | refine blk_alloc ?_ _)); exact BK224.out) k_ hn_)), Or.elim hk_ (fun hs_ => hs_.2.2) (fun hn_ => (Kd.freshB (g := gb225) (o := .cells #[.string a2_0, .slice A2_1 l2_1.length c2_1] 38 (0, 0)) (by (with_reducible repeat (first | refine blk_drewN ?_ _ | refine blk_drew ?_ | refine blk_alloc ?_ _)); exact BK225.out) k_ hn_))⟩)) (below_size (by repeat (first | (with_reducible first | exact HB.out | apply below_alloc | apply pw_below_drewN | apply below_drew1 | refine below_set ?_ GE224.out | refine below_set ?_ GE225.out) | exact HB.out))))
   have n10_ := Aside0.mk (blk_below (g := gb224) (o := .cells #[.string a1_0, .slice A1_1 l1_1.length c1_1] 38 (0, 0)) (by (with_reducible repeat (first | refine blk_drewN ?_ _ | refine blk_drew ?_ | refine blk_alloc ?_ _)); exact BK224.out) hb)
   have n11_ := Aside0.mk (blk_below (g := gb225) (o := .cells #[.string a2_0, .slice A2_1 l2_1.length c2_1] 38 (0, 0)) (by (with_reducible repeat (first | refine blk_drewN ?_ _ | refine blk_drew ?_ | refine blk_alloc ?_ _)); exact BK225.out) hb)
   have n12_ := Aside0.mk (Kd.C_below (by repeat (first | (with_reducible exact HR241_1.out) | (with_reducible refine Kd.C_alloc ?_ _) | (with_reducible refine Kd.C_drewN ?_ _) | (with_reducible refine Kd.C_drew ?_) | exact HR241_1.out)) hb)
   have n13_ := Aside0.mk (Kd.C_below (by repeat (first | (with_reducible exact HR242_1.out) | (with_reducible refine Kd.C_alloc ?_ _) | (with_reducible refine Kd.C_drewN ?_ _) | (with_reducible refine Kd.C_drew ?_) | exact HR242_1.out)) hb)
   have n14_ := Aside0.mk (below_step (by repeat (first | (with_reducible first | exact HB.out | apply below_alloc | apply pw_below_drewN | apply below_drew1 | refine below_set ?_ GE224.out | refine below_set ?_ GE225.out) | exact HB.out)) hb)
   clear HO1_1
   clear HO2_1
   clear HO228
   clear HO231
   clear HO234
   clear HO237
   clear HO240
   clear HL241_1
   clear HL242_1
   clear BK224
   clear BK225
   clear HR241_1
   clear HR242_1
   clear HB
   have HO1_1 := n0_
   have HO2_1 := n1_
   have HO228 := n2_
   have HO231 := n3_
   have HO234 := n4_
   have HO237 := n5_
   have HO240 := n6_
   have HL241_1 := n7_
   have HL242_1 := n8_
   have HO245 := n9_
   have BK224 := n10_
   have BK225 := n11_
   have HR241_1 := n12_
   have HR242_1 := n13_
   have HB := n14_
   clear n0_ n1_ n2_ n3_ n4_ n5_ n6_ n7_ n8_ n9_ n10_ n11_ n12_ n13_ n14_
   (try clear hb)
   (try clear hb2)
   (try clear hk)
   (try clear hi)
   (try clear ho0)
   refine hK.out _ _ ⟨HS0_, HS1_, HS2_, HS3_⟩ (fun hHeld => ?_)
   clear hK K
   refine norm_ (a' := ?_) ?_ ?_
   rotate_left
   ·show Act.put _ (some 33) _ = _
    simp only [Act.put, List.setIfInBounds_toArray, List.set_cons_zero, List.set_cons_succ, i64_w, i32_w]
    rfl
   refine pure_ (i := 10) (N := some 23) (v := ?_) (a' := ?_) #[true, true, true, true, true, true, true, true, true, true, true, false, false, false, false] rfl rfl (any_of HT_.out (by kernel_rfl)) (fun _ _ _ h => h) (Or.inl ⟨by rfl, ?_⟩) ?_ ?_
   rotate_left
   ·intro w'
    go_simp
    with_reducible rfl
   rotate_left
   ·simp only [Act.put, List.setIfInBounds_toArray, List.set_cons_zero, List.set_cons_succ, i64_w, i32_w]
    rfl
   refine pure_ (i := 11) (N := some 34) (v := ?_) (a' := ?_) #[true, true, true, true, true, true, true, true, true, true, true, true, false, false, false] rfl rfl (any_of HT_.out (by kernel_rfl)) (fun _ _ _ h => h) (Or.inl ⟨by rfl, ?_⟩) ?_ ?_
   rotate_left
   ·intro w'
    go_simp
    with_reducible rfl
   rotate_left
   ·simp only [Act.put, List.setIfInBounds_toArray, List.set_cons_zero, List.set_cons_succ, i64_w, i32_w]
    rfl
   refine pure_ (i := 12) (N := some 35) (v := ?_) (a' := ?_) #[true, true, true, true, true, true, true, true, true, true, true, true, true, false, false] rfl rfl (any_of HT_.out (by kernel_rfl)) (fun _ _ _ h => h) (Or.inl ⟨by rfl, ?_⟩) ?_ ?_
   rotate_left
   ·intro w'
    go_simp
    with_reducible rfl
   rotate_left
   ·simp only [Act.put, List.setIfInBounds_toArray, List.set_cons_zero, List.set_cons_succ, i64_w, i32_w]
    rfl
   refine pure_ (i := 13) (N := some 9) (v := ?_) (a' := ?_) #[true, true, true, true, true, true, true, true, true, true, true, true, true, true, false] rfl rfl (any_of HT_.out (by kernel_rfl)) (fun _ _ _ h => h) (Or.inl ⟨by rfl, ?_⟩) ?_ ?_
   rotate_left
   ·intro w'
    go_simp
    with_reducible rfl
   rotate_left
   ·simp only [Act.put, List.setIfInBounds_toArray, List.set_cons_zero, List.set_cons_succ, i64_w, i32_w]
    rfl
   refine pure_ (i := 14) (N := some 10) (v := ?_) (a' := ?_) #[true, true, true, true, true, true, true, true, true, true, true, true, true, true, true] rfl rfl (any_of HT_.out (by kernel_rfl)) (fun _ _ _ h => h) (Or.inl ⟨by rfl, ?_⟩) ?_ ?_
   rotate_left
   ·intro w'
    go_simp
    with_reducible rfl
   rotate_left
   ·simp only [Act.put, List.setIfInBounds_toArray, List.set_cons_zero, List.set_cons_succ, i64_w, i32_w]
    rfl
   refine done_ (done_of HT_.out (by kernel_rfl)) ?_
   try go_wp2
   have n0_ := Aside0.mk (Kd.V_drew HO1_1.out)
   have n1_ := Aside0.mk (Kd.V_drew HO2_1.out)
   have n2_ := Aside0.mk (Kd.N_drew HO228.out)
   have n3_ := Aside0.mk (Kd.N_drew HO231.out)
   have n4_ := Aside0.mk (Kd.N_drew HO234.out)
   have n5_ := Aside0.mk (Kd.N_drew HO237.out)
   have n6_ := Aside0.mk (Kd.N_drew HO240.out)
   have n7_ := Aside0.mk (Kd.V_drew HL241_1.out)
   have n8_ := Aside0.mk (Kd.V_drew HL242_1.out)
   have n9_ := Aside0.mk (Kd.V_drew HO245.out)
   have n10_ := Aside0.mk (blk_drew BK224.out)
   have n11_ := Aside0.mk (blk_drew BK225.out)
   have n12_ := Aside0.mk (Kd.C_drew HR241_1.out)
   have n13_ := Aside0.mk (Kd.C_drew HR242_1.out)
   have n14_ := Aside0.mk (below_drew1 HB.out)
   clear HO1_1
   clear HO2_1
   clear HO228
   clear HO231
   clear HO234
   clear HO237
   clear HO240
   clear HL241_1
   clear HL242_1
   clear HO245
   clear BK224
   clear BK225
   clear HR241_1
   clear HR242_1
   clear HB
   have HO1_1 := n0_
   have HO2_1 := n1_
   have HO228 := n2_
   have HO231 := n3_
   have HO234 := n4_
   have HO237 := n5_
   have HO240 := n6_
   have HL241_1 := n7_
   have HL242_1 := n8_
   have HO245 := n9_
   have BK224 := n10_
   have BK225 := n11_
   have HR241_1 := n12_
   have HR242_1 := n13_
   have HB := n14_
   clear n0_ n1_ n2_ n3_ n4_ n5_ n6_ n7_ n8_ n9_ n10_ n11_ n12_ n13_ n14_
   obtain ⟨Ao32, co32, eo32⟩ := Kd.N_slice HO240.out
   (first | subst eo32 | (injection eo32 with f1_ f2_ f3_; have f4_ := f1_.symm; have f5_ := f3_.symm; clear f1_ f2_ f3_; subst f4_; subst f5_))
   have p247 : 0 ≤ (0 : Int) := (by omega)
   have q247 : 0 < (t238.length : Int) := of_decide_eq_true (by first | (with_reducible assumption) | assumption)
   obtain ⟨ad247, A247_1, c247_1, e247, hx247_0, hx247_1, hl247_1, hi247_1⟩ := at_T38 (Kd.N_reads' HO240.out).2.2 0 p247 q247
   cases e247
   obtain ⟨ce247, hce247, hMe247, hcc247⟩ := Kd.N_get HO240.out z38 0 p247 (by first | exact q247 | exact of_decide_eq_true (by first | (with_reducible assumption) | assumption) | (have e_ := (Kd.N_reads' HO240.out).1; omega))
   obtain ⟨ua247_1, uc247_1, rfl, ul247_1, ge247_1⟩ := k38_openF hMe247
   have hv247_1 := hcc247 1 _ rfl
   rw [add_field _ _ 1 (by omega)] at hv247_1
   replace hv247_1 := Option.some.inj (hv247_1.symm.trans hx247_1)
   injection hv247_1 with hva_ hvn_ hvc_
   rw [hva_] at ge247_1
   rw [hvc_] at ul247_1
   have HL247_1 := Aside0.mk (show Kd.V k50 50 _ w.heap.size _ _ ((rd_T38 t238 0).f1) from Kd.V_mk ul247_1 ge247_1)
   clear hva_ hvn_ hvc_ ge247_1 ul247_1
   clear hcc247 hce247
   have qi247 : (0 < t238.length) = True := eq_true (by omega)
   (try rw [show ((0 : Int)).toNat = 0 from rfl] at hx247_0)
   (try rw [show 0 * 2 = 0 from rfl] at hx247_0)
   (try rw [Addr.add_zero'] at hx247_0)
   (try rw [show ((0 : Int)).toNat = 0 from rfl] at hx247_1)
   (try rw [show 0 * 2 = 0 from rfl] at hx247_1)
   (try rw [Addr.add_zero'] at hx247_1)
   have HR247_1 := Aside0.mk hi247_1
   have HC247_1 := Aside0.mk hl247_1
   clear hi247_1 hl247_1
   replace p247 := eq_true p247
   replace q247 := eq_true q247
   have p248 : 0 ≤ (0 : Int) := (by omega)
   have q248 : 0 < (t238.length : Int) := of_decide_eq_true (by first | (with_reducible assumption) | assumption)
   obtain ⟨ad248, A248_1, c248_1, e248, hx248_0, hx248_1, hl248_1, hi248_1⟩ := at_T38 (Kd.N_reads' HO240.out).2.2 0 p248 q248
   obtain rfl : ad247 = ad248 := (by injection e248)
   obtain ⟨ce248, hce248, hMe248, hcc248⟩ := Kd.N_get HO240.out z38 0 p248 (by first | exact q248 | exact of_decide_eq_true (by first | (with_reducible assumption) | assumption) | (have e_ := (Kd.N_reads' HO240.out).1; omega))
   obtain ⟨ua248_1, uc248_1, rfl, ul248_1, ge248_1⟩ := k38_openF hMe248
   have hv248_1 := hcc248 1 _ rfl
   rw [add_field _ _ 1 (by omega)] at hv248_1
   replace hv248_1 := Option.some.inj (hv248_1.symm.trans hx248_1)
   injection hv248_1 with hva_ hvn_ hvc_
   rw [hva_] at ge248_1
   rw [hvc_] at ul248_1
   have HL248_1 := Aside0.mk (show Kd.V k50 50 _ w.heap.size _ _ ((rd_T38 t238 0).f1) from Kd.V_mk ul248_1 ge248_1)
   clear hva_ hvn_ hvc_ ge248_1 ul248_1
   clear hcc248 hce248
   have qi248 : (0 < t238.length) = True := eq_true (by omega)
   (try rw [show ((0 : Int)).toNat = 0 from rfl] at hx248_0)
   (try rw [show 0 * 2 = 0 from rfl] at hx248_0)
   (try rw [Addr.add_zero'] at hx248_0)
   (try rw [show ((0 : Int)).toNat = 0 from rfl] at hx248_1)
   (try rw [show 0 * 2 = 0 from rfl] at hx248_1)
   (try rw [Addr.add_zero'] at hx248_1)
   have HR248_1 := Aside0.mk hi248_1
   have HC248_1 := Aside0.mk hl248_1
   clear hi248_1 hl248_1
   replace p248 := eq_true p248
   replace q248 := eq_true q248
   have ea_ := Option.some.inj (hx247_1.symm.trans hx248_1)
   injection ea_ with ea_ en_ ec_
   subst ea_
   subst ec_
   clear en_
   obtain ⟨Ao33, co33, eo33⟩ := Kd.V_slice HO245.out
   (first | subst eo33 | (injection eo33 with f1_ f2_ f3_; have f4_ := f1_.symm; have f5_ := f3_.symm; clear f1_ f2_ f3_; subst f4_; subst f5_))
   refine start_ (n := 15) (S := fun w' => w'.cell? ad247 = some (.string ((rd_T38 t238 0).f0)) ∧ w'.cell? ⟨ad247.block, ad247.off + 1, none⟩ = some (.slice A247_1 ((rd_T38 t238 0).f1).length c247_1) ∧ w'.cell? ad247 = some (.string ((rd_T38 t238 0).f0)) ∧ w'.cell? ⟨ad247.block, ad247.off + 1, none⟩ = some (.slice A247_1 ((rd_T38 t238 0).f1).length c247_1)) (ds := []) #[false, false, false, false, false, false, false, false, false, false, false, false, false, false, false] (by kernel_rfl) rfl rfl ⟨hx247_0, hx247_1, hx248_0, hx248_1⟩ (fun hHeld => ?_); refine with_tabW cellarerlaw06_IndexTurns.tab4 cellarerlaw06_IndexTurns.bits4 (fun HT_ HW_ => ?_)
   generalize w30.drew = w31 at HO1_1 HO2_1 HO228 HO231 HO234 HO237 HO240 HL241_1 HL242_1 HO245 BK224 BK225 HR241_1 HR242_1 HB HL247_1 HL248_1 HR247_1 HR248_1 hx247_0 hx247_1 hx248_0 hx248_1 hHeld ⊢
   refine pure_ (i := 0) (N := some 37) (v := ?_) (a' := ?_) #[true, false, false, false, false, false, false, false, false, false, false, false, false, false, false] rfl rfl (any_of HT_.out (by kernel_rfl)) (fun _ _ _ h => h) (Or.inl ⟨by rfl, ?_⟩) ?_ ?_
   rotate_left
   ·intro w'
    go_simp
    with_reducible rfl
   rotate_left
   ·simp only [Act.put, List.setIfInBounds_toArray, List.set_cons_zero, List.set_cons_succ, i64_w, i32_w]
    rfl
   refine pure_ (i := 1) (N := some 38) (v := ?_) (a' := ?_) #[true, true, false, false, false, false, false, false, false, false, false, false, false, false, false] rfl rfl (any_of HT_.out (by kernel_rfl)) (fun _ _ _ h => h) (Or.inl ⟨by rfl, ?_⟩) ?_ ?_
   rotate_left
   ·intro w'
    go_simp
    with_reducible rfl
   rotate_left
   ·simp only [Act.put, List.setIfInBounds_toArray, List.set_cons_zero, List.set_cons_succ, i64_w, i32_w]
    rfl
   refine pure_ (i := 2) (N := some 39) (v := ?_) (a' := ?_) #[true, true, true, false, false, false, false, false, false, false, false, false, false, false, false] rfl rfl (any_of HT_.out (by kernel_rfl)) (fun _ _ _ h => h) (Or.inl ⟨by rfl, ?_⟩) ?_ ?_
   rotate_left
   ·intro w'
    go_simp
    with_reducible rfl
   rotate_left
   ·simp only [Act.put, List.setIfInBounds_toArray, List.set_cons_zero, List.set_cons_succ, i64_w, i32_w]
    rfl
   refine pure_ (i := 3) (N := some 40) (v := ?_) (a' := ?_) #[true, true, true, true, false, false, false, false, false, false, false, false, false, false, false] rfl rfl (any_of HT_.out (by kernel_rfl)) (fun _ _ _ h => h) (Or.inl ⟨by rfl, ?_⟩) ?_ ?_
   rotate_left
   ·intro w'
    go_simp
    with_reducible rfl
   rotate_left
   ·simp only [Act.put, List.setIfInBounds_toArray, List.set_cons_zero, List.set_cons_succ, i64_w, i32_w]
    rfl
   refine pure_ (i := 5) (N := some 42) (v := ?_) (a' := ?_) #[true, true, true, true, false, true, false, false, false, false, false, false, false, false, false] rfl rfl (any_of HT_.out (by kernel_rfl)) (fun _ _ _ h => h) (Or.inl ⟨by rfl, ?_⟩) ?_ ?_
   rotate_left
   ·intro w'
    go_simp
    with_reducible rfl
   rotate_left
   ·simp only [Act.put, List.setIfInBounds_toArray, List.set_cons_zero, List.set_cons_succ, i64_w, i32_w]
    rfl
   refine pure_ (i := 6) (N := some 43) (v := ?_) (a' := ?_) #[true, true, true, true, false, true, true, false, false, false, false, false, false, false, false] rfl rfl (any_of HT_.out (by kernel_rfl)) (fun _ _ _ h => h) (Or.inl ⟨by rfl, ?_⟩) ?_ ?_
   rotate_left
   ·intro w'
    go_simp
    with_reducible rfl
   rotate_left
   ·simp only [Act.put, List.setIfInBounds_toArray, List.set_cons_zero, List.set_cons_succ, i64_w, i32_w]
    rfl
   refine pure_ (i := 7) (N := some 44) (v := ?_) (a' := ?_) #[true, true, true, true, false, true, true, true, false, false, false, false, false, false, false] rfl rfl (any_of HT_.out (by kernel_rfl)) (fun _ _ _ h => h) (Or.inl ⟨by rfl, ?_⟩) ?_ ?_
   rotate_left
   ·intro w'
    go_simp
    with_reducible rfl
   rotate_left
   ·simp only [Act.put, List.setIfInBounds_toArray, List.set_cons_zero, List.set_cons_succ, i64_w, i32_w]
    rfl
   refine take_ (i := 4) (N := some 41) (v := ?_) (a' := ?_) #[true, true, true, true, true, true, true, true, false, false, false, false, false, false, false] rfl rfl (take_ofW HT_.out HW_.out (by kernel_rfl)) (fun _ _ _ h => h) (Or.inl ⟨by rfl, ?_⟩) hHeld ?_ ?_
   rotate_left
   ·rintro w' ⟨s0, s1, s2, s3⟩
    go_simp
    with_reducible rfl
   rotate_left
   ·simp only [Act.put, List.setIfInBounds_toArray, List.set_cons_zero, List.set_cons_succ, i64_w, i32_w]
    rfl
   refine take_ (i := 8) (N := some 45) (v := ?_) (a' := ?_) #[true, true, true, true, true, true, true, true, true, false, false, false, false, false, false] rfl rfl (take_ofW HT_.out HW_.out (by kernel_rfl)) (fun _ _ _ h => h) (Or.inl ⟨by rfl, ?_⟩) hHeld ?_ ?_
   rotate_left
   ·rintro w' ⟨s0, s1, s2, s3⟩
    go_simp
    with_reducible rfl
   rotate_left
   ·simp only [Act.put, List.setIfInBounds_toArray, List.set_cons_zero, List.set_cons_succ, i64_w, i32_w]
    rfl
   refine one_ (i := 9) (N := some 46) #[true, true, true, true, true, true, true, true, true, true, false, false, false, false, false] rfl rfl (one_of HT_.out (by kernel_rfl)) (by decide) (fun K hK => ?_)
   refine goes_ Try.func12 (by kernel_rfl) rfl #[.slice Ao33 t243.length co33, .string ((rd_T38 t238 0).f0), .slice A247_1 ((rd_T38 t238 0).f1).length c247_1] (by rfl) rfl rfl (by (try simp only [List.map_toArray, List.map_cons, List.map_nil]); first | done | rfl | (simp only [List.length_drop, List.length_take]; rfl)) ?_
   with_reducible refine (index_Put.calls (fun k_ => (((P1_1_ k_ ∨ P2_1_ k_) ∨ w.heap.size ≤ k_) ∧ (k_ ≠ gb224 ∧ k_ ≠ gb225))) _ _ t243 ((rd_T38 t238 0).f0) _ _ ((rd_T38 t238 0).f1) t249 t252 _ ?side1 ?side2 ?side3 A10.out).mono ?_
   (case side1 => exact HO245.out)
   (case side2 => repeat (first | exact (by repeat (first | (with_reducible exact HR248_1.out) | (with_reducible refine Kd.C_alloc ?_ _) | (with_reducible refine Kd.C_drewN ?_ _) | (with_reducible refine Kd.C_drew ?_) | exact HR248_1.out)) | (with_reducible refine Kd.C_alloc ?_ _) | (with_reducible refine Kd.C_drewN ?_ _) | (with_reducible refine Kd.C_drew ?_)))
   (case side3 => exact HC248_1.out)
   rintro e w34 ⟨v250, rfl, ho0, hb⟩
   have HS0_ := (hb.cell (World.block_lt_of_cell? _ _ (hHeld.1))).trans (hHeld.1)
   have HS1_ := (hb.cell (World.block_lt_of_cell? _ _ (hHeld.2.1))).trans (hHeld.2.1)
   have HS2_ := (hb.cell (World.block_lt_of_cell? _ _ (hHeld.2.2.1))).trans (hHeld.2.2.1)
   have HS3_ := (hb.cell (World.block_lt_of_cell? _ _ (hHeld.2.2.2))).trans (hHeld.2.2.2)
   refine ⟨_, rfl, ?_⟩
   have n0_ := Aside0.mk (Kd.V_below (by (with_reducible repeat (first | apply Kd.V_alloc | apply Kd.V_drewN | apply Kd.V_drew)); exact HO1_1.out) hb)
   have n1_ := Aside0.mk (Kd.V_below (by (with_reducible repeat (first | apply Kd.V_alloc | apply Kd.V_drewN | apply Kd.V_drew)); exact HO2_1.out) hb)
   have n2_ := Aside0.mk (Kd.N_below (by (with_reducible repeat (first | apply Kd.N_alloc | apply Kd.N_drewN | apply Kd.N_drew)); first | exact HO228.out | exact Kd.N_mono HO228.out (fun k_ hk => by first | exact hk | (simp only [hk, ne_eq, not_false_eq_true, and_self, true_and, and_true, or_true, true_or]; done) | (simp only [ne_eq, and_assoc] at hk ⊢; simp only [hk, not_false_eq_true, and_self, true_and, and_true]))) hb)
   have n3_ := Aside0.mk (Kd.N_below (by (with_reducible repeat (first | apply Kd.N_alloc | apply Kd.N_drewN | apply Kd.N_drew)); first | exact HO231.out | exact Kd.N_mono HO231.out (fun k_ hk => by first | exact hk | (simp only [hk, ne_eq, not_false_eq_true, and_self, true_and, and_true, or_true, true_or]; done) | (simp only [ne_eq, and_assoc] at hk ⊢; simp only [hk, not_false_eq_true, and_self, true_and, and_true]))) hb)
   have n4_ := Aside0.mk (Kd.N_below (by (with_reducible repeat (first | apply Kd.N_alloc | apply Kd.N_drewN | apply Kd.N_drew)); first | exact HO234.out | exact Kd.N_mono HO234.out (fun k_ hk => by first | exact hk | (simp only [hk, ne_eq, not_false_eq_true, and_self, true_and, and_true, or_true, true_or]; done) | (simp only [ne_eq, and_assoc] at hk ⊢; simp only [hk, not_false_eq_true, and_self, true_and, and_true]))) hb)
   have n5_ := Aside0.mk (Kd.N_below (by (with_reducible repeat (first | apply Kd.N_alloc | apply Kd.N_drewN | apply Kd.N_drew)); first | exact HO237.out | exact Kd.N_mono HO237.out (fun k_ hk => by first | exact hk | (simp only [hk, ne_eq, not_false_eq_true, and_self, true_and, and_true, or_true, true_or]; done) | (simp only [ne_eq, and_assoc] at hk ⊢; simp only [hk, not_false_eq_true, and_self, true_and, and_true]))) hb)
   have n6_ := Aside0.mk (Kd.N_below (by (with_reducible repeat (first | apply Kd.N_alloc | apply Kd.N_drewN | apply Kd.N_drew)); first | exact HO240.out | exact Kd.N_mono HO240.out (fun k_ hk => by first | exact hk | (simp only [hk, ne_eq, not_false_eq_true, and_self, true_and, and_true, or_true, true_or]; done) | (simp only [ne_eq, and_assoc] at hk ⊢; simp only [hk, not_false_eq_true, and_self, true_and, and_true]))) hb)
   have n7_ := Aside0.mk (Kd.V_below (by (with_reducible repeat (first | apply Kd.V_alloc | apply Kd.V_drewN | apply Kd.V_drew)); exact HL241_1.out) hb)
   have n8_ := Aside0.mk (Kd.V_below (by (with_reducible repeat (first | apply Kd.V_alloc | apply Kd.V_drewN | apply Kd.V_drew)); exact HL242_1.out) hb)
   have n9_ := Aside0.mk (Kd.V_below (by (with_reducible repeat (first | apply Kd.V_alloc | apply Kd.V_drewN | apply Kd.V_drew)); exact HO245.out) hb)
   have n10_ := Aside0.mk (Kd.V_below (by (with_reducible repeat (first | apply Kd.V_alloc | apply Kd.V_drewN | apply Kd.V_drew)); exact HL247_1.out) hb)
   have n11_ := Aside0.mk (Kd.V_below (by (with_reducible repeat (first | apply Kd.V_alloc | apply Kd.V_drewN | apply Kd.V_drew)); exact HL248_1.out) hb)
   have n12_ := Aside0.mk (Kd.V_lower (Kd.V_mono (ok' := fun k_ => ((P1_1_ k_ ∨ P2_1_ k_) ∨ w.heap.size ≤ k_) ∧ k_ ≠ gb224 ∧ k_ ≠ gb225) ho0 (fun k_ hk_ => ⟨Or.elim hk_ (fun hs_ => hs_.1) (fun hn_ => (.inr (Nat.le_trans (below_size (by repeat (first | (with_reducible first | exact HB.out | apply below_alloc | apply pw_below_drewN | apply below_drew1 | refine below_set ?_ GE224.out | refine below_set ?_ GE225.out) | exact HB.out))) hn_))), Or.elim hk_ (fun hs_ => hs_.2.1) (fun hn_ => (Kd.freshB (g := gb224) (o := .cells #[.string a1_0, .slice A1_1 l1_1.length c1_1] 38 (0, 0)) (by (with_reducible repeat (first | refine blk_drewN ?_ _ | refine blk_drew ?_ | refine blk_alloc ?_ _)); exact BK224.out) k_ hn_)), Or.elim hk_ (fun hs_ => hs_.2.2) (fun hn_ => (Kd.freshB (g := gb225) (o := .cells #[.string a2_0, .slice A2_1 l2_1.length c2_1] 38 (0, 0)) (by (with_reducible repeat (first | refine blk_drewN ?_ _ | refine blk_drew ?_ | refine blk_alloc ?_ _)); exact BK225.out) k_ hn_))⟩)) (below_size (by repeat (first | (with_reducible first | exact HB.out | apply below_alloc | apply pw_below_drewN | apply below_drew1 | refine below_set ?_ GE224.out | refine below_set ?_ GE225.out) | exact HB.out))))
   have n13_ := Aside0.mk (blk_below (g := gb224) (o := .cells #[.string a1_0, .slice A1_1 l1_1.length c1_1] 38 (0, 0)) (by (with_reducible repeat (first | refine blk_drewN ?_ _ | refine blk_drew ?_ | refine blk_alloc ?_ _)); exact BK224.out) hb)
   have n14_ := Aside0.mk (blk_below (g := gb225) (o := .cells #[.string a2_0, .slice A2_1 l2_1.length c2_1] 38 (0, 0)) (by (with_reducible repeat (first | refine blk_drewN ?_ _ | refine blk_drew ?_ | refine blk_alloc ?_ _)); exact BK225.out) hb)
   have n15_ := Aside0.mk (Kd.C_below (by repeat (first | (with_reducible exact HR241_1.out) | (with_reducible refine Kd.C_alloc ?_ _) | (with_reducible refine Kd.C_drewN ?_ _) | (with_reducible refine Kd.C_drew ?_) | exact HR241_1.out)) hb)
   have n16_ := Aside0.mk (Kd.C_below (by repeat (first | (with_reducible exact HR242_1.out) | (with_reducible refine Kd.C_alloc ?_ _) | (with_reducible refine Kd.C_drewN ?_ _) | (with_reducible refine Kd.C_drew ?_) | exact HR242_1.out)) hb)
   have n17_ := Aside0.mk (Kd.C_below (by repeat (first | (with_reducible exact HR247_1.out) | (with_reducible refine Kd.C_alloc ?_ _) | (with_reducible refine Kd.C_drewN ?_ _) | (with_reducible refine Kd.C_drew ?_) | exact HR247_1.out)) hb)
   have n18_ := Aside0.mk (Kd.C_below (by repeat (first | (with_reducible exact HR248_1.out) | (with_reducible refine Kd.C_alloc ?_ _) | (with_reducible refine Kd.C_drewN ?_ _) | (with_reducible refine Kd.C_drew ?_) | exact HR248_1.out)) hb)
   have n19_ := Aside0.mk (below_step (by repeat (first | (with_reducible first | exact HB.out | apply below_alloc | apply pw_below_drewN | apply below_drew1 | refine below_set ?_ GE224.out | refine below_set ?_ GE225.out) | exact HB.out)) hb)
   clear HO1_1
   clear HO2_1
   clear HO228
   clear HO231
   clear HO234
   clear HO237
   clear HO240
   clear HL241_1
   clear HL242_1
   clear HO245
   clear HL247_1
   clear HL248_1
   clear BK224
   clear BK225
   clear HR241_1
   clear HR242_1
   clear HR247_1
   clear HR248_1
   clear HB
   have HO1_1 := n0_
   have HO2_1 := n1_
   have HO228 := n2_
   have HO231 := n3_
   have HO234 := n4_
   have HO237 := n5_
   have HO240 := n6_
   have HL241_1 := n7_
   have HL242_1 := n8_
   have HO245 := n9_
   have HL247_1 := n10_
   have HL248_1 := n11_
   have HO251 := n12_
   have BK224 := n13_
   have BK225 := n14_
   have HR241_1 := n15_
   have HR242_1 := n16_
   have HR247_1 := n17_
   have HR248_1 := n18_
   have HB := n19_
   clear n0_ n1_ n2_ n3_ n4_ n5_ n6_ n7_ n8_ n9_ n10_ n11_ n12_ n13_ n14_ n15_ n16_ n17_ n18_ n19_
   (try clear hb)
   (try clear hb2)
   (try clear hk)
   (try clear hi)
   (try clear ho0)
   refine hK.out _ _ ⟨HS0_, HS1_, HS2_, HS3_⟩ (fun hHeld => ?_)
   clear hK K
   refine norm_ (a' := ?_) ?_ ?_
   rotate_left
   ·show Act.put _ (some 46) _ = _
    simp only [Act.put, List.setIfInBounds_toArray, List.set_cons_zero, List.set_cons_succ, i64_w, i32_w]
    rfl
   refine pure_ (i := 10) (N := some 36) (v := ?_) (a' := ?_) #[true, true, true, true, true, true, true, true, true, true, true, false, false, false, false] rfl rfl (any_of HT_.out (by kernel_rfl)) (fun _ _ _ h => h) (Or.inl ⟨by rfl, ?_⟩) ?_ ?_
   rotate_left
   ·intro w'
    go_simp
    with_reducible rfl
   rotate_left
   ·simp only [Act.put, List.setIfInBounds_toArray, List.set_cons_zero, List.set_cons_succ, i64_w, i32_w]
    rfl
   refine pure_ (i := 11) (N := some 47) (v := ?_) (a' := ?_) #[true, true, true, true, true, true, true, true, true, true, true, true, false, false, false] rfl rfl (any_of HT_.out (by kernel_rfl)) (fun _ _ _ h => h) (Or.inl ⟨by rfl, ?_⟩) ?_ ?_
   rotate_left
   ·intro w'
    go_simp
    with_reducible rfl
   rotate_left
   ·simp only [Act.put, List.setIfInBounds_toArray, List.set_cons_zero, List.set_cons_succ, i64_w, i32_w]
    rfl
   refine pure_ (i := 12) (N := some 48) (v := ?_) (a' := ?_) #[true, true, true, true, true, true, true, true, true, true, true, true, true, false, false] rfl rfl (any_of HT_.out (by kernel_rfl)) (fun _ _ _ h => h) (Or.inl ⟨by rfl, ?_⟩) ?_ ?_
   rotate_left
   ·intro w'
    go_simp
    with_reducible rfl
   rotate_left
   ·simp only [Act.put, List.setIfInBounds_toArray, List.set_cons_zero, List.set_cons_succ, i64_w, i32_w]
    rfl
   refine pure_ (i := 13) (N := some 9) (v := ?_) (a' := ?_) #[true, true, true, true, true, true, true, true, true, true, true, true, true, true, false] rfl rfl (any_of HT_.out (by kernel_rfl)) (fun _ _ _ h => h) (Or.inl ⟨by rfl, ?_⟩) ?_ ?_
   rotate_left
   ·intro w'
    go_simp
    with_reducible rfl
   rotate_left
   ·simp only [Act.put, List.setIfInBounds_toArray, List.set_cons_zero, List.set_cons_succ, i64_w, i32_w]
    rfl
   refine pure_ (i := 14) (N := some 11) (v := ?_) (a' := ?_) #[true, true, true, true, true, true, true, true, true, true, true, true, true, true, true] rfl rfl (any_of HT_.out (by kernel_rfl)) (fun _ _ _ h => h) (Or.inl ⟨by rfl, ?_⟩) ?_ ?_
   rotate_left
   ·intro w'
    go_simp
    with_reducible rfl
   rotate_left
   ·simp only [Act.put, List.setIfInBounds_toArray, List.set_cons_zero, List.set_cons_succ, i64_w, i32_w]
    rfl
   refine done_ (done_of HT_.out (by kernel_rfl)) ?_
   try go_wp2
   have n0_ := Aside0.mk (Kd.V_drew HO1_1.out)
   have n1_ := Aside0.mk (Kd.V_drew HO2_1.out)
   have n2_ := Aside0.mk (Kd.N_drew HO228.out)
   have n3_ := Aside0.mk (Kd.N_drew HO231.out)
   have n4_ := Aside0.mk (Kd.N_drew HO234.out)
   have n5_ := Aside0.mk (Kd.N_drew HO237.out)
   have n6_ := Aside0.mk (Kd.N_drew HO240.out)
   have n7_ := Aside0.mk (Kd.V_drew HL241_1.out)
   have n8_ := Aside0.mk (Kd.V_drew HL242_1.out)
   have n9_ := Aside0.mk (Kd.V_drew HO245.out)
   have n10_ := Aside0.mk (Kd.V_drew HL247_1.out)
   have n11_ := Aside0.mk (Kd.V_drew HL248_1.out)
   have n12_ := Aside0.mk (Kd.V_drew HO251.out)
   have n13_ := Aside0.mk (blk_drew BK224.out)
   have n14_ := Aside0.mk (blk_drew BK225.out)
   have n15_ := Aside0.mk (Kd.C_drew HR241_1.out)
   have n16_ := Aside0.mk (Kd.C_drew HR242_1.out)
   have n17_ := Aside0.mk (Kd.C_drew HR247_1.out)
   have n18_ := Aside0.mk (Kd.C_drew HR248_1.out)
   have n19_ := Aside0.mk (below_drew1 HB.out)
   clear HO1_1
   clear HO2_1
   clear HO228
   clear HO231
   clear HO234
   clear HO237
   clear HO240
   clear HL241_1
   clear HL242_1
   clear HO245
   clear HL247_1
   clear HL248_1
   clear HO251
   clear BK224
   clear BK225
   clear HR241_1
   clear HR242_1
   clear HR247_1
   clear HR248_1
   clear HB
   have HO1_1 := n0_
   have HO2_1 := n1_
   have HO228 := n2_
   have HO231 := n3_
   have HO234 := n4_
   have HO237 := n5_
   have HO240 := n6_
   have HL241_1 := n7_
   have HL242_1 := n8_
   have HO245 := n9_
   have HL247_1 := n10_
   have HL248_1 := n11_
   have HO251 := n12_
   have BK224 := n13_
   have BK225 := n14_
   have HR241_1 := n15_
   have HR242_1 := n16_
   have HR247_1 := n17_
   have HR248_1 := n18_
   have HB := n19_
   clear n0_ n1_ n2_ n3_ n4_ n5_ n6_ n7_ n8_ n9_ n10_ n11_ n12_ n13_ n14_ n15_ n16_ n17_ n18_ n19_
   have p253 : 0 ≤ (0 : Int) := (by omega)
   have q253 : 0 < (t238.length : Int) := of_decide_eq_true (by first | (with_reducible assumption) | assumption)
   obtain ⟨ad253, A253_1, c253_1, e253, hx253_0, hx253_1, hl253_1, hi253_1⟩ := at_T38 (Kd.N_reads' HO240.out).2.2 0 p253 q253
   obtain rfl : ad247 = ad253 := (by injection e253)
   obtain ⟨ce253, hce253, hMe253, hcc253⟩ := Kd.N_get HO240.out z38 0 p253 (by first | exact q253 | exact of_decide_eq_true (by first | (with_reducible assumption) | assumption) | (have e_ := (Kd.N_reads' HO240.out).1; omega))
   obtain ⟨ua253_1, uc253_1, rfl, ul253_1, ge253_1⟩ := k38_openF hMe253
   have hv253_1 := hcc253 1 _ rfl
   rw [add_field _ _ 1 (by omega)] at hv253_1
   replace hv253_1 := Option.some.inj (hv253_1.symm.trans hx253_1)
   injection hv253_1 with hva_ hvn_ hvc_
   rw [hva_] at ge253_1
   rw [hvc_] at ul253_1
   have HL253_1 := Aside0.mk (show Kd.V k50 50 _ w.heap.size _ _ ((rd_T38 t238 0).f1) from Kd.V_mk ul253_1 ge253_1)
   clear hva_ hvn_ hvc_ ge253_1 ul253_1
   clear hcc253 hce253
   have qi253 : (0 < t238.length) = True := eq_true (by omega)
   (try rw [show ((0 : Int)).toNat = 0 from rfl] at hx253_0)
   (try rw [show 0 * 2 = 0 from rfl] at hx253_0)
   (try rw [Addr.add_zero'] at hx253_0)
   (try rw [show ((0 : Int)).toNat = 0 from rfl] at hx253_1)
   (try rw [show 0 * 2 = 0 from rfl] at hx253_1)
   (try rw [Addr.add_zero'] at hx253_1)
   have HR253_1 := Aside0.mk hi253_1
   have HC253_1 := Aside0.mk hl253_1
   clear hi253_1 hl253_1
   replace p253 := eq_true p253
   replace q253 := eq_true q253
   have p254 : 0 ≤ (0 : Int) := (by omega)
   have q254 : 0 < (t238.length : Int) := of_decide_eq_true (by first | (with_reducible assumption) | assumption)
   obtain ⟨ad254, A254_1, c254_1, e254, hx254_0, hx254_1, hl254_1, hi254_1⟩ := at_T38 (Kd.N_reads' HO240.out).2.2 0 p254 q254
   obtain rfl : ad247 = ad254 := (by injection e254)
   obtain ⟨ce254, hce254, hMe254, hcc254⟩ := Kd.N_get HO240.out z38 0 p254 (by first | exact q254 | exact of_decide_eq_true (by first | (with_reducible assumption) | assumption) | (have e_ := (Kd.N_reads' HO240.out).1; omega))
   obtain ⟨ua254_1, uc254_1, rfl, ul254_1, ge254_1⟩ := k38_openF hMe254
   have hv254_1 := hcc254 1 _ rfl
   rw [add_field _ _ 1 (by omega)] at hv254_1
   replace hv254_1 := Option.some.inj (hv254_1.symm.trans hx254_1)
   injection hv254_1 with hva_ hvn_ hvc_
   rw [hva_] at ge254_1
   rw [hvc_] at ul254_1
   have HL254_1 := Aside0.mk (show Kd.V k50 50 _ w.heap.size _ _ ((rd_T38 t238 0).f1) from Kd.V_mk ul254_1 ge254_1)
   clear hva_ hvn_ hvc_ ge254_1 ul254_1
   clear hcc254 hce254
   have qi254 : (0 < t238.length) = True := eq_true (by omega)
   (try rw [show ((0 : Int)).toNat = 0 from rfl] at hx254_0)
   (try rw [show 0 * 2 = 0 from rfl] at hx254_0)
   (try rw [Addr.add_zero'] at hx254_0)
   (try rw [show ((0 : Int)).toNat = 0 from rfl] at hx254_1)
   (try rw [show 0 * 2 = 0 from rfl] at hx254_1)
   (try rw [Addr.add_zero'] at hx254_1)
   have HR254_1 := Aside0.mk hi254_1
   have HC254_1 := Aside0.mk hl254_1
   clear hi254_1 hl254_1
   replace p254 := eq_true p254
   replace q254 := eq_true q254
   have ea_ := Option.some.inj (hx253_1.symm.trans hx254_1)
   injection ea_ with ea_ en_ ec_
   subst ea_
   subst ec_
   clear en_
   refine start_ (n := 15) (S := fun w' => w'.cell? ad247 = some (.string ((rd_T38 t238 0).f0)) ∧ w'.cell? ⟨ad247.block, ad247.off + 1, none⟩ = some (.slice A253_1 ((rd_T38 t238 0).f1).length c253_1) ∧ w'.cell? ad247 = some (.string ((rd_T38 t238 0).f0)) ∧ w'.cell? ⟨ad247.block, ad247.off + 1, none⟩ = some (.slice A253_1 ((rd_T38 t238 0).f1).length c253_1)) (ds := []) #[false, false, false, false, false, false, false, false, false, false, false, false, false, false, false] (by kernel_rfl) rfl rfl ⟨hx253_0, hx253_1, hx254_0, hx254_1⟩ (fun hHeld => ?_); refine with_tabW cellarerlaw06_IndexTurns.tab5 cellarerlaw06_IndexTurns.bits5 (fun HT_ HW_ => ?_)
   generalize w34.drew = w35 at HO1_1 HO2_1 HO228 HO231 HO234 HO237 HO240 HL241_1 HL242_1 HO245 HL247_1 HL248_1 HO251 BK224 BK225 HR241_1 HR242_1 HR247_1 HR248_1 HB HL253_1 HL254_1 HR253_1 HR254_1 hx253_0 hx253_1 hx254_0 hx254_1 hHeld ⊢
   refine pure_ (i := 0) (N := some 50) (v := ?_) (a' := ?_) #[true, false, false, false, false, false, false, false, false, false, false, false, false, false, false] rfl rfl (any_of HT_.out (by kernel_rfl)) (fun _ _ _ h => h) (Or.inl ⟨by rfl, ?_⟩) ?_ ?_
   rotate_left
   ·intro w'
    go_simp
    with_reducible rfl
   rotate_left
   ·simp only [Act.put, List.setIfInBounds_toArray, List.set_cons_zero, List.set_cons_succ, i64_w, i32_w]
    rfl
   refine pure_ (i := 1) (N := some 51) (v := ?_) (a' := ?_) #[true, true, false, false, false, false, false, false, false, false, false, false, false, false, false] rfl rfl (any_of HT_.out (by kernel_rfl)) (fun _ _ _ h => h) (Or.inl ⟨by rfl, ?_⟩) ?_ ?_
   rotate_left
   ·intro w'
    go_simp
    with_reducible rfl
   rotate_left
   ·simp only [Act.put, List.setIfInBounds_toArray, List.set_cons_zero, List.set_cons_succ, i64_w, i32_w]
    rfl
   refine pure_ (i := 2) (N := some 52) (v := ?_) (a' := ?_) #[true, true, true, false, false, false, false, false, false, false, false, false, false, false, false] rfl rfl (any_of HT_.out (by kernel_rfl)) (fun _ _ _ h => h) (Or.inl ⟨by rfl, ?_⟩) ?_ ?_
   rotate_left
   ·intro w'
    go_simp
    with_reducible rfl
   rotate_left
   ·simp only [Act.put, List.setIfInBounds_toArray, List.set_cons_zero, List.set_cons_succ, i64_w, i32_w]
    rfl
   refine pure_ (i := 3) (N := some 53) (v := ?_) (a' := ?_) #[true, true, true, true, false, false, false, false, false, false, false, false, false, false, false] rfl rfl (any_of HT_.out (by kernel_rfl)) (fun _ _ _ h => h) (Or.inl ⟨by rfl, ?_⟩) ?_ ?_
   rotate_left
   ·intro w'
    go_simp
    with_reducible rfl
   rotate_left
   ·simp only [Act.put, List.setIfInBounds_toArray, List.set_cons_zero, List.set_cons_succ, i64_w, i32_w]
    rfl
   refine pure_ (i := 5) (N := some 55) (v := ?_) (a' := ?_) #[true, true, true, true, false, true, false, false, false, false, false, false, false, false, false] rfl rfl (any_of HT_.out (by kernel_rfl)) (fun _ _ _ h => h) (Or.inl ⟨by rfl, ?_⟩) ?_ ?_
   rotate_left
   ·intro w'
    go_simp
    with_reducible rfl
   rotate_left
   ·simp only [Act.put, List.setIfInBounds_toArray, List.set_cons_zero, List.set_cons_succ, i64_w, i32_w]
    rfl
   refine pure_ (i := 6) (N := some 56) (v := ?_) (a' := ?_) #[true, true, true, true, false, true, true, false, false, false, false, false, false, false, false] rfl rfl (any_of HT_.out (by kernel_rfl)) (fun _ _ _ h => h) (Or.inl ⟨by rfl, ?_⟩) ?_ ?_
   rotate_left
   ·intro w'
    go_simp
    with_reducible rfl
   rotate_left
   ·simp only [Act.put, List.setIfInBounds_toArray, List.set_cons_zero, List.set_cons_succ, i64_w, i32_w]
    rfl
   refine pure_ (i := 7) (N := some 57) (v := ?_) (a' := ?_) #[true, true, true, true, false, true, true, true, false, false, false, false, false, false, false] rfl rfl (any_of HT_.out (by kernel_rfl)) (fun _ _ _ h => h) (Or.inl ⟨by rfl, ?_⟩) ?_ ?_
   rotate_left
   ·intro w'
    go_simp
    with_reducible rfl
   rotate_left
   ·simp only [Act.put, List.setIfInBounds_toArray, List.set_cons_zero, List.set_cons_succ, i64_w, i32_w]
    rfl
   refine take_ (i := 4) (N := some 54) (v := ?_) (a' := ?_) #[true, true, true, true, true, true, true, true, false, false, false, false, false, false, false] rfl rfl (take_ofW HT_.out HW_.out (by kernel_rfl)) (fun _ _ _ h => h) (Or.inl ⟨by rfl, ?_⟩) hHeld ?_ ?_
   rotate_left
   ·rintro w' ⟨s0, s1, s2, s3⟩
    go_simp
    with_reducible rfl
   rotate_left
   ·simp only [Act.put, List.setIfInBounds_toArray, List.set_cons_zero, List.set_cons_succ, i64_w, i32_w]
    rfl
   refine take_ (i := 8) (N := some 58) (v := ?_) (a' := ?_) #[true, true, true, true, true, true, true, true, true, false, false, false, false, false, false] rfl rfl (take_ofW HT_.out HW_.out (by kernel_rfl)) (fun _ _ _ h => h) (Or.inl ⟨by rfl, ?_⟩) hHeld ?_ ?_
   rotate_left
   ·rintro w' ⟨s0, s1, s2, s3⟩
    go_simp
    with_reducible rfl
   rotate_left
   ·simp only [Act.put, List.setIfInBounds_toArray, List.set_cons_zero, List.set_cons_succ, i64_w, i32_w]
    rfl
   refine one_ (i := 9) (N := some 59) #[true, true, true, true, true, true, true, true, true, true, false, false, false, false, false] rfl rfl (one_of HT_.out (by kernel_rfl)) (by decide) (fun K hK => ?_)
   refine goes_ Try.func12 (by kernel_rfl) rfl #[.slice Ao29 t226.length co29, .string ((rd_T38 t238 0).f0), .slice A253_1 ((rd_T38 t238 0).f1).length c253_1] (by rfl) rfl rfl (by (try simp only [List.map_toArray, List.map_cons, List.map_nil]); first | done | rfl | (simp only [List.length_drop, List.length_take]; rfl)) ?_
   with_reducible refine (index_Put.calls (fun k_ => (((P1_1_ k_ ∨ P2_1_ k_) ∨ w.heap.size ≤ k_) ∧ (k_ ≠ gb224 ∧ k_ ≠ gb225))) _ _ t226 ((rd_T38 t238 0).f0) _ _ ((rd_T38 t238 0).f1) t255 t258 _ ?side1 ?side2 ?side3 A11.out).mono ?_
   (case side1 => exact Kd.N_V (HO228.out))
   (case side2 => repeat (first | exact (by repeat (first | (with_reducible exact HR254_1.out) | (with_reducible refine Kd.C_alloc ?_ _) | (with_reducible refine Kd.C_drewN ?_ _) | (with_reducible refine Kd.C_drew ?_) | exact HR254_1.out)) | (with_reducible refine Kd.C_alloc ?_ _) | (with_reducible refine Kd.C_drewN ?_ _) | (with_reducible refine Kd.C_drew ?_)))
   (case side3 => exact HC254_1.out)
   rintro e w36 ⟨v256, rfl, ho0, hb⟩
   have HS0_ := (hb.cell (World.block_lt_of_cell? _ _ (hHeld.1))).trans (hHeld.1)
   have HS1_ := (hb.cell (World.block_lt_of_cell? _ _ (hHeld.2.1))).trans (hHeld.2.1)
   have HS2_ := (hb.cell (World.block_lt_of_cell? _ _ (hHeld.2.2.1))).trans (hHeld.2.2.1)
   have HS3_ := (hb.cell (World.block_lt_of_cell? _ _ (hHeld.2.2.2))).trans (hHeld.2.2.2)
   refine ⟨_, rfl, ?_⟩
   have n0_ := Aside0.mk (Kd.V_below (by (with_reducible repeat (first | apply Kd.V_alloc | apply Kd.V_drewN | apply Kd.V_drew)); exact HO1_1.out) hb)
   have n1_ := Aside0.mk (Kd.V_below (by (with_reducible repeat (first | apply Kd.V_alloc | apply Kd.V_drewN | apply Kd.V_drew)); exact HO2_1.out) hb)
   have n2_ := Aside0.mk (Kd.N_below (by (with_reducible repeat (first | apply Kd.N_alloc | apply Kd.N_drewN | apply Kd.N_drew)); first | exact HO228.out | exact Kd.N_mono HO228.out (fun k_ hk => by first | exact hk | (simp only [hk, ne_eq, not_false_eq_true, and_self, true_and, and_true, or_true, true_or]; done) | (simp only [ne_eq, and_assoc] at hk ⊢; simp only [hk, not_false_eq_true, and_self, true_and, and_true]))) hb)
   have n3_ := Aside0.mk (Kd.N_below (by (with_reducible repeat (first | apply Kd.N_alloc | apply Kd.N_drewN | apply Kd.N_drew)); first | exact HO231.out | exact Kd.N_mono HO231.out (fun k_ hk => by first | exact hk | (simp only [hk, ne_eq, not_false_eq_true, and_self, true_and, and_true, or_true, true_or]; done) | (simp only [ne_eq, and_assoc] at hk ⊢; simp only [hk, not_false_eq_true, and_self, true_and, and_true]))) hb)
   have n4_ := Aside0.mk (Kd.N_below (by (with_reducible repeat (first | apply Kd.N_alloc | apply Kd.N_drewN | apply Kd.N_drew)); first | exact HO234.out | exact Kd.N_mono HO234.out (fun k_ hk => by first | exact hk | (simp only [hk, ne_eq, not_false_eq_true, and_self, true_and, and_true, or_true, true_or]; done) | (simp only [ne_eq, and_assoc] at hk ⊢; simp only [hk, not_false_eq_true, and_self, true_and, and_true]))) hb)
   have n5_ := Aside0.mk (Kd.N_below (by (with_reducible repeat (first | apply Kd.N_alloc | apply Kd.N_drewN | apply Kd.N_drew)); first | exact HO237.out | exact Kd.N_mono HO237.out (fun k_ hk => by first | exact hk | (simp only [hk, ne_eq, not_false_eq_true, and_self, true_and, and_true, or_true, true_or]; done) | (simp only [ne_eq, and_assoc] at hk ⊢; simp only [hk, not_false_eq_true, and_self, true_and, and_true]))) hb)
   have n6_ := Aside0.mk (Kd.N_below (by (with_reducible repeat (first | apply Kd.N_alloc | apply Kd.N_drewN | apply Kd.N_drew)); first | exact HO240.out | exact Kd.N_mono HO240.out (fun k_ hk => by first | exact hk | (simp only [hk, ne_eq, not_false_eq_true, and_self, true_and, and_true, or_true, true_or]; done) | (simp only [ne_eq, and_assoc] at hk ⊢; simp only [hk, not_false_eq_true, and_self, true_and, and_true]))) hb)
   have n7_ := Aside0.mk (Kd.V_below (by (with_reducible repeat (first | apply Kd.V_alloc | apply Kd.V_drewN | apply Kd.V_drew)); exact HL241_1.out) hb)
   have n8_ := Aside0.mk (Kd.V_below (by (with_reducible repeat (first | apply Kd.V_alloc | apply Kd.V_drewN | apply Kd.V_drew)); exact HL242_1.out) hb)
   have n9_ := Aside0.mk (Kd.V_below (by (with_reducible repeat (first | apply Kd.V_alloc | apply Kd.V_drewN | apply Kd.V_drew)); exact HO245.out) hb)
   have n10_ := Aside0.mk (Kd.V_below (by (with_reducible repeat (first | apply Kd.V_alloc | apply Kd.V_drewN | apply Kd.V_drew)); exact HL247_1.out) hb)
   have n11_ := Aside0.mk (Kd.V_below (by (with_reducible repeat (first | apply Kd.V_alloc | apply Kd.V_drewN | apply Kd.V_drew)); exact HL248_1.out) hb)
   have n12_ := Aside0.mk (Kd.V_below (by (with_reducible repeat (first | apply Kd.V_alloc | apply Kd.V_drewN | apply Kd.V_drew)); exact HO251.out) hb)
   have n13_ := Aside0.mk (Kd.V_below (by (with_reducible repeat (first | apply Kd.V_alloc | apply Kd.V_drewN | apply Kd.V_drew)); exact HL253_1.out) hb)
   have n14_ := Aside0.mk (Kd.V_below (by (with_reducible repeat (first | apply Kd.V_alloc | apply Kd.V_drewN | apply Kd.V_drew)); exact HL254_1.out) hb)
   have n15_ := Aside0.mk (Kd.V_lower (Kd.V_mono (ok' := fun k_ => ((P1_1_ k_ ∨ P2_1_ k_) ∨ w.heap.size ≤ k_) ∧ k_ ≠ gb224 ∧ k_ ≠ gb225) ho0 (fun k_ hk_ => ⟨Or.elim hk_ (fun hs_ => hs_.1) (fun hn_ => (.inr (Nat.le_trans (below_size (by repeat (first | (with_reducible first | exact HB.out | apply below_alloc | apply pw_below_drewN | apply below_drew1 | refine below_set ?_ GE224.out | refine below_set ?_ GE225.out) | exact HB.out))) hn_))), Or.elim hk_ (fun hs_ => hs_.2.1) (fun hn_ => (Kd.freshB (g := gb224) (o := .cells #[.string a1_0, .slice A1_1 l1_1.length c1_1] 38 (0, 0)) (by (with_reducible repeat (first | refine blk_drewN ?_ _ | refine blk_drew ?_ | refine blk_alloc ?_ _)); exact BK224.out) k_ hn_)), Or.elim hk_ (fun hs_ => hs_.2.2) (fun hn_ => (Kd.freshB (g := gb225) (o := .cells #[.string a2_0, .slice A2_1 l2_1.length c2_1] 38 (0, 0)) (by (with_reducible repeat (first | refine blk_drewN ?_ _ | refine blk_drew ?_ | refine blk_alloc ?_ _)); exact BK225.out) k_ hn_))⟩)) (below_size (by repeat (first | (with_reducible first | exact HB.out | apply below_alloc | apply pw_below_drewN | apply below_drew1 | refine below_set ?_ GE224.out | refine below_set ?_ GE225.out) | exact HB.out))))
   have n16_ := Aside0.mk (blk_below (g := gb224) (o := .cells #[.string a1_0, .slice A1_1 l1_1.length c1_1] 38 (0, 0)) (by (with_reducible repeat (first | refine blk_drewN ?_ _ | refine blk_drew ?_ | refine blk_alloc ?_ _)); exact BK224.out) hb)
   have n17_ := Aside0.mk (blk_below (g := gb225) (o := .cells #[.string a2_0, .slice A2_1 l2_1.length c2_1] 38 (0, 0)) (by (with_reducible repeat (first | refine blk_drewN ?_ _ | refine blk_drew ?_ | refine blk_alloc ?_ _)); exact BK225.out) hb)
   have n18_ := Aside0.mk (Kd.C_below (by repeat (first | (with_reducible exact HR241_1.out) | (with_reducible refine Kd.C_alloc ?_ _) | (with_reducible refine Kd.C_drewN ?_ _) | (with_reducible refine Kd.C_drew ?_) | exact HR241_1.out)) hb)
   have n19_ := Aside0.mk (Kd.C_below (by repeat (first | (with_reducible exact HR242_1.out) | (with_reducible refine Kd.C_alloc ?_ _) | (with_reducible refine Kd.C_drewN ?_ _) | (with_reducible refine Kd.C_drew ?_) | exact HR242_1.out)) hb)
   have n20_ := Aside0.mk (Kd.C_below (by repeat (first | (with_reducible exact HR247_1.out) | (with_reducible refine Kd.C_alloc ?_ _) | (with_reducible refine Kd.C_drewN ?_ _) | (with_reducible refine Kd.C_drew ?_) | exact HR247_1.out)) hb)
   have n21_ := Aside0.mk (Kd.C_below (by repeat (first | (with_reducible exact HR248_1.out) | (with_reducible refine Kd.C_alloc ?_ _) | (with_reducible refine Kd.C_drewN ?_ _) | (with_reducible refine Kd.C_drew ?_) | exact HR248_1.out)) hb)
   have n22_ := Aside0.mk (Kd.C_below (by repeat (first | (with_reducible exact HR253_1.out) | (with_reducible refine Kd.C_alloc ?_ _) | (with_reducible refine Kd.C_drewN ?_ _) | (with_reducible refine Kd.C_drew ?_) | exact HR253_1.out)) hb)
   have n23_ := Aside0.mk (Kd.C_below (by repeat (first | (with_reducible exact HR254_1.out) | (with_reducible refine Kd.C_alloc ?_ _) | (with_reducible refine Kd.C_drewN ?_ _) | (with_reducible refine Kd.C_drew ?_) | exact HR254_1.out)) hb)
   have n24_ := Aside0.mk (below_step (by repeat (first | (with_reducible first | exact HB.out | apply below_alloc | apply pw_below_drewN | apply below_drew1 | refine below_set ?_ GE224.out | refine below_set ?_ GE225.out) | exact HB.out)) hb)
   clear HO1_1
   clear HO2_1
   clear HO228
   clear HO231
   clear HO234
   clear HO237
   clear HO240
   clear HL241_1
   clear HL242_1
   clear HO245
   clear HL247_1
   clear HL248_1
   clear HO251
   clear HL253_1
   clear HL254_1
   clear BK224
   clear BK225
   clear HR241_1
   clear HR242_1
   clear HR247_1
   clear HR248_1
   clear HR253_1
   clear HR254_1
   clear HB
   have HO1_1 := n0_
   have HO2_1 := n1_
   have HO228 := n2_
   have HO231 := n3_
   have HO234 := n4_
   have HO237 := n5_
   have HO240 := n6_
   have HL241_1 := n7_
   have HL242_1 := n8_
   have HO245 := n9_
   have HL247_1 := n10_
   have HL248_1 := n11_
   have HO251 := n12_
   have HL253_1 := n13_
   have HL254_1 := n14_
   have HO257 := n15_
   have BK224 := n16_
   have BK225 := n17_
   have HR241_1 := n18_
   have HR242_1 := n19_
   have HR247_1 := n20_
   have HR248_1 := n21_
   have HR253_1 := n22_
   have HR254_1 := n23_
   have HB := n24_
   clear n0_ n1_ n2_ n3_ n4_ n5_ n6_ n7_ n8_ n9_ n10_ n11_ n12_ n13_ n14_ n15_ n16_ n17_ n18_ n19_ n20_ n21_ n22_ n23_ n24_
   (try clear hb)
   (try clear hb2)
   (try clear hk)
   (try clear hi)
   (try clear ho0)
   refine hK.out _ _ ⟨HS0_, HS1_, HS2_, HS3_⟩ (fun hHeld => ?_)
   clear hK K
   refine norm_ (a' := ?_) ?_ ?_
   rotate_left
   ·show Act.put _ (some 59) _ = _
    simp only [Act.put, List.setIfInBounds_toArray, List.set_cons_zero, List.set_cons_succ, i64_w, i32_w]
    rfl
   refine pure_ (i := 10) (N := some 49) (v := ?_) (a' := ?_) #[true, true, true, true, true, true, true, true, true, true, true, false, false, false, false] rfl rfl (any_of HT_.out (by kernel_rfl)) (fun _ _ _ h => h) (Or.inl ⟨by rfl, ?_⟩) ?_ ?_
   rotate_left
   ·intro w'
    go_simp
    with_reducible rfl
   rotate_left
   ·simp only [Act.put, List.setIfInBounds_toArray, List.set_cons_zero, List.set_cons_succ, i64_w, i32_w]
    rfl
   refine pure_ (i := 11) (N := some 60) (v := ?_) (a' := ?_) #[true, true, true, true, true, true, true, true, true, true, true, true, false, false, false] rfl rfl (any_of HT_.out (by kernel_rfl)) (fun _ _ _ h => h) (Or.inl ⟨by rfl, ?_⟩) ?_ ?_
   rotate_left
   ·intro w'
    go_simp
    with_reducible rfl
   rotate_left
   ·simp only [Act.put, List.setIfInBounds_toArray, List.set_cons_zero, List.set_cons_succ, i64_w, i32_w]
    rfl
   refine pure_ (i := 12) (N := some 61) (v := ?_) (a' := ?_) #[true, true, true, true, true, true, true, true, true, true, true, true, true, false, false] rfl rfl (any_of HT_.out (by kernel_rfl)) (fun _ _ _ h => h) (Or.inl ⟨by rfl, ?_⟩) ?_ ?_
   rotate_left
   ·intro w'
    go_simp
    with_reducible rfl
   rotate_left
   ·simp only [Act.put, List.setIfInBounds_toArray, List.set_cons_zero, List.set_cons_succ, i64_w, i32_w]
    rfl
   refine pure_ (i := 13) (N := some 12) (v := ?_) (a' := ?_) #[true, true, true, true, true, true, true, true, true, true, true, true, true, true, false] rfl rfl (any_of HT_.out (by kernel_rfl)) (fun _ _ _ h => h) (Or.inl ⟨by rfl, ?_⟩) ?_ ?_
   rotate_left
   ·intro w'
    go_simp
    with_reducible rfl
   rotate_left
   ·simp only [Act.put, List.setIfInBounds_toArray, List.set_cons_zero, List.set_cons_succ, i64_w, i32_w]
    rfl
   refine pure_ (i := 14) (N := some 13) (v := ?_) (a' := ?_) #[true, true, true, true, true, true, true, true, true, true, true, true, true, true, true] rfl rfl (any_of HT_.out (by kernel_rfl)) (fun _ _ _ h => h) (Or.inl ⟨by rfl, ?_⟩) ?_ ?_
   rotate_left
   ·intro w'
    go_simp
    with_reducible rfl
   rotate_left
   ·simp only [Act.put, List.setIfInBounds_toArray, List.set_cons_zero, List.set_cons_succ, i64_w, i32_w]
    rfl
   refine done_ (done_of HT_.out (by kernel_rfl)) ?_
   try go_wp2
   have n0_ := Aside0.mk (Kd.V_drew HO1_1.out)
   have n1_ := Aside0.mk (Kd.V_drew HO2_1.out)
   have n2_ := Aside0.mk (Kd.N_drew HO228.out)
   have n3_ := Aside0.mk (Kd.N_drew HO231.out)
   have n4_ := Aside0.mk (Kd.N_drew HO234.out)
   have n5_ := Aside0.mk (Kd.N_drew HO237.out)
   have n6_ := Aside0.mk (Kd.N_drew HO240.out)
   have n7_ := Aside0.mk (Kd.V_drew HL241_1.out)
   have n8_ := Aside0.mk (Kd.V_drew HL242_1.out)
   have n9_ := Aside0.mk (Kd.V_drew HO245.out)
   have n10_ := Aside0.mk (Kd.V_drew HL247_1.out)
   have n11_ := Aside0.mk (Kd.V_drew HL248_1.out)
   have n12_ := Aside0.mk (Kd.V_drew HO251.out)
   have n13_ := Aside0.mk (Kd.V_drew HL253_1.out)
   have n14_ := Aside0.mk (Kd.V_drew HL254_1.out)
   have n15_ := Aside0.mk (Kd.V_drew HO257.out)
   have n16_ := Aside0.mk (blk_drew BK224.out)
   have n17_ := Aside0.mk (blk_drew BK225.out)
   have n18_ := Aside0.mk (Kd.C_drew HR241_1.out)
   have n19_ := Aside0.mk (Kd.C_drew HR242_1.out)
   have n20_ := Aside0.mk (Kd.C_drew HR247_1.out)
   have n21_ := Aside0.mk (Kd.C_drew HR248_1.out)
   have n22_ := Aside0.mk (Kd.C_drew HR253_1.out)
   have n23_ := Aside0.mk (Kd.C_drew HR254_1.out)
   have n24_ := Aside0.mk (below_drew1 HB.out)
   clear HO1_1
   clear HO2_1
   clear HO228
   clear HO231
   clear HO234
   clear HO237
   clear HO240
   clear HL241_1
   clear HL242_1
   clear HO245
   clear HL247_1
   clear HL248_1
   clear HO251
   clear HL253_1
   clear HL254_1
   clear HO257
   clear BK224
   clear BK225
   clear HR241_1
   clear HR242_1
   clear HR247_1
   clear HR248_1
   clear HR253_1
   clear HR254_1
   clear HB
   have HO1_1 := n0_
   have HO2_1 := n1_
   have HO228 := n2_
   have HO231 := n3_
   have HO234 := n4_
   have HO237 := n5_
   have HO240 := n6_
   have HL241_1 := n7_
   have HL242_1 := n8_
   have HO245 := n9_
   have HL247_1 := n10_
   have HL248_1 := n11_
   have HO251 := n12_
   have HL253_1 := n13_
   have HL254_1 := n14_
   have HO257 := n15_
   have BK224 := n16_
   have BK225 := n17_
   have HR241_1 := n18_
   have HR242_1 := n19_
   have HR247_1 := n20_
   have HR248_1 := n21_
   have HR253_1 := n22_
   have HR254_1 := n23_
   have HB := n24_
   clear n0_ n1_ n2_ n3_ n4_ n5_ n6_ n7_ n8_ n9_ n10_ n11_ n12_ n13_ n14_ n15_ n16_ n17_ n18_ n19_ n20_ n21_ n22_ n23_ n24_
   have p259 : 0 ≤ (0 : Int) := (by omega)
   have q259 : 0 < (t232.length : Int) := of_decide_eq_true (by first | (with_reducible assumption) | assumption)
   obtain ⟨ad259, A259_1, c259_1, e259, hx259_0, hx259_1, hl259_1, hi259_1⟩ := at_T38 (Kd.N_reads' HO234.out).2.2 0 p259 q259
   obtain rfl : ad241 = ad259 := (by injection e259)
   obtain ⟨ce259, hce259, hMe259, hcc259⟩ := Kd.N_get HO234.out z38 0 p259 (by first | exact q259 | exact of_decide_eq_true (by first | (with_reducible assumption) | assumption) | (have e_ := (Kd.N_reads' HO234.out).1; omega))
   obtain ⟨ua259_1, uc259_1, rfl, ul259_1, ge259_1⟩ := k38_openF hMe259
   have hv259_1 := hcc259 1 _ rfl
   rw [add_field _ _ 1 (by omega)] at hv259_1
   replace hv259_1 := Option.some.inj (hv259_1.symm.trans hx259_1)
   injection hv259_1 with hva_ hvn_ hvc_
   rw [hva_] at ge259_1
   rw [hvc_] at ul259_1
   have HL259_1 := Aside0.mk (show Kd.V k50 50 _ w.heap.size _ _ ((rd_T38 t232 0).f1) from Kd.V_mk ul259_1 ge259_1)
   clear hva_ hvn_ hvc_ ge259_1 ul259_1
   clear hcc259 hce259
   have qi259 : (0 < t232.length) = True := eq_true (by omega)
   (try rw [show ((0 : Int)).toNat = 0 from rfl] at hx259_0)
   (try rw [show 0 * 2 = 0 from rfl] at hx259_0)
   (try rw [Addr.add_zero'] at hx259_0)
   (try rw [show ((0 : Int)).toNat = 0 from rfl] at hx259_1)
   (try rw [show 0 * 2 = 0 from rfl] at hx259_1)
   (try rw [Addr.add_zero'] at hx259_1)
   have HR259_1 := Aside0.mk hi259_1
   have HC259_1 := Aside0.mk hl259_1
   clear hi259_1 hl259_1
   replace p259 := eq_true p259
   replace q259 := eq_true q259
   have p260 : 0 ≤ (0 : Int) := (by omega)
   have q260 : 0 < (t232.length : Int) := of_decide_eq_true (by first | (with_reducible assumption) | assumption)
   obtain ⟨ad260, A260_1, c260_1, e260, hx260_0, hx260_1, hl260_1, hi260_1⟩ := at_T38 (Kd.N_reads' HO234.out).2.2 0 p260 q260
   obtain rfl : ad241 = ad260 := (by injection e260)
   obtain ⟨ce260, hce260, hMe260, hcc260⟩ := Kd.N_get HO234.out z38 0 p260 (by first | exact q260 | exact of_decide_eq_true (by first | (with_reducible assumption) | assumption) | (have e_ := (Kd.N_reads' HO234.out).1; omega))
   obtain ⟨ua260_1, uc260_1, rfl, ul260_1, ge260_1⟩ := k38_openF hMe260
   have hv260_1 := hcc260 1 _ rfl
   rw [add_field _ _ 1 (by omega)] at hv260_1
   replace hv260_1 := Option.some.inj (hv260_1.symm.trans hx260_1)
   injection hv260_1 with hva_ hvn_ hvc_
   rw [hva_] at ge260_1
   rw [hvc_] at ul260_1
   have HL260_1 := Aside0.mk (show Kd.V k50 50 _ w.heap.size _ _ ((rd_T38 t232 0).f1) from Kd.V_mk ul260_1 ge260_1)
   clear hva_ hvn_ hvc_ ge260_1 ul260_1
   clear hcc260 hce260
   have qi260 : (0 < t232.length) = True := eq_true (by omega)
   (try rw [show ((0 : Int)).toNat = 0 from rfl] at hx260_0)
   (try rw [show 0 * 2 = 0 from rfl] at hx260_0)
   (try rw [Addr.add_zero'] at hx260_0)
   (try rw [show ((0 : Int)).toNat = 0 from rfl] at hx260_1)
   (try rw [show 0 * 2 = 0 from rfl] at hx260_1)
   (try rw [Addr.add_zero'] at hx260_1)
   have HR260_1 := Aside0.mk hi260_1
   have HC260_1 := Aside0.mk hl260_1
   clear hi260_1 hl260_1
   replace p260 := eq_true p260
   replace q260 := eq_true q260
   have ea_ := Option.some.inj (hx259_1.symm.trans hx260_1)
   injection ea_ with ea_ en_ ec_
   subst ea_
   subst ec_
   clear en_
   obtain ⟨Ao38, co38, eo38⟩ := Kd.V_slice HO257.out
   (first | subst eo38 | (injection eo38 with f1_ f2_ f3_; have f4_ := f1_.symm; have f5_ := f3_.symm; clear f1_ f2_ f3_; subst f4_; subst f5_))
   refine start_ (n := 15) (S := fun w' => w'.cell? ad241 = some (.string ((rd_T38 t232 0).f0)) ∧ w'.cell? ⟨ad241.block, ad241.off + 1, none⟩ = some (.slice A259_1 ((rd_T38 t232 0).f1).length c259_1) ∧ w'.cell? ad241 = some (.string ((rd_T38 t232 0).f0)) ∧ w'.cell? ⟨ad241.block, ad241.off + 1, none⟩ = some (.slice A259_1 ((rd_T38 t232 0).f1).length c259_1)) (ds := []) #[false, false, false, false, false, false, false, false, false, false, false, false, false, false, false] (by kernel_rfl) rfl rfl ⟨hx259_0, hx259_1, hx260_0, hx260_1⟩ (fun hHeld => ?_); refine with_tabW cellarerlaw06_IndexTurns.tab6 cellarerlaw06_IndexTurns.bits6 (fun HT_ HW_ => ?_)
   generalize w36.drew = w37 at HO1_1 HO2_1 HO228 HO231 HO234 HO237 HO240 HL241_1 HL242_1 HO245 HL247_1 HL248_1 HO251 HL253_1 HL254_1 HO257 BK224 BK225 HR241_1 HR242_1 HR247_1 HR248_1 HR253_1 HR254_1 HB HL259_1 HL260_1 HR259_1 HR260_1 hx259_0 hx259_1 hx260_0 hx260_1 hHeld ⊢
   refine pure_ (i := 0) (N := some 63) (v := ?_) (a' := ?_) #[true, false, false, false, false, false, false, false, false, false, false, false, false, false, false] rfl rfl (any_of HT_.out (by kernel_rfl)) (fun _ _ _ h => h) (Or.inl ⟨by rfl, ?_⟩) ?_ ?_
   rotate_left
   ·intro w'
    go_simp
    with_reducible rfl
   rotate_left
   ·simp only [Act.put, List.setIfInBounds_toArray, List.set_cons_zero, List.set_cons_succ, i64_w, i32_w]
    rfl
   refine pure_ (i := 1) (N := some 64) (v := ?_) (a' := ?_) #[true, true, false, false, false, false, false, false, false, false, false, false, false, false, false] rfl rfl (any_of HT_.out (by kernel_rfl)) (fun _ _ _ h => h) (Or.inl ⟨by rfl, ?_⟩) ?_ ?_
   rotate_left
   ·intro w'
    go_simp
    with_reducible rfl
   rotate_left
   ·simp only [Act.put, List.setIfInBounds_toArray, List.set_cons_zero, List.set_cons_succ, i64_w, i32_w]
    rfl
   refine pure_ (i := 2) (N := some 65) (v := ?_) (a' := ?_) #[true, true, true, false, false, false, false, false, false, false, false, false, false, false, false] rfl rfl (any_of HT_.out (by kernel_rfl)) (fun _ _ _ h => h) (Or.inl ⟨by rfl, ?_⟩) ?_ ?_
   rotate_left
   ·intro w'
    go_simp
    with_reducible rfl
   rotate_left
   ·simp only [Act.put, List.setIfInBounds_toArray, List.set_cons_zero, List.set_cons_succ, i64_w, i32_w]
    rfl
   refine pure_ (i := 3) (N := some 66) (v := ?_) (a' := ?_) #[true, true, true, true, false, false, false, false, false, false, false, false, false, false, false] rfl rfl (any_of HT_.out (by kernel_rfl)) (fun _ _ _ h => h) (Or.inl ⟨by rfl, ?_⟩) ?_ ?_
   rotate_left
   ·intro w'
    go_simp
    with_reducible rfl
   rotate_left
   ·simp only [Act.put, List.setIfInBounds_toArray, List.set_cons_zero, List.set_cons_succ, i64_w, i32_w]
    rfl
   refine pure_ (i := 5) (N := some 68) (v := ?_) (a' := ?_) #[true, true, true, true, false, true, false, false, false, false, false, false, false, false, false] rfl rfl (any_of HT_.out (by kernel_rfl)) (fun _ _ _ h => h) (Or.inl ⟨by rfl, ?_⟩) ?_ ?_
   rotate_left
   ·intro w'
    go_simp
    with_reducible rfl
   rotate_left
   ·simp only [Act.put, List.setIfInBounds_toArray, List.set_cons_zero, List.set_cons_succ, i64_w, i32_w]
    rfl
   refine pure_ (i := 6) (N := some 69) (v := ?_) (a' := ?_) #[true, true, true, true, false, true, true, false, false, false, false, false, false, false, false] rfl rfl (any_of HT_.out (by kernel_rfl)) (fun _ _ _ h => h) (Or.inl ⟨by rfl, ?_⟩) ?_ ?_
   rotate_left
   ·intro w'
    go_simp
    with_reducible rfl
   rotate_left
   ·simp only [Act.put, List.setIfInBounds_toArray, List.set_cons_zero, List.set_cons_succ, i64_w, i32_w]
    rfl
   refine pure_ (i := 7) (N := some 70) (v := ?_) (a' := ?_) #[true, true, true, true, false, true, true, true, false, false, false, false, false, false, false] rfl rfl (any_of HT_.out (by kernel_rfl)) (fun _ _ _ h => h) (Or.inl ⟨by rfl, ?_⟩) ?_ ?_
   rotate_left
   ·intro w'
    go_simp
    with_reducible rfl
   rotate_left
   ·simp only [Act.put, List.setIfInBounds_toArray, List.set_cons_zero, List.set_cons_succ, i64_w, i32_w]
    rfl
   refine take_ (i := 4) (N := some 67) (v := ?_) (a' := ?_) #[true, true, true, true, true, true, true, true, false, false, false, false, false, false, false] rfl rfl (take_ofW HT_.out HW_.out (by kernel_rfl)) (fun _ _ _ h => h) (Or.inl ⟨by rfl, ?_⟩) hHeld ?_ ?_
   rotate_left
   ·rintro w' ⟨s0, s1, s2, s3⟩
    go_simp
    with_reducible rfl
   rotate_left
   ·simp only [Act.put, List.setIfInBounds_toArray, List.set_cons_zero, List.set_cons_succ, i64_w, i32_w]
    rfl
   refine take_ (i := 8) (N := some 71) (v := ?_) (a' := ?_) #[true, true, true, true, true, true, true, true, true, false, false, false, false, false, false] rfl rfl (take_ofW HT_.out HW_.out (by kernel_rfl)) (fun _ _ _ h => h) (Or.inl ⟨by rfl, ?_⟩) hHeld ?_ ?_
   rotate_left
   ·rintro w' ⟨s0, s1, s2, s3⟩
    go_simp
    with_reducible rfl
   rotate_left
   ·simp only [Act.put, List.setIfInBounds_toArray, List.set_cons_zero, List.set_cons_succ, i64_w, i32_w]
    rfl
   refine one_ (i := 9) (N := some 72) #[true, true, true, true, true, true, true, true, true, true, false, false, false, false, false] rfl rfl (one_of HT_.out (by kernel_rfl)) (by decide) (fun K hK => ?_)
   refine goes_ Try.func12 (by kernel_rfl) rfl #[.slice Ao38 t255.length co38, .string ((rd_T38 t232 0).f0), .slice A259_1 ((rd_T38 t232 0).f1).length c259_1] (by rfl) rfl rfl (by (try simp only [List.map_toArray, List.map_cons, List.map_nil]); first | done | rfl | (simp only [List.length_drop, List.length_take]; rfl)) ?_
   with_reducible refine (index_Put.calls (fun k_ => (((P1_1_ k_ ∨ P2_1_ k_) ∨ w.heap.size ≤ k_) ∧ (k_ ≠ gb224 ∧ k_ ≠ gb225))) _ _ t255 ((rd_T38 t232 0).f0) _ _ ((rd_T38 t232 0).f1) t261 t264 _ ?side1 ?side2 ?side3 A12.out).mono ?_
   (case side1 => exact HO257.out)
   (case side2 => repeat (first | exact (by repeat (first | (with_reducible exact HR260_1.out) | (with_reducible refine Kd.C_alloc ?_ _) | (with_reducible refine Kd.C_drewN ?_ _) | (with_reducible refine Kd.C_drew ?_) | exact HR260_1.out)) | (with_reducible refine Kd.C_alloc ?_ _) | (with_reducible refine Kd.C_drewN ?_ _) | (with_reducible refine Kd.C_drew ?_)))
   (case side3 => exact HC260_1.out)
   rintro e w39 ⟨v262, rfl, ho0, hb⟩
   have HS0_ := (hb.cell (World.block_lt_of_cell? _ _ (hHeld.1))).trans (hHeld.1)
   have HS1_ := (hb.cell (World.block_lt_of_cell? _ _ (hHeld.2.1))).trans (hHeld.2.1)
   have HS2_ := (hb.cell (World.block_lt_of_cell? _ _ (hHeld.2.2.1))).trans (hHeld.2.2.1)
   have HS3_ := (hb.cell (World.block_lt_of_cell? _ _ (hHeld.2.2.2))).trans (hHeld.2.2.2)
   refine ⟨_, rfl, ?_⟩
   have n0_ := Aside0.mk (Kd.V_below (by (with_reducible repeat (first | apply Kd.V_alloc | apply Kd.V_drewN | apply Kd.V_drew)); exact HO1_1.out) hb)
   have n1_ := Aside0.mk (Kd.V_below (by (with_reducible repeat (first | apply Kd.V_alloc | apply Kd.V_drewN | apply Kd.V_drew)); exact HO2_1.out) hb)
   have n2_ := Aside0.mk (Kd.N_below (by (with_reducible repeat (first | apply Kd.N_alloc | apply Kd.N_drewN | apply Kd.N_drew)); first | exact HO228.out | exact Kd.N_mono HO228.out (fun k_ hk => by first | exact hk | (simp only [hk, ne_eq, not_false_eq_true, and_self, true_and, and_true, or_true, true_or]; done) | (simp only [ne_eq, and_assoc] at hk ⊢; simp only [hk, not_false_eq_true, and_self, true_and, and_true]))) hb)
   have n3_ := Aside0.mk (Kd.N_below (by (with_reducible repeat (first | apply Kd.N_alloc | apply Kd.N_drewN | apply Kd.N_drew)); first | exact HO231.out | exact Kd.N_mono HO231.out (fun k_ hk => by first | exact hk | (simp only [hk, ne_eq, not_false_eq_true, and_self, true_and, and_true, or_true, true_or]; done) | (simp only [ne_eq, and_assoc] at hk ⊢; simp only [hk, not_false_eq_true, and_self, true_and, and_true]))) hb)
   have n4_ := Aside0.mk (Kd.N_below (by (with_reducible repeat (first | apply Kd.N_alloc | apply Kd.N_drewN | apply Kd.N_drew)); first | exact HO234.out | exact Kd.N_mono HO234.out (fun k_ hk => by first | exact hk | (simp only [hk, ne_eq, not_false_eq_true, and_self, true_and, and_true, or_true, true_or]; done) | (simp only [ne_eq, and_assoc] at hk ⊢; simp only [hk, not_false_eq_true, and_self, true_and, and_true]))) hb)
   have n5_ := Aside0.mk (Kd.N_below (by (with_reducible repeat (first | apply Kd.N_alloc | apply Kd.N_drewN | apply Kd.N_drew)); first | exact HO237.out | exact Kd.N_mono HO237.out (fun k_ hk => by first | exact hk | (simp only [hk, ne_eq, not_false_eq_true, and_self, true_and, and_true, or_true, true_or]; done) | (simp only [ne_eq, and_assoc] at hk ⊢; simp only [hk, not_false_eq_true, and_self, true_and, and_true]))) hb)
   have n6_ := Aside0.mk (Kd.N_below (by (with_reducible repeat (first | apply Kd.N_alloc | apply Kd.N_drewN | apply Kd.N_drew)); first | exact HO240.out | exact Kd.N_mono HO240.out (fun k_ hk => by first | exact hk | (simp only [hk, ne_eq, not_false_eq_true, and_self, true_and, and_true, or_true, true_or]; done) | (simp only [ne_eq, and_assoc] at hk ⊢; simp only [hk, not_false_eq_true, and_self, true_and, and_true]))) hb)
   have n7_ := Aside0.mk (Kd.V_below (by (with_reducible repeat (first | apply Kd.V_alloc | apply Kd.V_drewN | apply Kd.V_drew)); exact HL241_1.out) hb)
   have n8_ := Aside0.mk (Kd.V_below (by (with_reducible repeat (first | apply Kd.V_alloc | apply Kd.V_drewN | apply Kd.V_drew)); exact HL242_1.out) hb)
   have n9_ := Aside0.mk (Kd.V_below (by (with_reducible repeat (first | apply Kd.V_alloc | apply Kd.V_drewN | apply Kd.V_drew)); exact HO245.out) hb)
   have n10_ := Aside0.mk (Kd.V_below (by (with_reducible repeat (first | apply Kd.V_alloc | apply Kd.V_drewN | apply Kd.V_drew)); exact HL247_1.out) hb)
   have n11_ := Aside0.mk (Kd.V_below (by (with_reducible repeat (first | apply Kd.V_alloc | apply Kd.V_drewN | apply Kd.V_drew)); exact HL248_1.out) hb)
   have n12_ := Aside0.mk (Kd.V_below (by (with_reducible repeat (first | apply Kd.V_alloc | apply Kd.V_drewN | apply Kd.V_drew)); exact HO251.out) hb)
   have n13_ := Aside0.mk (Kd.V_below (by (with_reducible repeat (first | apply Kd.V_alloc | apply Kd.V_drewN | apply Kd.V_drew)); exact HL253_1.out) hb)
   have n14_ := Aside0.mk (Kd.V_below (by (with_reducible repeat (first | apply Kd.V_alloc | apply Kd.V_drewN | apply Kd.V_drew)); exact HL254_1.out) hb)
   have n15_ := Aside0.mk (Kd.V_below (by (with_reducible repeat (first | apply Kd.V_alloc | apply Kd.V_drewN | apply Kd.V_drew)); exact HO257.out) hb)
   have n16_ := Aside0.mk (Kd.V_below (by (with_reducible repeat (first | apply Kd.V_alloc | apply Kd.V_drewN | apply Kd.V_drew)); exact HL259_1.out) hb)
   have n17_ := Aside0.mk (Kd.V_below (by (with_reducible repeat (first | apply Kd.V_alloc | apply Kd.V_drewN | apply Kd.V_drew)); exact HL260_1.out) hb)
   have n18_ := Aside0.mk (Kd.V_lower (Kd.V_mono (ok' := fun k_ => ((P1_1_ k_ ∨ P2_1_ k_) ∨ w.heap.size ≤ k_) ∧ k_ ≠ gb224 ∧ k_ ≠ gb225) ho0 (fun k_ hk_ => ⟨Or.elim hk_ (fun hs_ => hs_.1) (fun hn_ => (.inr (Nat.le_trans (below_size (by repeat (first | (with_reducible first | exact HB.out | apply below_alloc | apply pw_below_drewN | apply below_drew1 | refine below_set ?_ GE224.out | refine below_set ?_ GE225.out) | exact HB.out))) hn_))), Or.elim hk_ (fun hs_ => hs_.2.1) (fun hn_ => (Kd.freshB (g := gb224) (o := .cells #[.string a1_0, .slice A1_1 l1_1.length c1_1] 38 (0, 0)) (by (with_reducible repeat (first | refine blk_drewN ?_ _ | refine blk_drew ?_ | refine blk_alloc ?_ _)); exact BK224.out) k_ hn_)), Or.elim hk_ (fun hs_ => hs_.2.2) (fun hn_ => (Kd.freshB (g := gb225) (o := .cells #[.string a2_0, .slice A2_1 l2_1.length c2_1] 38 (0, 0)) (by (with_reducible repeat (first | refine blk_drewN ?_ _ | refine blk_drew ?_ | refine blk_alloc ?_ _)); exact BK225.out) k_ hn_))⟩)) (below_size (by repeat (first | (with_reducible first | exact HB.out | apply below_alloc | apply pw_below_drewN | apply below_drew1 | refine below_set ?_ GE224.out | refine below_set ?_ GE225.out) | exact HB.out))))
   have n19_ := Aside0.mk (blk_below (g := gb224) (o := .cells #[.string a1_0, .slice A1_1 l1_1.length c1_1] 38 (0, 0)) (by (with_reducible repeat (first | refine blk_drewN ?_ _ | refine blk_drew ?_ | refine blk_alloc ?_ _)); exact BK224.out) hb)
   have n20_ := Aside0.mk (blk_below (g := gb225) (o := .cells #[.string a2_0, .slice A2_1 l2_1.length c2_1] 38 (0, 0)) (by (with_reducible repeat (first | refine blk_drewN ?_ _ | refine blk_drew ?_ | refine blk_alloc ?_ _)); exact BK225.out) hb)
   have n21_ := Aside0.mk (Kd.C_below (by repeat (first | (with_reducible exact HR241_1.out) | (with_reducible refine Kd.C_alloc ?_ _) | (with_reducible refine Kd.C_drewN ?_ _) | (with_reducible refine Kd.C_drew ?_) | exact HR241_1.out)) hb)
   have n22_ := Aside0.mk (Kd.C_below (by repeat (first | (with_reducible exact HR242_1.out) | (with_reducible refine Kd.C_alloc ?_ _) | (with_reducible refine Kd.C_drewN ?_ _) | (with_reducible refine Kd.C_drew ?_) | exact HR242_1.out)) hb)
   have n23_ := Aside0.mk (Kd.C_below (by repeat (first | (with_reducible exact HR247_1.out) | (with_reducible refine Kd.C_alloc ?_ _) | (with_reducible refine Kd.C_drewN ?_ _) | (with_reducible refine Kd.C_drew ?_) | exact HR247_1.out)) hb)
   have n24_ := Aside0.mk (Kd.C_below (by repeat (first | (with_reducible exact HR248_1.out) | (with_reducible refine Kd.C_alloc ?_ _) | (with_reducible refine Kd.C_drewN ?_ _) | (with_reducible refine Kd.C_drew ?_) | exact HR248_1.out)) hb)
   have n25_ := Aside0.mk (Kd.C_below (by repeat (first | (with_reducible exact HR253_1.out) | (with_reducible refine Kd.C_alloc ?_ _) | (with_reducible refine Kd.C_drewN ?_ _) | (with_reducible refine Kd.C_drew ?_) | exact HR253_1.out)) hb)
   have n26_ := Aside0.mk (Kd.C_below (by repeat (first | (with_reducible exact HR254_1.out) | (with_reducible refine Kd.C_alloc ?_ _) | (with_reducible refine Kd.C_drewN ?_ _) | (with_reducible refine Kd.C_drew ?_) | exact HR254_1.out)) hb)
   have n27_ := Aside0.mk (Kd.C_below (by repeat (first | (with_reducible exact HR259_1.out) | (with_reducible refine Kd.C_alloc ?_ _) | (with_reducible refine Kd.C_drewN ?_ _) | (with_reducible refine Kd.C_drew ?_) | exact HR259_1.out)) hb)
   have n28_ := Aside0.mk (Kd.C_below (by repeat (first | (with_reducible exact HR260_1.out) | (with_reducible refine Kd.C_alloc ?_ _) | (with_reducible refine Kd.C_drewN ?_ _) | (with_reducible refine Kd.C_drew ?_) | exact HR260_1.out)) hb)
   have n29_ := Aside0.mk (below_step (by repeat (first | (with_reducible first | exact HB.out | apply below_alloc | apply pw_below_drewN | apply below_drew1 | refine below_set ?_ GE224.out | refine below_set ?_ GE225.out) | exact HB.out)) hb)
   clear HO1_1
   clear HO2_1
   clear HO228
   clear HO231
   clear HO234
   clear HO237
   clear HO240
   clear HL241_1
   clear HL242_1
   clear HO245
   clear HL247_1
   clear HL248_1
   clear HO251
   clear HL253_1
   clear HL254_1
   clear HO257
   clear HL259_1
   clear HL260_1
   clear BK224
   clear BK225
   clear HR241_1
   clear HR242_1
   clear HR247_1
   clear HR248_1
   clear HR253_1
   clear HR254_1
   clear HR259_1
   clear HR260_1
   clear HB
   have HO1_1 := n0_
   have HO2_1 := n1_
   have HO228 := n2_
   have HO231 := n3_
   have HO234 := n4_
   have HO237 := n5_
   have HO240 := n6_
   have HL241_1 := n7_
   have HL242_1 := n8_
   have HO245 := n9_
   have HL247_1 := n10_
   have HL248_1 := n11_
   have HO251 := n12_
   have HL253_1 := n13_
   have HL254_1 := n14_
   have HO257 := n15_
   have HL259_1 := n16_
   have HL260_1 := n17_
   have HO263 := n18_
   have BK224 := n19_
   have BK225 := n20_
   have HR241_1 := n21_
   have HR242_1 := n22_
   have HR247_1 := n23_
   have HR248_1 := n24_
   have HR253_1 := n25_
   have HR254_1 := n26_
   have HR259_1 := n27_
   have HR260_1 := n28_
   have HB := n29_
   clear n0_ n1_ n2_ n3_ n4_ n5_ n6_ n7_ n8_ n9_ n10_ n11_ n12_ n13_ n14_ n15_ n16_ n17_ n18_ n19_ n20_ n21_ n22_ n23_ n24_ n25_ n26_ n27_ n28_ n29_
   (try clear hb)
   (try clear hb2)
   (try clear hk)
   (try clear hi)
   (try clear ho0)
   refine hK.out _ _ ⟨HS0_, HS1_, HS2_, HS3_⟩ (fun hHeld => ?_)
   clear hK K
   refine norm_ (a' := ?_) ?_ ?_
   rotate_left
   ·show Act.put _ (some 72) _ = _
    simp only [Act.put, List.setIfInBounds_toArray, List.set_cons_zero, List.set_cons_succ, i64_w, i32_w]
    rfl
   refine pure_ (i := 10) (N := some 62) (v := ?_) (a' := ?_) #[true, true, true, true, true, true, true, true, true, true, true, false, false, false, false] rfl rfl (any_of HT_.out (by kernel_rfl)) (fun _ _ _ h => h) (Or.inl ⟨by rfl, ?_⟩) ?_ ?_
   rotate_left
   ·intro w'
    go_simp
    with_reducible rfl
   rotate_left
   ·simp only [Act.put, List.setIfInBounds_toArray, List.set_cons_zero, List.set_cons_succ, i64_w, i32_w]
    rfl
   refine pure_ (i := 11) (N := some 73) (v := ?_) (a' := ?_) #[true, true, true, true, true, true, true, true, true, true, true, true, false, false, false] rfl rfl (any_of HT_.out (by kernel_rfl)) (fun _ _ _ h => h) (Or.inl ⟨by rfl, ?_⟩) ?_ ?_
   rotate_left
   ·intro w'
    go_simp
    with_reducible rfl
   rotate_left
   ·simp only [Act.put, List.setIfInBounds_toArray, List.set_cons_zero, List.set_cons_succ, i64_w, i32_w]
    rfl
   refine pure_ (i := 12) (N := some 74) (v := ?_) (a' := ?_) #[true, true, true, true, true, true, true, true, true, true, true, true, true, false, false] rfl rfl (any_of HT_.out (by kernel_rfl)) (fun _ _ _ h => h) (Or.inl ⟨by rfl, ?_⟩) ?_ ?_
   rotate_left
   ·intro w'
    go_simp
    with_reducible rfl
   rotate_left
   ·simp only [Act.put, List.setIfInBounds_toArray, List.set_cons_zero, List.set_cons_succ, i64_w, i32_w]
    rfl
   refine pure_ (i := 13) (N := some 12) (v := ?_) (a' := ?_) #[true, true, true, true, true, true, true, true, true, true, true, true, true, true, false] rfl rfl (any_of HT_.out (by kernel_rfl)) (fun _ _ _ h => h) (Or.inl ⟨by rfl, ?_⟩) ?_ ?_
   rotate_left
   ·intro w'
    go_simp
    with_reducible rfl
   rotate_left
   ·simp only [Act.put, List.setIfInBounds_toArray, List.set_cons_zero, List.set_cons_succ, i64_w, i32_w]
    rfl
   refine pure_ (i := 14) (N := some 14) (v := ?_) (a' := ?_) #[true, true, true, true, true, true, true, true, true, true, true, true, true, true, true] rfl rfl (any_of HT_.out (by kernel_rfl)) (fun _ _ _ h => h) (Or.inl ⟨by rfl, ?_⟩) ?_ ?_
   rotate_left
   ·intro w'
    go_simp
    with_reducible rfl
   rotate_left
   ·simp only [Act.put, List.setIfInBounds_toArray, List.set_cons_zero, List.set_cons_succ, i64_w, i32_w]
    rfl
   refine done_ (done_of HT_.out (by kernel_rfl)) ?_
   go_upto_region 7 with (fail)
   go_cut [99] (fun v99 wc => ∃ (kq : Nat) (x99_12 : Bool), v99 = .bool x99_12 ∧ Aside0 (cellarerlaw06_IndexTurns.j0 kq t249 t261 x99_12 = some r) ∧ Aside0 (kq ≤ k) ∧ Aside0 (Kd.V k38 38 wc w.heap.size (fun k_ => ((P1_1_ k_ ∨ P2_1_ k_) ∨ w.heap.size ≤ k_) ∧ k_ ≠ gb224 ∧ k_ ≠ gb225) v250 t249) ∧ Aside0 (Kd.V k38 38 wc w.heap.size (fun k_ => ((P1_1_ k_ ∨ P2_1_ k_) ∨ w.heap.size ≤ k_) ∧ k_ ≠ gb224 ∧ k_ ≠ gb225) v262 t261) ∧ Aside0 (Kd.V k50 50 wc w.heap.size (fun k_ => ((P1_1_ k_ ∨ P2_1_ k_) ∨ w.heap.size ≤ k_) ∧ k_ ≠ gb224 ∧ k_ ≠ gb225) (.slice A1_1 l1_1.length c1_1) l1_1) ∧ Aside0 (Kd.V k50 50 wc w.heap.size (fun k_ => ((P1_1_ k_ ∨ P2_1_ k_) ∨ w.heap.size ≤ k_) ∧ k_ ≠ gb224 ∧ k_ ≠ gb225) (.slice A2_1 l2_1.length c2_1) l2_1) ∧ Aside0 (wc.heap[gb224]? = some (.cells #[.string a1_0, (.slice A1_1 l1_1.length c1_1)] 38 (0, 0))) ∧ Aside0 (wc.heap[gb225]? = some (.cells #[.string a2_0, (.slice A2_1 l2_1.length c2_1)] 38 (0, 0))) ∧ Aside0 (Kd.C k50 wc A241_1 ((rd_T38 t232 0).f1).length ((rd_T38 t232 0).f1)) ∧ Aside0 (Kd.C k50 wc A241_1 ((rd_T38 t232 0).f1).length ((rd_T38 t232 0).f1)) ∧ Aside0 (Kd.C k50 wc A247_1 ((rd_T38 t238 0).f1).length ((rd_T38 t238 0).f1)) ∧ Aside0 (Kd.C k50 wc A247_1 ((rd_T38 t238 0).f1).length ((rd_T38 t238 0).f1)) ∧ Aside0 (Kd.C k50 wc A253_1 ((rd_T38 t238 0).f1).length ((rd_T38 t238 0).f1)) ∧ Aside0 (Kd.C k50 wc A253_1 ((rd_T38 t238 0).f1).length ((rd_T38 t238 0).f1)) ∧ Aside0 (Kd.C k50 wc A259_1 ((rd_T38 t232 0).f1).length ((rd_T38 t232 0).f1)) ∧ Aside0 (Kd.C k50 wc A259_1 ((rd_T38 t232 0).f1).length ((rd_T38 t232 0).f1)) ∧ Aside0 (Below w.heap.size w wc))
   case first =>
    have H := HC13.out
    clear HC13
    by_cases c40 : t246 = 0
    ·rw [if_pos c40] at H
     have c40b0 : (t246 == 0) = true := beq_iff_eq.mpr c40
     have c40b1 : (t246 != 0) = false := bne_eq_false_iff_eq.mpr c40
     clear c40
     (first | rw [c40b0] | rw [c40b1] | (simp only [i64_w, i32_w]; rw [c40b0]) | skip)
     by_cases c41 : t252 = 0
     ·rw [if_pos c41] at H
      have c41b0 : (t252 == 0) = true := beq_iff_eq.mpr c41
      have c41b1 : (t252 != 0) = false := bne_eq_false_iff_eq.mpr c41
      clear c41
      by_cases c42 : t258 = 0
      ·rw [if_pos c42] at H
       have c42b0 : (t258 == 0) = true := beq_iff_eq.mpr c42
       have c42b1 : (t258 != 0) = false := bne_eq_false_iff_eq.mpr c42
       clear c42
       by_cases c43 : t264 = 0
       ·rw [if_pos c43] at H
        have c43b0 : (t264 == 0) = true := beq_iff_eq.mpr c43
        have c43b1 : (t264 != 0) = false := bne_eq_false_iff_eq.mpr c43
        clear c43
        have H' := Aside0.mk H
        clear H
        try go_wp2
        have n0_ := Aside0.mk (Kd.V_drew HO1_1.out)
        have n1_ := Aside0.mk (Kd.V_drew HO2_1.out)
        have n2_ := Aside0.mk (Kd.N_drew HO228.out)
        have n3_ := Aside0.mk (Kd.N_drew HO231.out)
        have n4_ := Aside0.mk (Kd.N_drew HO234.out)
        have n5_ := Aside0.mk (Kd.N_drew HO237.out)
        have n6_ := Aside0.mk (Kd.N_drew HO240.out)
        have n7_ := Aside0.mk (Kd.V_drew HL241_1.out)
        have n8_ := Aside0.mk (Kd.V_drew HL242_1.out)
        have n9_ := Aside0.mk (Kd.V_drew HO245.out)
        have n10_ := Aside0.mk (Kd.V_drew HL247_1.out)
        have n11_ := Aside0.mk (Kd.V_drew HL248_1.out)
        have n12_ := Aside0.mk (Kd.V_drew HO251.out)
        have n13_ := Aside0.mk (Kd.V_drew HL253_1.out)
        have n14_ := Aside0.mk (Kd.V_drew HL254_1.out)
        have n15_ := Aside0.mk (Kd.V_drew HO257.out)
        have n16_ := Aside0.mk (Kd.V_drew HL259_1.out)
        have n17_ := Aside0.mk (Kd.V_drew HL260_1.out)
        have n18_ := Aside0.mk (Kd.V_drew HO263.out)
        have n19_ := Aside0.mk (blk_drew BK224.out)
        have n20_ := Aside0.mk (blk_drew BK225.out)
        have n21_ := Aside0.mk (Kd.C_drew HR241_1.out)
        have n22_ := Aside0.mk (Kd.C_drew HR242_1.out)
        have n23_ := Aside0.mk (Kd.C_drew HR247_1.out)
        have n24_ := Aside0.mk (Kd.C_drew HR248_1.out)
        have n25_ := Aside0.mk (Kd.C_drew HR253_1.out)
        have n26_ := Aside0.mk (Kd.C_drew HR254_1.out)
        have n27_ := Aside0.mk (Kd.C_drew HR259_1.out)
        have n28_ := Aside0.mk (Kd.C_drew HR260_1.out)
        have n29_ := Aside0.mk (below_drew1 HB.out)
        clear HO1_1
        clear HO2_1
        clear HO228
        clear HO231
        clear HO234
        clear HO237
        clear HO240
        clear HL241_1
        clear HL242_1
        clear HO245
        clear HL247_1
        clear HL248_1
        clear HO251
        clear HL253_1
        clear HL254_1
        clear HO257
        clear HL259_1
        clear HL260_1
        clear HO263
        clear BK224
        clear BK225
        clear HR241_1
        clear HR242_1
        clear HR247_1
        clear HR248_1
        clear HR253_1
        clear HR254_1
        clear HR259_1
        clear HR260_1
        clear HB
        have HO1_1 := n0_
        have HO2_1 := n1_
        have HO228 := n2_
        have HO231 := n3_
        have HO234 := n4_
        have HO237 := n5_
        have HO240 := n6_
        have HL241_1 := n7_
        have HL242_1 := n8_
        have HO245 := n9_
        have HL247_1 := n10_
        have HL248_1 := n11_
        have HO251 := n12_
        have HL253_1 := n13_
        have HL254_1 := n14_
        have HO257 := n15_
        have HL259_1 := n16_
        have HL260_1 := n17_
        have HO263 := n18_
        have BK224 := n19_
        have BK225 := n20_
        have HR241_1 := n21_
        have HR242_1 := n22_
        have HR247_1 := n23_
        have HR248_1 := n24_
        have HR253_1 := n25_
        have HR254_1 := n26_
        have HR259_1 := n27_
        have HR260_1 := n28_
        have HB := n29_
        clear n0_ n1_ n2_ n3_ n4_ n5_ n6_ n7_ n8_ n9_ n10_ n11_ n12_ n13_ n14_ n15_ n16_ n17_ n18_ n19_ n20_ n21_ n22_ n23_ n24_ n25_ n26_ n27_ n28_ n29_
        have p265 : 0 ≤ (0 : Int) := (by omega)
        have q265 : 0 < (t232.length : Int) := of_decide_eq_true (by first | (with_reducible assumption) | assumption)
        obtain ⟨ad265, A265_1, c265_1, e265, hx265_0, hx265_1, hl265_1, hi265_1⟩ := at_T38 (Kd.N_reads' HO234.out).2.2 0 p265 q265
        obtain rfl : ad241 = ad265 := (by injection e265)
        obtain ⟨ce265, hce265, hMe265, hcc265⟩ := Kd.N_get HO234.out z38 0 p265 (by first | exact q265 | exact of_decide_eq_true (by first | (with_reducible assumption) | assumption) | (have e_ := (Kd.N_reads' HO234.out).1; omega))
        obtain ⟨ua265_1, uc265_1, rfl, ul265_1, ge265_1⟩ := k38_openF hMe265
        have hv265_1 := hcc265 1 _ rfl
        rw [add_field _ _ 1 (by omega)] at hv265_1
        replace hv265_1 := Option.some.inj (hv265_1.symm.trans hx265_1)
        injection hv265_1 with hva_ hvn_ hvc_
        rw [hva_] at ge265_1
        rw [hvc_] at ul265_1
        have HL265_1 := Aside0.mk (show Kd.V k50 50 _ w.heap.size _ _ ((rd_T38 t232 0).f1) from Kd.V_mk ul265_1 ge265_1)
        clear hva_ hvn_ hvc_ ge265_1 ul265_1
        clear hcc265 hce265
        have qi265 : (0 < t232.length) = True := eq_true (by omega)
        (try rw [show ((0 : Int)).toNat = 0 from rfl] at hx265_0)
        (try rw [show 0 * 2 = 0 from rfl] at hx265_0)
        (try rw [Addr.add_zero'] at hx265_0)
        (try rw [show ((0 : Int)).toNat = 0 from rfl] at hx265_1)
        (try rw [show 0 * 2 = 0 from rfl] at hx265_1)
        (try rw [Addr.add_zero'] at hx265_1)
        have HR265_1 := Aside0.mk hi265_1
        have HC265_1 := Aside0.mk hl265_1
        clear hi265_1 hl265_1
        replace p265 := eq_true p265
        replace q265 := eq_true q265
        have p266 : 0 ≤ (0 : Int) := (by omega)
        have q266 : 0 < (t238.length : Int) := of_decide_eq_true (by first | (with_reducible assumption) | assumption)
        obtain ⟨ad266, A266_1, c266_1, e266, hx266_0, hx266_1, hl266_1, hi266_1⟩ := at_T38 (Kd.N_reads' HO240.out).2.2 0 p266 q266
        obtain rfl : ad247 = ad266 := (by injection e266)
        obtain ⟨ce266, hce266, hMe266, hcc266⟩ := Kd.N_get HO240.out z38 0 p266 (by first | exact q266 | exact of_decide_eq_true (by first | (with_reducible assumption) | assumption) | (have e_ := (Kd.N_reads' HO240.out).1; omega))
        obtain ⟨ua266_1, uc266_1, rfl, ul266_1, ge266_1⟩ := k38_openF hMe266
        have hv266_1 := hcc266 1 _ rfl
        rw [add_field _ _ 1 (by omega)] at hv266_1
        replace hv266_1 := Option.some.inj (hv266_1.symm.trans hx266_1)
        injection hv266_1 with hva_ hvn_ hvc_
        rw [hva_] at ge266_1
        rw [hvc_] at ul266_1
        have HL266_1 := Aside0.mk (show Kd.V k50 50 _ w.heap.size _ _ ((rd_T38 t238 0).f1) from Kd.V_mk ul266_1 ge266_1)
        clear hva_ hvn_ hvc_ ge266_1 ul266_1
        clear hcc266 hce266
        have qi266 : (0 < t238.length) = True := eq_true (by omega)
        (try rw [show ((0 : Int)).toNat = 0 from rfl] at hx266_0)
        (try rw [show 0 * 2 = 0 from rfl] at hx266_0)
        (try rw [Addr.add_zero'] at hx266_0)
        (try rw [show ((0 : Int)).toNat = 0 from rfl] at hx266_1)
        (try rw [show 0 * 2 = 0 from rfl] at hx266_1)
        (try rw [Addr.add_zero'] at hx266_1)
        have HR266_1 := Aside0.mk hi266_1
        have HC266_1 := Aside0.mk hl266_1
        clear hi266_1 hl266_1
        replace p266 := eq_true p266
        replace q266 := eq_true q266
        refine start_ (n := 25) (S := fun w' => w'.cell? ad241 = some (.string ((rd_T38 t232 0).f0)) ∧ w'.cell? ⟨ad241.block, ad241.off + 1, none⟩ = some (.slice A265_1 ((rd_T38 t232 0).f1).length c265_1) ∧ w'.cell? ad247 = some (.string ((rd_T38 t238 0).f0)) ∧ w'.cell? ⟨ad247.block, ad247.off + 1, none⟩ = some (.slice A266_1 ((rd_T38 t238 0).f1).length c266_1)) (ds := []) #[false, false, false, false, false, false, false, false, false, false, false, false, false, false, false, false, false, false, false, false, false, false, false, false, false] (by kernel_rfl) rfl rfl ⟨hx265_0, hx265_1, hx266_0, hx266_1⟩ (fun hHeld => ?_); refine with_tabW cellarerlaw06_IndexTurns.tab7 cellarerlaw06_IndexTurns.bits7 (fun HT_ HW_ => ?_)
        generalize w39.drew = w44 at HO1_1 HO2_1 HO228 HO231 HO234 HO237 HO240 HL241_1 HL242_1 HO245 HL247_1 HL248_1 HO251 HL253_1 HL254_1 HO257 HL259_1 HL260_1 HO263 BK224 BK225 HR241_1 HR242_1 HR247_1 HR248_1 HR253_1 HR254_1 HR259_1 HR260_1 HB HL265_1 HL266_1 HR265_1 HR266_1 hx265_0 hx265_1 hx266_0 hx266_1 hHeld ⊢
        refine pure_ (i := 0) (N := some 75) (v := ?_) (a' := ?_) #[true, false, false, false, false, false, false, false, false, false, false, false, false, false, false, false, false, false, false, false, false, false, false, false, false] rfl rfl (any_of HT_.out (by kernel_rfl)) (fun _ _ _ h => h) (Or.inl ⟨by rfl, ?_⟩) ?_ ?_
        rotate_left
        ·intro w'
         go_simp
         with_reducible rfl
        rotate_left
        ·simp only [Act.put, List.setIfInBounds_toArray, List.set_cons_zero, List.set_cons_succ, i64_w, i32_w]
         rfl
        refine pure_ (i := 1) (N := some 76) (v := ?_) (a' := ?_) #[true, true, false, false, false, false, false, false, false, false, false, false, false, false, false, false, false, false, false, false, false, false, false, false, false] rfl rfl (any_of HT_.out (by kernel_rfl)) (fun _ _ _ h => h) (Or.inl ⟨by rfl, ?_⟩) ?_ ?_
        rotate_left
        ·intro w'
         go_simp
         with_reducible rfl
        rotate_left
        ·simp only [Act.put, List.setIfInBounds_toArray, List.set_cons_zero, List.set_cons_succ, i64_w, i32_w]
         rfl
        refine pure_ (i := 2) (N := some 77) (v := ?_) (a' := ?_) #[true, true, true, false, false, false, false, false, false, false, false, false, false, false, false, false, false, false, false, false, false, false, false, false, false] rfl rfl (any_of HT_.out (by kernel_rfl)) (fun _ _ _ h => h) (Or.inl ⟨by rfl, ?_⟩) ?_ ?_
        rotate_left
        ·intro w'
         go_simp
         with_reducible rfl
        rotate_left
        ·simp only [Act.put, List.setIfInBounds_toArray, List.set_cons_zero, List.set_cons_succ, i64_w, i32_w]
         rfl
        refine pure_ (i := 3) (N := some 78) (v := ?_) (a' := ?_) #[true, true, true, true, false, false, false, false, false, false, false, false, false, false, false, false, false, false, false, false, false, false, false, false, false] rfl rfl (any_of HT_.out (by kernel_rfl)) (fun _ _ _ h => h) (Or.inl ⟨by rfl, ?_⟩) ?_ ?_
        rotate_left
        ·intro w'
         go_simp
         with_reducible rfl
        rotate_left
        ·simp only [Act.put, List.setIfInBounds_toArray, List.set_cons_zero, List.set_cons_succ, i64_w, i32_w]
         rfl
        refine pure_ (i := 4) (N := some 79) (v := ?_) (a' := ?_) #[true, true, true, true, true, false, false, false, false, false, false, false, false, false, false, false, false, false, false, false, false, false, false, false, false] rfl rfl (any_of HT_.out (by kernel_rfl)) (fun _ _ _ h => h) (Or.inl ⟨by rfl, ?_⟩) ?_ ?_
        rotate_left
        ·intro w'
         go_simp
         with_reducible rfl
        rotate_left
        ·simp only [Act.put, List.setIfInBounds_toArray, List.set_cons_zero, List.set_cons_succ, i64_w, i32_w]
         rfl
        refine pure_ (i := 5) (N := some 80) (v := ?_) (a' := ?_) #[true, true, true, true, true, true, false, false, false, false, false, false, false, false, false, false, false, false, false, false, false, false, false, false, false] rfl rfl (any_of HT_.out (by kernel_rfl)) (fun _ _ _ h => h) (Or.inl ⟨by rfl, ?_⟩) ?_ ?_
        rotate_left
        ·intro w'
         go_simp
         with_reducible rfl
        rotate_left
        ·simp only [Act.put, List.setIfInBounds_toArray, List.set_cons_zero, List.set_cons_succ, i64_w, i32_w]
         rfl
        refine pure_ (i := 6) (N := some 81) (v := ?_) (a' := ?_) #[true, true, true, true, true, true, true, false, false, false, false, false, false, false, false, false, false, false, false, false, false, false, false, false, false] rfl rfl (any_of HT_.out (by kernel_rfl)) (fun _ _ _ h => h) (Or.inl ⟨by rfl, ?_⟩) ?_ ?_
        rotate_left
        ·intro w'
         go_simp
         with_reducible rfl
        rotate_left
        ·simp only [Act.put, List.setIfInBounds_toArray, List.set_cons_zero, List.set_cons_succ, i64_w, i32_w]
         rfl
        refine pure_ (i := 7) (N := some 82) (v := ?_) (a' := ?_) #[true, true, true, true, true, true, true, true, false, false, false, false, false, false, false, false, false, false, false, false, false, false, false, false, false] rfl rfl (any_of HT_.out (by kernel_rfl)) (fun _ _ _ h => h) (Or.inl ⟨by rfl, ?_⟩) ?_ ?_
        rotate_left
        ·intro w'
         go_simp
         with_reducible rfl
        rotate_left
        ·simp only [Act.put, List.setIfInBounds_toArray, List.set_cons_zero, List.set_cons_succ, i64_w, i32_w]
         rfl
        refine pure_ (i := 8) (N := some 83) (v := ?_) (a' := ?_) #[true, true, true, true, true, true, true, true, true, false, false, false, false, false, false, false, false, false, false, false, false, false, false, false, false] rfl rfl (any_of HT_.out (by kernel_rfl)) (fun _ _ _ h => h) (Or.inl ⟨by rfl, ?_⟩) ?_ ?_
        rotate_left
        ·intro w'
         go_simp
         with_reducible rfl
        rotate_left
        ·simp only [Act.put, List.setIfInBounds_toArray, List.set_cons_zero, List.set_cons_succ, i64_w, i32_w]
         rfl
        refine pure_ (i := 9) (N := some 84) (v := ?_) (a' := ?_) #[true, true, true, true, true, true, true, true, true, true, false, false, false, false, false, false, false, false, false, false, false, false, false, false, false] rfl rfl (any_of HT_.out (by kernel_rfl)) (fun _ _ _ h => h) (Or.inl ⟨by rfl, ?_⟩) ?_ ?_
        rotate_left
        ·intro w'
         go_simp
         with_reducible rfl
        rotate_left
        ·simp only [Act.put, List.setIfInBounds_toArray, List.set_cons_zero, List.set_cons_succ, i64_w, i32_w]
         rfl
        refine pure_ (i := 10) (N := some 85) (v := ?_) (a' := ?_) #[true, true, true, true, true, true, true, true, true, true, true, false, false, false, false, false, false, false, false, false, false, false, false, false, false] rfl rfl (any_of HT_.out (by kernel_rfl)) (fun _ _ _ h => h) (Or.inl ⟨by rfl, ?_⟩) ?_ ?_
        rotate_left
        ·intro w'
         go_simp
         with_reducible rfl
        rotate_left
        ·simp only [Act.put, List.setIfInBounds_toArray, List.set_cons_zero, List.set_cons_succ, i64_w, i32_w]
         rfl
        refine pure_ (i := 11) (N := some 86) (v := ?_) (a' := ?_) #[true, true, true, true, true, true, true, true, true, true, true, true, false, false, false, false, false, false, false, false, false, false, false, false, false] rfl rfl (any_of HT_.out (by kernel_rfl)) (fun _ _ _ h => h) (Or.inl ⟨by rfl, ?_⟩) ?_ ?_
        rotate_left
        ·intro w'
         go_simp
         with_reducible rfl
        rotate_left
        ·simp only [Act.put, List.setIfInBounds_toArray, List.set_cons_zero, List.set_cons_succ, i64_w, i32_w]
         rfl
        refine pure_ (i := 12) (N := some 87) (v := ?_) (a' := ?_) #[true, true, true, true, true, true, true, true, true, true, true, true, true, false, false, false, false, false, false, false, false, false, false, false, false] rfl rfl (any_of HT_.out (by kernel_rfl)) (fun _ _ _ h => h) (Or.inl ⟨by rfl, ?_⟩) ?_ ?_
        rotate_left
        ·intro w'
         go_simp
         with_reducible rfl
        rotate_left
        ·simp only [Act.put, List.setIfInBounds_toArray, List.set_cons_zero, List.set_cons_succ, i64_w, i32_w]
         rfl
        refine pure_ (i := 13) (N := some 88) (v := ?_) (a' := ?_) #[true, true, true, true, true, true, true, true, true, true, true, true, true, true, false, false, false, false, false, false, false, false, false, false, false] rfl rfl (any_of HT_.out (by kernel_rfl)) (fun _ _ _ h => h) (Or.inl ⟨by rfl, ?_⟩) ?_ ?_
        rotate_left
        ·intro w'
         go_simp
         with_reducible rfl
        rotate_left
        ·simp only [Act.put, List.setIfInBounds_toArray, List.set_cons_zero, List.set_cons_succ, i64_w, i32_w]
         rfl
        refine pure_ (i := 14) (N := some 89) (v := ?_) (a' := ?_) #[true, true, true, true, true, true, true, true, true, true, true, true, true, true, true, false, false, false, false, false, false, false, false, false, false] rfl rfl (any_of HT_.out (by kernel_rfl)) (fun _ _ _ h => h) (Or.inl ⟨by rfl, ?_⟩) ?_ ?_
        rotate_left
        ·intro w'
         go_simp
         with_reducible rfl
        rotate_left
        ·simp only [Act.put, List.setIfInBounds_toArray, List.set_cons_zero, List.set_cons_succ, i64_w, i32_w]
         rfl
        refine pure_ (i := 15) (N := some 90) (v := ?_) (a' := ?_) #[true, true, true, true, true, true, true, true, true, true, true, true, true, true, true, true, false, false, false, false, false, false, false, false, false] rfl rfl (any_of HT_.out (by kernel_rfl)) (fun _ _ _ h => h) (Or.inl ⟨by rfl, ?_⟩) ?_ ?_
        rotate_left
        ·intro w'
         go_simp
         with_reducible rfl
        rotate_left
        ·simp only [Act.put, List.setIfInBounds_toArray, List.set_cons_zero, List.set_cons_succ, i64_w, i32_w]
         rfl
        refine pure_ (i := 16) (N := some 91) (v := ?_) (a' := ?_) #[true, true, true, true, true, true, true, true, true, true, true, true, true, true, true, true, true, false, false, false, false, false, false, false, false] rfl rfl (any_of HT_.out (by kernel_rfl)) (fun _ _ _ h => h) (Or.inl ⟨by rfl, ?_⟩) ?_ ?_
        rotate_left
        ·intro w'
         go_simp
         with_reducible rfl
        rotate_left
        ·simp only [Act.put, List.setIfInBounds_toArray, List.set_cons_zero, List.set_cons_succ, i64_w, i32_w]
         rfl
        refine pure_ (i := 17) (N := some 92) (v := ?_) (a' := ?_) #[true, true, true, true, true, true, true, true, true, true, true, true, true, true, true, true, true, true, false, false, false, false, false, false, false] rfl rfl (any_of HT_.out (by kernel_rfl)) (fun _ _ _ h => h) (Or.inl ⟨by rfl, ?_⟩) ?_ ?_
        rotate_left
        ·intro w'
         go_simp
         with_reducible rfl
        rotate_left
        ·simp only [Act.put, List.setIfInBounds_toArray, List.set_cons_zero, List.set_cons_succ, i64_w, i32_w]
         rfl
        refine pure_ (i := 19) (N := some 94) (v := ?_) (a' := ?_) #[true, true, true, true, true, true, true, true, true, true, true, true, true, true, true, true, true, true, false, true, false, false, false, false, false] rfl rfl (any_of HT_.out (by kernel_rfl)) (fun _ _ _ h => h) (Or.inl ⟨by rfl, ?_⟩) ?_ ?_
        rotate_left
        ·intro w'
         go_simp
         with_reducible rfl
        rotate_left
        ·simp only [Act.put, List.setIfInBounds_toArray, List.set_cons_zero, List.set_cons_succ, i64_w, i32_w]
         rfl
        refine pure_ (i := 20) (N := some 95) (v := ?_) (a' := ?_) #[true, true, true, true, true, true, true, true, true, true, true, true, true, true, true, true, true, true, false, true, true, false, false, false, false] rfl rfl (any_of HT_.out (by kernel_rfl)) (fun _ _ _ h => h) (Or.inl ⟨by rfl, ?_⟩) ?_ ?_
        rotate_left
        ·intro w'
         go_simp
         with_reducible rfl
        rotate_left
        ·simp only [Act.put, List.setIfInBounds_toArray, List.set_cons_zero, List.set_cons_succ, i64_w, i32_w]
         rfl
        refine pure_ (i := 21) (N := some 96) (v := ?_) (a' := ?_) #[true, true, true, true, true, true, true, true, true, true, true, true, true, true, true, true, true, true, false, true, true, true, false, false, false] rfl rfl (any_of HT_.out (by kernel_rfl)) (fun _ _ _ h => h) (Or.inl ⟨by rfl, ?_⟩) ?_ ?_
        rotate_left
        ·intro w'
         go_simp
         with_reducible rfl
        rotate_left
        ·simp only [Act.put, List.setIfInBounds_toArray, List.set_cons_zero, List.set_cons_succ, i64_w, i32_w]
         rfl
        refine take_ (i := 18) (N := some 93) (v := ?_) (a' := ?_) #[true, true, true, true, true, true, true, true, true, true, true, true, true, true, true, true, true, true, true, true, true, true, false, false, false] rfl rfl (take_ofW HT_.out HW_.out (by kernel_rfl)) (fun _ _ _ h => h) (Or.inl ⟨by rfl, ?_⟩) hHeld ?_ ?_
        rotate_left
        ·rintro w' ⟨s0, s1, s2, s3⟩
         go_simp
         with_reducible rfl
        rotate_left
        ·simp only [Act.put, List.setIfInBounds_toArray, List.set_cons_zero, List.set_cons_succ, i64_w, i32_w]
         rfl
        refine take_ (i := 22) (N := some 97) (v := ?_) (a' := ?_) #[true, true, true, true, true, true, true, true, true, true, true, true, true, true, true, true, true, true, true, true, true, true, true, false, false] rfl rfl (take_ofW HT_.out HW_.out (by kernel_rfl)) (fun _ _ _ h => h) (Or.inl ⟨by rfl, ?_⟩) hHeld ?_ ?_
        rotate_left
        ·rintro w' ⟨s0, s1, s2, s3⟩
         go_simp
         with_reducible rfl
        rotate_left
        ·simp only [Act.put, List.setIfInBounds_toArray, List.set_cons_zero, List.set_cons_succ, i64_w, i32_w]
         rfl
        refine pure_ (i := 23) (N := some 98) (v := ?_) (a' := ?_) #[true, true, true, true, true, true, true, true, true, true, true, true, true, true, true, true, true, true, true, true, true, true, true, true, false] rfl rfl (any_of HT_.out (by kernel_rfl)) (fun _ _ _ h => h) (Or.inl ⟨by rfl, ?_⟩) ?_ ?_
        rotate_left
        ·intro w'
         go_simp
         with_reducible rfl
        rotate_left
        ·simp only [Act.put, List.setIfInBounds_toArray, List.set_cons_zero, List.set_cons_succ, i64_w, i32_w]
         rfl
        refine pure_ (i := 24) (N := some 99) (v := ?_) (a' := ?_) #[true, true, true, true, true, true, true, true, true, true, true, true, true, true, true, true, true, true, true, true, true, true, true, true, true] rfl rfl (any_of HT_.out (by kernel_rfl)) (fun _ _ _ h => h) (Or.inl ⟨by rfl, ?_⟩) ?_ ?_
        rotate_left
        ·intro w'
         go_simp
         with_reducible rfl
        rotate_left
        ·simp only [Act.put, List.setIfInBounds_toArray, List.set_cons_zero, List.set_cons_succ, i64_w, i32_w]
         rfl
        refine done_ (done_of HT_.out (by kernel_rfl)) ?_
        try go_wp2
        go_meet
        case rel => exact ⟨_, ((((rd_T38 t232 0).f0).toList == ((rd_T38 t238 0).f0).toList)), (by first | rfl | (simp; done) | (simp [*]; done)), H', ⟨by first | omega | exact Nat.le_refl _⟩, ⟨by (with_reducible repeat (first | apply Kd.V_alloc | apply Kd.V_drewN | apply Kd.V_drew)); exact Kd.V_mono HO251.out (fun _ hk => by first | exact hk | (simp only [hk, ne_eq, not_false_eq_true, and_self, true_and, and_true, or_true, true_or]; done) | (simp only [ne_eq, and_assoc] at hk ⊢; simp only [hk, not_false_eq_true, and_self, true_and, and_true]))⟩, ⟨by (with_reducible repeat (first | apply Kd.V_alloc | apply Kd.V_drewN | apply Kd.V_drew)); exact Kd.V_mono HO263.out (fun _ hk => by first | exact hk | (simp only [hk, ne_eq, not_false_eq_true, and_self, true_and, and_true, or_true, true_or]; done) | (simp only [ne_eq, and_assoc] at hk ⊢; simp only [hk, not_false_eq_true, and_self, true_and, and_true]))⟩, ⟨by (with_reducible repeat (first | apply Kd.V_alloc | apply Kd.V_drewN | apply Kd.V_drew)); exact Kd.V_mono HO1_1.out (fun _ hk => by first | exact hk | (simp only [hk, ne_eq, not_false_eq_true, and_self, true_and, and_true, or_true, true_or]; done) | (simp only [ne_eq, and_assoc] at hk ⊢; simp only [hk, not_false_eq_true, and_self, true_and, and_true]))⟩, ⟨by (with_reducible repeat (first | apply Kd.V_alloc | apply Kd.V_drewN | apply Kd.V_drew)); exact Kd.V_mono HO2_1.out (fun _ hk => by first | exact hk | (simp only [hk, ne_eq, not_false_eq_true, and_self, true_and, and_true, or_true, true_or]; done) | (simp only [ne_eq, and_assoc] at hk ⊢; simp only [hk, not_false_eq_true, and_self, true_and, and_true]))⟩, ⟨by (with_reducible repeat (first | refine blk_drewN ?_ _ | refine blk_drew ?_ | refine blk_alloc ?_ _)); exact BK224.out⟩, ⟨by (with_reducible repeat (first | refine blk_drewN ?_ _ | refine blk_drew ?_ | refine blk_alloc ?_ _)); exact BK225.out⟩, ⟨by repeat (first | (with_reducible exact HR241_1.out) | (with_reducible refine Kd.C_alloc ?_ _) | (with_reducible refine Kd.C_drewN ?_ _) | (with_reducible refine Kd.C_drew ?_) | exact HR241_1.out)⟩, ⟨by repeat (first | (with_reducible exact HR242_1.out) | (with_reducible refine Kd.C_alloc ?_ _) | (with_reducible refine Kd.C_drewN ?_ _) | (with_reducible refine Kd.C_drew ?_) | exact HR242_1.out)⟩, ⟨by repeat (first | (with_reducible exact HR247_1.out) | (with_reducible refine Kd.C_alloc ?_ _) | (with_reducible refine Kd.C_drewN ?_ _) | (with_reducible refine Kd.C_drew ?_) | exact HR247_1.out)⟩, ⟨by repeat (first | (with_reducible exact HR248_1.out) | (with_reducible refine Kd.C_alloc ?_ _) | (with_reducible refine Kd.C_drewN ?_ _) | (with_reducible refine Kd.C_drew ?_) | exact HR248_1.out)⟩, ⟨by repeat (first | (with_reducible exact HR253_1.out) | (with_reducible refine Kd.C_alloc ?_ _) | (with_reducible refine Kd.C_drewN ?_ _) | (with_reducible refine Kd.C_drew ?_) | exact HR253_1.out)⟩, ⟨by repeat (first | (with_reducible exact HR254_1.out) | (with_reducible refine Kd.C_alloc ?_ _) | (with_reducible refine Kd.C_drewN ?_ _) | (with_reducible refine Kd.C_drew ?_) | exact HR254_1.out)⟩, ⟨by repeat (first | (with_reducible exact HR259_1.out) | (with_reducible refine Kd.C_alloc ?_ _) | (with_reducible refine Kd.C_drewN ?_ _) | (with_reducible refine Kd.C_drew ?_) | exact HR259_1.out)⟩, ⟨by repeat (first | (with_reducible exact HR260_1.out) | (with_reducible refine Kd.C_alloc ?_ _) | (with_reducible refine Kd.C_drewN ?_ _) | (with_reducible refine Kd.C_drew ?_) | exact HR260_1.out)⟩, ⟨by repeat (first | (with_reducible first | exact HB.out | apply below_alloc | apply pw_below_drewN | apply below_drew1 | refine below_set ?_ GE224.out | refine below_set ?_ GE225.out) | exact HB.out)⟩⟩
       ·rw [if_neg c43] at H
        have c43b0 : (t264 == 0) = false := beq_eq_false_iff_ne.mpr c43
        have c43b1 : (t264 != 0) = true := bne_iff_ne.mpr c43
        have H' := Aside0.mk H
        clear H
        try go_wp2
        have n0_ := Aside0.mk (Kd.V_drew HO1_1.out)
        have n1_ := Aside0.mk (Kd.V_drew HO2_1.out)
        have n2_ := Aside0.mk (Kd.N_drew HO228.out)
        have n3_ := Aside0.mk (Kd.N_drew HO231.out)
        have n4_ := Aside0.mk (Kd.N_drew HO234.out)
        have n5_ := Aside0.mk (Kd.N_drew HO237.out)
        have n6_ := Aside0.mk (Kd.N_drew HO240.out)
        have n7_ := Aside0.mk (Kd.V_drew HL241_1.out)
        have n8_ := Aside0.mk (Kd.V_drew HL242_1.out)
        have n9_ := Aside0.mk (Kd.V_drew HO245.out)
        have n10_ := Aside0.mk (Kd.V_drew HL247_1.out)
        have n11_ := Aside0.mk (Kd.V_drew HL248_1.out)
        have n12_ := Aside0.mk (Kd.V_drew HO251.out)
        have n13_ := Aside0.mk (Kd.V_drew HL253_1.out)
        have n14_ := Aside0.mk (Kd.V_drew HL254_1.out)
        have n15_ := Aside0.mk (Kd.V_drew HO257.out)
        have n16_ := Aside0.mk (Kd.V_drew HL259_1.out)
        have n17_ := Aside0.mk (Kd.V_drew HL260_1.out)
        have n18_ := Aside0.mk (Kd.V_drew HO263.out)
        have n19_ := Aside0.mk (blk_drew BK224.out)
        have n20_ := Aside0.mk (blk_drew BK225.out)
        have n21_ := Aside0.mk (Kd.C_drew HR241_1.out)
        have n22_ := Aside0.mk (Kd.C_drew HR242_1.out)
        have n23_ := Aside0.mk (Kd.C_drew HR247_1.out)
        have n24_ := Aside0.mk (Kd.C_drew HR248_1.out)
        have n25_ := Aside0.mk (Kd.C_drew HR253_1.out)
        have n26_ := Aside0.mk (Kd.C_drew HR254_1.out)
        have n27_ := Aside0.mk (Kd.C_drew HR259_1.out)
        have n28_ := Aside0.mk (Kd.C_drew HR260_1.out)
        have n29_ := Aside0.mk (below_drew1 HB.out)
        clear HO1_1
        clear HO2_1
        clear HO228
        clear HO231
        clear HO234
        clear HO237
        clear HO240
        clear HL241_1
        clear HL242_1
        clear HO245
        clear HL247_1
        clear HL248_1
        clear HO251
        clear HL253_1
        clear HL254_1
        clear HO257
        clear HL259_1
        clear HL260_1
        clear HO263
        clear BK224
        clear BK225
        clear HR241_1
        clear HR242_1
        clear HR247_1
        clear HR248_1
        clear HR253_1
        clear HR254_1
        clear HR259_1
        clear HR260_1
        clear HB
        have HO1_1 := n0_
        have HO2_1 := n1_
        have HO228 := n2_
        have HO231 := n3_
        have HO234 := n4_
        have HO237 := n5_
        have HO240 := n6_
        have HL241_1 := n7_
        have HL242_1 := n8_
        have HO245 := n9_
        have HL247_1 := n10_
        have HL248_1 := n11_
        have HO251 := n12_
        have HL253_1 := n13_
        have HL254_1 := n14_
        have HO257 := n15_
        have HL259_1 := n16_
        have HL260_1 := n17_
        have HO263 := n18_
        have BK224 := n19_
        have BK225 := n20_
        have HR241_1 := n21_
        have HR242_1 := n22_
        have HR247_1 := n23_
        have HR248_1 := n24_
        have HR253_1 := n25_
        have HR254_1 := n26_
        have HR259_1 := n27_
        have HR260_1 := n28_
        have HB := n29_
        clear n0_ n1_ n2_ n3_ n4_ n5_ n6_ n7_ n8_ n9_ n10_ n11_ n12_ n13_ n14_ n15_ n16_ n17_ n18_ n19_ n20_ n21_ n22_ n23_ n24_ n25_ n26_ n27_ n28_ n29_
        refine start_ (n := 25) (S := fun w' => True) (ds := []) #[false, false, false, false, false, false, false, false, false, false, false, false, false, false, false, false, false, false, false, false, false, false, false, false, false] (by kernel_rfl) rfl rfl trivial (fun hHeld => ?_); refine with_tabW cellarerlaw06_IndexTurns.tab7 cellarerlaw06_IndexTurns.bits7 (fun HT_ HW_ => ?_)
        generalize w39.drew = w45 at HO1_1 HO2_1 HO228 HO231 HO234 HO237 HO240 HL241_1 HL242_1 HO245 HL247_1 HL248_1 HO251 HL253_1 HL254_1 HO257 HL259_1 HL260_1 HO263 BK224 BK225 HR241_1 HR242_1 HR247_1 HR248_1 HR253_1 HR254_1 HR259_1 HR260_1 HB hHeld ⊢
        refine pure_ (i := 0) (N := some 75) (v := ?_) (a' := ?_) #[true, false, false, false, false, false, false, false, false, false, false, false, false, false, false, false, false, false, false, false, false, false, false, false, false] rfl rfl (any_of HT_.out (by kernel_rfl)) (fun _ _ _ h => h) (Or.inl ⟨by rfl, ?_⟩) ?_ ?_
        rotate_left
        ·intro w'
         go_simp
         with_reducible rfl
        rotate_left
        ·simp only [Act.put, List.setIfInBounds_toArray, List.set_cons_zero, List.set_cons_succ, i64_w, i32_w]
         rfl
        refine pure_ (i := 1) (N := some 76) (v := ?_) (a' := ?_) #[true, true, false, false, false, false, false, false, false, false, false, false, false, false, false, false, false, false, false, false, false, false, false, false, false] rfl rfl (any_of HT_.out (by kernel_rfl)) (fun _ _ _ h => h) (Or.inl ⟨by rfl, ?_⟩) ?_ ?_
        rotate_left
        ·intro w'
         go_simp
         with_reducible rfl
        rotate_left
        ·simp only [Act.put, List.setIfInBounds_toArray, List.set_cons_zero, List.set_cons_succ, i64_w, i32_w]
         rfl
        refine pure_ (i := 2) (N := some 77) (v := ?_) (a' := ?_) #[true, true, true, false, false, false, false, false, false, false, false, false, false, false, false, false, false, false, false, false, false, false, false, false, false] rfl rfl (any_of HT_.out (by kernel_rfl)) (fun _ _ _ h => h) (Or.inl ⟨by rfl, ?_⟩) ?_ ?_
        rotate_left
        ·intro w'
         go_simp
         with_reducible rfl
        rotate_left
        ·simp only [Act.put, List.setIfInBounds_toArray, List.set_cons_zero, List.set_cons_succ, i64_w, i32_w]
         rfl
        refine pure_ (i := 3) (N := some 78) (v := ?_) (a' := ?_) #[true, true, true, true, false, false, false, false, false, false, false, false, false, false, false, false, false, false, false, false, false, false, false, false, false] rfl rfl (any_of HT_.out (by kernel_rfl)) (fun _ _ _ h => h) (Or.inl ⟨by rfl, ?_⟩) ?_ ?_
        rotate_left
        ·intro w'
         go_simp
         with_reducible rfl
        rotate_left
        ·simp only [Act.put, List.setIfInBounds_toArray, List.set_cons_zero, List.set_cons_succ, i64_w, i32_w]
         rfl
        refine pure_ (i := 4) (N := some 79) (v := ?_) (a' := ?_) #[true, true, true, true, true, false, false, false, false, false, false, false, false, false, false, false, false, false, false, false, false, false, false, false, false] rfl rfl (any_of HT_.out (by kernel_rfl)) (fun _ _ _ h => h) (Or.inl ⟨by rfl, ?_⟩) ?_ ?_
        rotate_left
        ·intro w'
         go_simp
         with_reducible rfl
        rotate_left
        ·simp only [Act.put, List.setIfInBounds_toArray, List.set_cons_zero, List.set_cons_succ, i64_w, i32_w]
         rfl
        refine pure_ (i := 5) (N := some 80) (v := ?_) (a' := ?_) #[true, true, true, true, true, true, false, false, false, false, false, false, false, false, false, false, false, false, false, false, false, false, false, false, false] rfl rfl (any_of HT_.out (by kernel_rfl)) (fun _ _ _ h => h) (Or.inl ⟨by rfl, ?_⟩) ?_ ?_
        rotate_left
        ·intro w'
         go_simp
         with_reducible rfl
        rotate_left
        ·simp only [Act.put, List.setIfInBounds_toArray, List.set_cons_zero, List.set_cons_succ, i64_w, i32_w]
         rfl
        refine pure_ (i := 6) (N := some 81) (v := ?_) (a' := ?_) #[true, true, true, true, true, true, true, false, false, false, false, false, false, false, false, false, false, false, false, false, false, false, false, false, false] rfl rfl (any_of HT_.out (by kernel_rfl)) (fun _ _ _ h => h) (Or.inl ⟨by rfl, ?_⟩) ?_ ?_
        rotate_left
        ·intro w'
         go_simp
         with_reducible rfl
        rotate_left
        ·simp only [Act.put, List.setIfInBounds_toArray, List.set_cons_zero, List.set_cons_succ, i64_w, i32_w]
         rfl
        refine pure_ (i := 7) (N := some 82) (v := ?_) (a' := ?_) #[true, true, true, true, true, true, true, true, false, false, false, false, false, false, false, false, false, false, false, false, false, false, false, false, false] rfl rfl (any_of HT_.out (by kernel_rfl)) (fun _ _ _ h => h) (Or.inl ⟨by rfl, ?_⟩) ?_ ?_
        rotate_left
        ·intro w'
         go_simp
         with_reducible rfl
        rotate_left
        ·simp only [Act.put, List.setIfInBounds_toArray, List.set_cons_zero, List.set_cons_succ, i64_w, i32_w]
         rfl
        refine pure_ (i := 8) (N := some 83) (v := ?_) (a' := ?_) #[true, true, true, true, true, true, true, true, true, false, false, false, false, false, false, false, false, false, false, false, false, false, false, false, false] rfl rfl (any_of HT_.out (by kernel_rfl)) (fun _ _ _ h => h) (Or.inl ⟨by rfl, ?_⟩) ?_ ?_
        rotate_left
        ·intro w'
         go_simp
         with_reducible rfl
        rotate_left
        ·simp only [Act.put, List.setIfInBounds_toArray, List.set_cons_zero, List.set_cons_succ, i64_w, i32_w]
         rfl
        refine pure_ (i := 9) (N := some 84) (v := ?_) (a' := ?_) #[true, true, true, true, true, true, true, true, true, true, false, false, false, false, false, false, false, false, false, false, false, false, false, false, false] rfl rfl (any_of HT_.out (by kernel_rfl)) (fun _ _ _ h => h) (Or.inl ⟨by rfl, ?_⟩) ?_ ?_
        rotate_left
        ·intro w'
         go_simp
         with_reducible rfl
        rotate_left
        ·simp only [Act.put, List.setIfInBounds_toArray, List.set_cons_zero, List.set_cons_succ, i64_w, i32_w]
         rfl
        refine pure_ (i := 10) (N := some 85) (v := ?_) (a' := ?_) #[true, true, true, true, true, true, true, true, true, true, true, false, false, false, false, false, false, false, false, false, false, false, false, false, false] rfl rfl (any_of HT_.out (by kernel_rfl)) (fun _ _ _ h => h) (Or.inl ⟨by rfl, ?_⟩) ?_ ?_
        rotate_left
        ·intro w'
         go_simp
         with_reducible rfl
        rotate_left
        ·simp only [Act.put, List.setIfInBounds_toArray, List.set_cons_zero, List.set_cons_succ, i64_w, i32_w]
         rfl
        refine pure_ (i := 11) (N := some 86) (v := ?_) (a' := ?_) #[true, true, true, true, true, true, true, true, true, true, true, true, false, false, false, false, false, false, false, false, false, false, false, false, false] rfl rfl (any_of HT_.out (by kernel_rfl)) (fun _ _ _ h => h) (Or.inl ⟨by rfl, ?_⟩) ?_ ?_
        rotate_left
        ·intro w'
         go_simp
         with_reducible rfl
        rotate_left
        ·simp only [Act.put, List.setIfInBounds_toArray, List.set_cons_zero, List.set_cons_succ, i64_w, i32_w]
         rfl
        refine pure_ (i := 12) (N := some 87) (v := ?_) (a' := ?_) #[true, true, true, true, true, true, true, true, true, true, true, true, true, false, false, false, false, false, false, false, false, false, false, false, false] rfl rfl (any_of HT_.out (by kernel_rfl)) (fun _ _ _ h => h) (Or.inl ⟨by rfl, ?_⟩) ?_ ?_
        rotate_left
        ·intro w'
         go_simp
         with_reducible rfl
        rotate_left
        ·simp only [Act.put, List.setIfInBounds_toArray, List.set_cons_zero, List.set_cons_succ, i64_w, i32_w]
         rfl
        refine pure_ (i := 13) (N := some 88) (v := ?_) (a' := ?_) #[true, true, true, true, true, true, true, true, true, true, true, true, true, true, false, false, false, false, false, false, false, false, false, false, false] rfl rfl (any_of HT_.out (by kernel_rfl)) (fun _ _ _ h => h) (Or.inl ⟨by rfl, ?_⟩) ?_ ?_
        rotate_left
        ·intro w'
         go_simp
         with_reducible rfl
        rotate_left
        ·simp only [Act.put, List.setIfInBounds_toArray, List.set_cons_zero, List.set_cons_succ, i64_w, i32_w]
         rfl
        refine pure_ (i := 14) (N := some 89) (v := ?_) (a' := ?_) #[true, true, true, true, true, true, true, true, true, true, true, true, true, true, true, false, false, false, false, false, false, false, false, false, false] rfl rfl (any_of HT_.out (by kernel_rfl)) (fun _ _ _ h => h) (Or.inl ⟨by rfl, ?_⟩) ?_ ?_
        rotate_left
        ·intro w'
         go_simp
         with_reducible rfl
        rotate_left
        ·simp only [Act.put, List.setIfInBounds_toArray, List.set_cons_zero, List.set_cons_succ, i64_w, i32_w]
         rfl
        refine pure_ (i := 15) (N := some 90) (v := undef) (a' := ?_) #[true, true, true, true, true, true, true, true, true, true, true, true, true, true, true, true, false, false, false, false, false, false, false, false, false] rfl rfl (any_of HT_.out (by kernel_rfl)) (fun _ _ _ h => h) (Or.inr ⟨by rfl, rfl⟩) ?_ ?_
        rotate_left
        ·simp only [Act.put, List.setIfInBounds_toArray, List.set_cons_zero, List.set_cons_succ, i64_w, i32_w]
         rfl
        refine pure_ (i := 16) (N := some 91) (v := undef) (a' := ?_) #[true, true, true, true, true, true, true, true, true, true, true, true, true, true, true, true, true, false, false, false, false, false, false, false, false] rfl rfl (any_of HT_.out (by kernel_rfl)) (fun _ _ _ h => h) (Or.inr ⟨by rfl, rfl⟩) ?_ ?_
        rotate_left
        ·simp only [Act.put, List.setIfInBounds_toArray, List.set_cons_zero, List.set_cons_succ, i64_w, i32_w]
         rfl
        refine pure_ (i := 17) (N := some 92) (v := undef) (a' := ?_) #[true, true, true, true, true, true, true, true, true, true, true, true, true, true, true, true, true, true, false, false, false, false, false, false, false] rfl rfl (any_of HT_.out (by kernel_rfl)) (fun _ _ _ h => h) (Or.inr ⟨by rfl, rfl⟩) ?_ ?_
        rotate_left
        ·simp only [Act.put, List.setIfInBounds_toArray, List.set_cons_zero, List.set_cons_succ, i64_w, i32_w]
         rfl
        refine pure_ (i := 18) (N := some 93) (v := undef) (a' := ?_) #[true, true, true, true, true, true, true, true, true, true, true, true, true, true, true, true, true, true, true, false, false, false, false, false, false] rfl rfl (any_of HT_.out (by kernel_rfl)) (fun _ _ _ h => h) (Or.inr ⟨by rfl, rfl⟩) ?_ ?_
        rotate_left
        ·simp only [Act.put, List.setIfInBounds_toArray, List.set_cons_zero, List.set_cons_succ, i64_w, i32_w]
         rfl
        refine pure_ (i := 19) (N := some 94) (v := undef) (a' := ?_) #[true, true, true, true, true, true, true, true, true, true, true, true, true, true, true, true, true, true, true, true, false, false, false, false, false] rfl rfl (any_of HT_.out (by kernel_rfl)) (fun _ _ _ h => h) (Or.inr ⟨by rfl, rfl⟩) ?_ ?_
        rotate_left
        ·simp only [Act.put, List.setIfInBounds_toArray, List.set_cons_zero, List.set_cons_succ, i64_w, i32_w]
         rfl
        refine pure_ (i := 20) (N := some 95) (v := undef) (a' := ?_) #[true, true, true, true, true, true, true, true, true, true, true, true, true, true, true, true, true, true, true, true, true, false, false, false, false] rfl rfl (any_of HT_.out (by kernel_rfl)) (fun _ _ _ h => h) (Or.inr ⟨by rfl, rfl⟩) ?_ ?_
        rotate_left
        ·simp only [Act.put, List.setIfInBounds_toArray, List.set_cons_zero, List.set_cons_succ, i64_w, i32_w]
         rfl
        refine pure_ (i := 21) (N := some 96) (v := undef) (a' := ?_) #[true, true, true, true, true, true, true, true, true, true, true, true, true, true, true, true, true, true, true, true, true, true, false, false, false] rfl rfl (any_of HT_.out (by kernel_rfl)) (fun _ _ _ h => h) (Or.inr ⟨by rfl, rfl⟩) ?_ ?_
        rotate_left
        ·simp only [Act.put, List.setIfInBounds_toArray, List.set_cons_zero, List.set_cons_succ, i64_w, i32_w]
         rfl
        refine pure_ (i := 22) (N := some 97) (v := undef) (a' := ?_) #[true, true, true, true, true, true, true, true, true, true, true, true, true, true, true, true, true, true, true, true, true, true, true, false, false] rfl rfl (any_of HT_.out (by kernel_rfl)) (fun _ _ _ h => h) (Or.inr ⟨by rfl, rfl⟩) ?_ ?_
        rotate_left
        ·simp only [Act.put, List.setIfInBounds_toArray, List.set_cons_zero, List.set_cons_succ, i64_w, i32_w]
         rfl
        refine pure_ (i := 23) (N := some 98) (v := undef) (a' := ?_) #[true, true, true, true, true, true, true, true, true, true, true, true, true, true, true, true, true, true, true, true, true, true, true, true, false] rfl rfl (any_of HT_.out (by kernel_rfl)) (fun _ _ _ h => h) (Or.inr ⟨by rfl, rfl⟩) ?_ ?_
        rotate_left
        ·simp only [Act.put, List.setIfInBounds_toArray, List.set_cons_zero, List.set_cons_succ, i64_w, i32_w]
         rfl
        refine pure_ (i := 24) (N := some 99) (v := ?_) (a' := ?_) #[true, true, true, true, true, true, true, true, true, true, true, true, true, true, true, true, true, true, true, true, true, true, true, true, true] rfl rfl (any_of HT_.out (by kernel_rfl)) (fun _ _ _ h => h) (Or.inl ⟨by rfl, ?_⟩) ?_ ?_
        rotate_left
        ·intro w'
         go_simp
         with_reducible rfl
        rotate_left
        ·simp only [Act.put, List.setIfInBounds_toArray, List.set_cons_zero, List.set_cons_succ, i64_w, i32_w]
         rfl
        refine done_ (done_of HT_.out (by kernel_rfl)) ?_
        try go_wp2
        go_meet
        case rel => exact ⟨_, (true), (by first | rfl | (simp; done) | (simp [*]; done)), H', ⟨by first | omega | exact Nat.le_refl _⟩, ⟨by (with_reducible repeat (first | apply Kd.V_alloc | apply Kd.V_drewN | apply Kd.V_drew)); exact Kd.V_mono HO251.out (fun _ hk => by first | exact hk | (simp only [hk, ne_eq, not_false_eq_true, and_self, true_and, and_true, or_true, true_or]; done) | (simp only [ne_eq, and_assoc] at hk ⊢; simp only [hk, not_false_eq_true, and_self, true_and, and_true]))⟩, ⟨by (with_reducible repeat (first | apply Kd.V_alloc | apply Kd.V_drewN | apply Kd.V_drew)); exact Kd.V_mono HO263.out (fun _ hk => by first | exact hk | (simp only [hk, ne_eq, not_false_eq_true, and_self, true_and, and_true, or_true, true_or]; done) | (simp only [ne_eq, and_assoc] at hk ⊢; simp only [hk, not_false_eq_true, and_self, true_and, and_true]))⟩, ⟨by (with_reducible repeat (first | apply Kd.V_alloc | apply Kd.V_drewN | apply Kd.V_drew)); exact Kd.V_mono HO1_1.out (fun _ hk => by first | exact hk | (simp only [hk, ne_eq, not_false_eq_true, and_self, true_and, and_true, or_true, true_or]; done) | (simp only [ne_eq, and_assoc] at hk ⊢; simp only [hk, not_false_eq_true, and_self, true_and, and_true]))⟩, ⟨by (with_reducible repeat (first | apply Kd.V_alloc | apply Kd.V_drewN | apply Kd.V_drew)); exact Kd.V_mono HO2_1.out (fun _ hk => by first | exact hk | (simp only [hk, ne_eq, not_false_eq_true, and_self, true_and, and_true, or_true, true_or]; done) | (simp only [ne_eq, and_assoc] at hk ⊢; simp only [hk, not_false_eq_true, and_self, true_and, and_true]))⟩, ⟨by (with_reducible repeat (first | refine blk_drewN ?_ _ | refine blk_drew ?_ | refine blk_alloc ?_ _)); exact BK224.out⟩, ⟨by (with_reducible repeat (first | refine blk_drewN ?_ _ | refine blk_drew ?_ | refine blk_alloc ?_ _)); exact BK225.out⟩, ⟨by repeat (first | (with_reducible exact HR241_1.out) | (with_reducible refine Kd.C_alloc ?_ _) | (with_reducible refine Kd.C_drewN ?_ _) | (with_reducible refine Kd.C_drew ?_) | exact HR241_1.out)⟩, ⟨by repeat (first | (with_reducible exact HR242_1.out) | (with_reducible refine Kd.C_alloc ?_ _) | (with_reducible refine Kd.C_drewN ?_ _) | (with_reducible refine Kd.C_drew ?_) | exact HR242_1.out)⟩, ⟨by repeat (first | (with_reducible exact HR247_1.out) | (with_reducible refine Kd.C_alloc ?_ _) | (with_reducible refine Kd.C_drewN ?_ _) | (with_reducible refine Kd.C_drew ?_) | exact HR247_1.out)⟩, ⟨by repeat (first | (with_reducible exact HR248_1.out) | (with_reducible refine Kd.C_alloc ?_ _) | (with_reducible refine Kd.C_drewN ?_ _) | (with_reducible refine Kd.C_drew ?_) | exact HR248_1.out)⟩, ⟨by repeat (first | (with_reducible exact HR253_1.out) | (with_reducible refine Kd.C_alloc ?_ _) | (with_reducible refine Kd.C_drewN ?_ _) | (with_reducible refine Kd.C_drew ?_) | exact HR253_1.out)⟩, ⟨by repeat (first | (with_reducible exact HR254_1.out) | (with_reducible refine Kd.C_alloc ?_ _) | (with_reducible refine Kd.C_drewN ?_ _) | (with_reducible refine Kd.C_drew ?_) | exact HR254_1.out)⟩, ⟨by repeat (first | (with_reducible exact HR259_1.out) | (with_reducible refine Kd.C_alloc ?_ _) | (with_reducible refine Kd.C_drewN ?_ _) | (with_reducible refine Kd.C_drew ?_) | exact HR259_1.out)⟩, ⟨by repeat (first | (with_reducible exact HR260_1.out) | (with_reducible refine Kd.C_alloc ?_ _) | (with_reducible refine Kd.C_drewN ?_ _) | (with_reducible refine Kd.C_drew ?_) | exact HR260_1.out)⟩, ⟨by repeat (first | (with_reducible first | exact HB.out | apply below_alloc | apply pw_below_drewN | apply below_drew1 | refine below_set ?_ GE224.out | refine below_set ?_ GE225.out) | exact HB.out)⟩⟩
      ·rw [if_neg c42] at H
       have c42b0 : (t258 == 0) = false := beq_eq_false_iff_ne.mpr c42
       have c42b1 : (t258 != 0) = true := bne_iff_ne.mpr c42
       have H' := Aside0.mk H
       clear H
       try go_wp2
       have n0_ := Aside0.mk (Kd.V_drew HO1_1.out)
       have n1_ := Aside0.mk (Kd.V_drew HO2_1.out)
       have n2_ := Aside0.mk (Kd.N_drew HO228.out)
       have n3_ := Aside0.mk (Kd.N_drew HO231.out)
       have n4_ := Aside0.mk (Kd.N_drew HO234.out)
       have n5_ := Aside0.mk (Kd.N_drew HO237.out)
       have n6_ := Aside0.mk (Kd.N_drew HO240.out)
       have n7_ := Aside0.mk (Kd.V_drew HL241_1.out)
       have n8_ := Aside0.mk (Kd.V_drew HL242_1.out)
       have n9_ := Aside0.mk (Kd.V_drew HO245.out)
       have n10_ := Aside0.mk (Kd.V_drew HL247_1.out)
       have n11_ := Aside0.mk (Kd.V_drew HL248_1.out)
       have n12_ := Aside0.mk (Kd.V_drew HO251.out)
       have n13_ := Aside0.mk (Kd.V_drew HL253_1.out)
       have n14_ := Aside0.mk (Kd.V_drew HL254_1.out)
       have n15_ := Aside0.mk (Kd.V_drew HO257.out)
       have n16_ := Aside0.mk (Kd.V_drew HL259_1.out)
       have n17_ := Aside0.mk (Kd.V_drew HL260_1.out)
       have n18_ := Aside0.mk (Kd.V_drew HO263.out)
       have n19_ := Aside0.mk (blk_drew BK224.out)
       have n20_ := Aside0.mk (blk_drew BK225.out)
       have n21_ := Aside0.mk (Kd.C_drew HR241_1.out)
       have n22_ := Aside0.mk (Kd.C_drew HR242_1.out)
       have n23_ := Aside0.mk (Kd.C_drew HR247_1.out)
       have n24_ := Aside0.mk (Kd.C_drew HR248_1.out)
       have n25_ := Aside0.mk (Kd.C_drew HR253_1.out)
       have n26_ := Aside0.mk (Kd.C_drew HR254_1.out)
       have n27_ := Aside0.mk (Kd.C_drew HR259_1.out)
       have n28_ := Aside0.mk (Kd.C_drew HR260_1.out)
       have n29_ := Aside0.mk (below_drew1 HB.out)
       clear HO1_1
       clear HO2_1
       clear HO228
       clear HO231
       clear HO234
       clear HO237
       clear HO240
       clear HL241_1
       clear HL242_1
       clear HO245
       clear HL247_1
       clear HL248_1
       clear HO251
       clear HL253_1
       clear HL254_1
       clear HO257
       clear HL259_1
       clear HL260_1
       clear HO263
       clear BK224
       clear BK225
       clear HR241_1
       clear HR242_1
       clear HR247_1
       clear HR248_1
       clear HR253_1
       clear HR254_1
       clear HR259_1
       clear HR260_1
       clear HB
       have HO1_1 := n0_
       have HO2_1 := n1_
       have HO228 := n2_
       have HO231 := n3_
       have HO234 := n4_
       have HO237 := n5_
       have HO240 := n6_
       have HL241_1 := n7_
       have HL242_1 := n8_
       have HO245 := n9_
       have HL247_1 := n10_
       have HL248_1 := n11_
       have HO251 := n12_
       have HL253_1 := n13_
       have HL254_1 := n14_
       have HO257 := n15_
       have HL259_1 := n16_
       have HL260_1 := n17_
       have HO263 := n18_
       have BK224 := n19_
       have BK225 := n20_
       have HR241_1 := n21_
       have HR242_1 := n22_
       have HR247_1 := n23_
       have HR248_1 := n24_
       have HR253_1 := n25_
       have HR254_1 := n26_
       have HR259_1 := n27_
       have HR260_1 := n28_
       have HB := n29_
       clear n0_ n1_ n2_ n3_ n4_ n5_ n6_ n7_ n8_ n9_ n10_ n11_ n12_ n13_ n14_ n15_ n16_ n17_ n18_ n19_ n20_ n21_ n22_ n23_ n24_ n25_ n26_ n27_ n28_ n29_
       refine start_ (n := 25) (S := fun w' => True) (ds := []) #[false, false, false, false, false, false, false, false, false, false, false, false, false, false, false, false, false, false, false, false, false, false, false, false, false] (by kernel_rfl) rfl rfl trivial (fun hHeld => ?_); refine with_tabW cellarerlaw06_IndexTurns.tab7 cellarerlaw06_IndexTurns.bits7 (fun HT_ HW_ => ?_)
       generalize w39.drew = w46 at HO1_1 HO2_1 HO228 HO231 HO234 HO237 HO240 HL241_1 HL242_1 HO245 HL247_1 HL248_1 HO251 HL253_1 HL254_1 HO257 HL259_1 HL260_1 HO263 BK224 BK225 HR241_1 HR242_1 HR247_1 HR248_1 HR253_1 HR254_1 HR259_1 HR260_1 HB hHeld ⊢
       refine pure_ (i := 0) (N := some 75) (v := ?_) (a' := ?_) #[true, false, false, false, false, false, false, false, false, false, false, false, false, false, false, false, false, false, false, false, false, false, false, false, false] rfl rfl (any_of HT_.out (by kernel_rfl)) (fun _ _ _ h => h) (Or.inl ⟨by rfl, ?_⟩) ?_ ?_
       rotate_left
       ·intro w'
        go_simp
        with_reducible rfl
       rotate_left
       ·simp only [Act.put, List.setIfInBounds_toArray, List.set_cons_zero, List.set_cons_succ, i64_w, i32_w]
        rfl
       refine pure_ (i := 1) (N := some 76) (v := ?_) (a' := ?_) #[true, true, false, false, false, false, false, false, false, false, false, false, false, false, false, false, false, false, false, false, false, false, false, false, false] rfl rfl (any_of HT_.out (by kernel_rfl)) (fun _ _ _ h => h) (Or.inl ⟨by rfl, ?_⟩) ?_ ?_
       rotate_left
       ·intro w'
        go_simp
        with_reducible rfl
       rotate_left
       ·simp only [Act.put, List.setIfInBounds_toArray, List.set_cons_zero, List.set_cons_succ, i64_w, i32_w]
        rfl
       refine pure_ (i := 2) (N := some 77) (v := ?_) (a' := ?_) #[true, true, true, false, false, false, false, false, false, false, false, false, false, false, false, false, false, false, false, false, false, false, false, false, false] rfl rfl (any_of HT_.out (by kernel_rfl)) (fun _ _ _ h => h) (Or.inl ⟨by rfl, ?_⟩) ?_ ?_
       rotate_left
       ·intro w'
        go_simp
        with_reducible rfl
       rotate_left
       ·simp only [Act.put, List.setIfInBounds_toArray, List.set_cons_zero, List.set_cons_succ, i64_w, i32_w]
        rfl
       refine pure_ (i := 3) (N := some 78) (v := ?_) (a' := ?_) #[true, true, true, true, false, false, false, false, false, false, false, false, false, false, false, false, false, false, false, false, false, false, false, false, false] rfl rfl (any_of HT_.out (by kernel_rfl)) (fun _ _ _ h => h) (Or.inl ⟨by rfl, ?_⟩) ?_ ?_
       rotate_left
       ·intro w'
        go_simp
        with_reducible rfl
       rotate_left
       ·simp only [Act.put, List.setIfInBounds_toArray, List.set_cons_zero, List.set_cons_succ, i64_w, i32_w]
        rfl
       refine pure_ (i := 4) (N := some 79) (v := ?_) (a' := ?_) #[true, true, true, true, true, false, false, false, false, false, false, false, false, false, false, false, false, false, false, false, false, false, false, false, false] rfl rfl (any_of HT_.out (by kernel_rfl)) (fun _ _ _ h => h) (Or.inl ⟨by rfl, ?_⟩) ?_ ?_
       rotate_left
       ·intro w'
        go_simp
        with_reducible rfl
       rotate_left
       ·simp only [Act.put, List.setIfInBounds_toArray, List.set_cons_zero, List.set_cons_succ, i64_w, i32_w]
        rfl
       refine pure_ (i := 5) (N := some 80) (v := ?_) (a' := ?_) #[true, true, true, true, true, true, false, false, false, false, false, false, false, false, false, false, false, false, false, false, false, false, false, false, false] rfl rfl (any_of HT_.out (by kernel_rfl)) (fun _ _ _ h => h) (Or.inl ⟨by rfl, ?_⟩) ?_ ?_
       rotate_left
       ·intro w'
        go_simp
        with_reducible rfl
       rotate_left
       ·simp only [Act.put, List.setIfInBounds_toArray, List.set_cons_zero, List.set_cons_succ, i64_w, i32_w]
        rfl
       refine pure_ (i := 6) (N := some 81) (v := ?_) (a' := ?_) #[true, true, true, true, true, true, true, false, false, false, false, false, false, false, false, false, false, false, false, false, false, false, false, false, false] rfl rfl (any_of HT_.out (by kernel_rfl)) (fun _ _ _ h => h) (Or.inl ⟨by rfl, ?_⟩) ?_ ?_
       rotate_left
       ·intro w'
        go_simp
        with_reducible rfl
       rotate_left
       ·simp only [Act.put, List.setIfInBounds_toArray, List.set_cons_zero, List.set_cons_succ, i64_w, i32_w]
        rfl
       refine pure_ (i := 7) (N := some 82) (v := ?_) (a' := ?_) #[true, true, true, true, true, true, true, true, false, false, false, false, false, false, false, false, false, false, false, false, false, false, false, false, false] rfl rfl (any_of HT_.out (by kernel_rfl)) (fun _ _ _ h => h) (Or.inl ⟨by rfl, ?_⟩) ?_ ?_
       rotate_left
       ·intro w'
        go_simp
        with_reducible rfl
       rotate_left
       ·simp only [Act.put, List.setIfInBounds_toArray, List.set_cons_zero, List.set_cons_succ, i64_w, i32_w]
        rfl
       refine pure_ (i := 8) (N := some 83) (v := ?_) (a' := ?_) #[true, true, true, true, true, true, true, true, true, false, false, false, false, false, false, false, false, false, false, false, false, false, false, false, false] rfl rfl (any_of HT_.out (by kernel_rfl)) (fun _ _ _ h => h) (Or.inl ⟨by rfl, ?_⟩) ?_ ?_
       rotate_left
       ·intro w'
        go_simp
        with_reducible rfl
       rotate_left
       ·simp only [Act.put, List.setIfInBounds_toArray, List.set_cons_zero, List.set_cons_succ, i64_w, i32_w]
        rfl
       refine pure_ (i := 9) (N := some 84) (v := ?_) (a' := ?_) #[true, true, true, true, true, true, true, true, true, true, false, false, false, false, false, false, false, false, false, false, false, false, false, false, false] rfl rfl (any_of HT_.out (by kernel_rfl)) (fun _ _ _ h => h) (Or.inl ⟨by rfl, ?_⟩) ?_ ?_
       rotate_left
       ·intro w'
        go_simp
        with_reducible rfl
       rotate_left
       ·simp only [Act.put, List.setIfInBounds_toArray, List.set_cons_zero, List.set_cons_succ, i64_w, i32_w]
        rfl
       refine pure_ (i := 10) (N := some 85) (v := ?_) (a' := ?_) #[true, true, true, true, true, true, true, true, true, true, true, false, false, false, false, false, false, false, false, false, false, false, false, false, false] rfl rfl (any_of HT_.out (by kernel_rfl)) (fun _ _ _ h => h) (Or.inl ⟨by rfl, ?_⟩) ?_ ?_
       rotate_left
       ·intro w'
        go_simp
        with_reducible rfl
       rotate_left
       ·simp only [Act.put, List.setIfInBounds_toArray, List.set_cons_zero, List.set_cons_succ, i64_w, i32_w]
        rfl
       refine pure_ (i := 11) (N := some 86) (v := undef) (a' := ?_) #[true, true, true, true, true, true, true, true, true, true, true, true, false, false, false, false, false, false, false, false, false, false, false, false, false] rfl rfl (any_of HT_.out (by kernel_rfl)) (fun _ _ _ h => h) (Or.inr ⟨by rfl, rfl⟩) ?_ ?_
       rotate_left
       ·simp only [Act.put, List.setIfInBounds_toArray, List.set_cons_zero, List.set_cons_succ, i64_w, i32_w]
        rfl
       refine pure_ (i := 12) (N := some 87) (v := undef) (a' := ?_) #[true, true, true, true, true, true, true, true, true, true, true, true, true, false, false, false, false, false, false, false, false, false, false, false, false] rfl rfl (any_of HT_.out (by kernel_rfl)) (fun _ _ _ h => h) (Or.inr ⟨by rfl, rfl⟩) ?_ ?_
       rotate_left
       ·simp only [Act.put, List.setIfInBounds_toArray, List.set_cons_zero, List.set_cons_succ, i64_w, i32_w]
        rfl
       refine pure_ (i := 13) (N := some 88) (v := ?_) (a' := ?_) #[true, true, true, true, true, true, true, true, true, true, true, true, true, true, false, false, false, false, false, false, false, false, false, false, false] rfl rfl (any_of HT_.out (by kernel_rfl)) (fun _ _ _ h => h) (Or.inl ⟨by rfl, ?_⟩) ?_ ?_
       rotate_left
       ·intro w'
        go_simp
        with_reducible rfl
       rotate_left
       ·simp only [Act.put, List.setIfInBounds_toArray, List.set_cons_zero, List.set_cons_succ, i64_w, i32_w]
        rfl
       refine pure_ (i := 14) (N := some 89) (v := ?_) (a' := ?_) #[true, true, true, true, true, true, true, true, true, true, true, true, true, true, true, false, false, false, false, false, false, false, false, false, false] rfl rfl (any_of HT_.out (by kernel_rfl)) (fun _ _ _ h => h) (Or.inl ⟨by rfl, ?_⟩) ?_ ?_
       rotate_left
       ·intro w'
        go_simp
        with_reducible rfl
       rotate_left
       ·simp only [Act.put, List.setIfInBounds_toArray, List.set_cons_zero, List.set_cons_succ, i64_w, i32_w]
        rfl
       refine pure_ (i := 15) (N := some 90) (v := undef) (a' := ?_) #[true, true, true, true, true, true, true, true, true, true, true, true, true, true, true, true, false, false, false, false, false, false, false, false, false] rfl rfl (any_of HT_.out (by kernel_rfl)) (fun _ _ _ h => h) (Or.inr ⟨by rfl, rfl⟩) ?_ ?_
       rotate_left
       ·simp only [Act.put, List.setIfInBounds_toArray, List.set_cons_zero, List.set_cons_succ, i64_w, i32_w]
        rfl
       refine pure_ (i := 16) (N := some 91) (v := undef) (a' := ?_) #[true, true, true, true, true, true, true, true, true, true, true, true, true, true, true, true, true, false, false, false, false, false, false, false, false] rfl rfl (any_of HT_.out (by kernel_rfl)) (fun _ _ _ h => h) (Or.inr ⟨by rfl, rfl⟩) ?_ ?_
       rotate_left
       ·simp only [Act.put, List.setIfInBounds_toArray, List.set_cons_zero, List.set_cons_succ, i64_w, i32_w]
        rfl
       refine pure_ (i := 17) (N := some 92) (v := undef) (a' := ?_) #[true, true, true, true, true, true, true, true, true, true, true, true, true, true, true, true, true, true, false, false, false, false, false, false, false] rfl rfl (any_of HT_.out (by kernel_rfl)) (fun _ _ _ h => h) (Or.inr ⟨by rfl, rfl⟩) ?_ ?_
       rotate_left
       ·simp only [Act.put, List.setIfInBounds_toArray, List.set_cons_zero, List.set_cons_succ, i64_w, i32_w]
        rfl
       refine pure_ (i := 18) (N := some 93) (v := undef) (a' := ?_) #[true, true, true, true, true, true, true, true, true, true, true, true, true, true, true, true, true, true, true, false, false, false, false, false, false] rfl rfl (any_of HT_.out (by kernel_rfl)) (fun _ _ _ h => h) (Or.inr ⟨by rfl, rfl⟩) ?_ ?_
       rotate_left
       ·simp only [Act.put, List.setIfInBounds_toArray, List.set_cons_zero, List.set_cons_succ, i64_w, i32_w]
        rfl
       refine pure_ (i := 19) (N := some 94) (v := undef) (a' := ?_) #[true, true, true, true, true, true, true, true, true, true, true, true, true, true, true, true, true, true, true, true, false, false, false, false, false] rfl rfl (any_of HT_.out (by kernel_rfl)) (fun _ _ _ h => h) (Or.inr ⟨by rfl, rfl⟩) ?_ ?_
       rotate_left
       ·simp only [Act.put, List.setIfInBounds_toArray, List.set_cons_zero, List.set_cons_succ, i64_w, i32_w]
        rfl
       refine pure_ (i := 20) (N := some 95) (v := undef) (a' := ?_) #[true, true, true, true, true, true, true, true, true, true, true, true, true, true, true, true, true, true, true, true, true, false, false, false, false] rfl rfl (any_of HT_.out (by kernel_rfl)) (fun _ _ _ h => h) (Or.inr ⟨by rfl, rfl⟩) ?_ ?_
       rotate_left
       ·simp only [Act.put, List.setIfInBounds_toArray, List.set_cons_zero, List.set_cons_succ, i64_w, i32_w]
        rfl
       refine pure_ (i := 21) (N := some 96) (v := undef) (a' := ?_) #[true, true, true, true, true, true, true, true, true, true, true, true, true, true, true, true, true, true, true, true, true, true, false, false, false] rfl rfl (any_of HT_.out (by kernel_rfl)) (fun _ _ _ h => h) (Or.inr ⟨by rfl, rfl⟩) ?_ ?_
       rotate_left
       ·simp only [Act.put, List.setIfInBounds_toArray, List.set_cons_zero, List.set_cons_succ, i64_w, i32_w]
        rfl
       refine pure_ (i := 22) (N := some 97) (v := undef) (a' := ?_) #[true, true, true, true, true, true, true, true, true, true, true, true, true, true, true, true, true, true, true, true, true, true, true, false, false] rfl rfl (any_of HT_.out (by kernel_rfl)) (fun _ _ _ h => h) (Or.inr ⟨by rfl, rfl⟩) ?_ ?_
       rotate_left
       ·simp only [Act.put, List.setIfInBounds_toArray, List.set_cons_zero, List.set_cons_succ, i64_w, i32_w]
        rfl
       refine pure_ (i := 23) (N := some 98) (v := undef) (a' := ?_) #[true, true, true, true, true, true, true, true, true, true, true, true, true, true, true, true, true, true, true, true, true, true, true, true, false] rfl rfl (any_of HT_.out (by kernel_rfl)) (fun _ _ _ h => h) (Or.inr ⟨by rfl, rfl⟩) ?_ ?_
       rotate_left
       ·simp only [Act.put, List.setIfInBounds_toArray, List.set_cons_zero, List.set_cons_succ, i64_w, i32_w]
        rfl
       refine pure_ (i := 24) (N := some 99) (v := ?_) (a' := ?_) #[true, true, true, true, true, true, true, true, true, true, true, true, true, true, true, true, true, true, true, true, true, true, true, true, true] rfl rfl (any_of HT_.out (by kernel_rfl)) (fun _ _ _ h => h) (Or.inl ⟨by rfl, ?_⟩) ?_ ?_
       rotate_left
       ·intro w'
        go_simp
        with_reducible rfl
       rotate_left
       ·simp only [Act.put, List.setIfInBounds_toArray, List.set_cons_zero, List.set_cons_succ, i64_w, i32_w]
        rfl
       refine done_ (done_of HT_.out (by kernel_rfl)) ?_
       try go_wp2
       go_meet
       case rel => exact ⟨_, (true), (by first | rfl | (simp; done) | (simp [*]; done)), H', ⟨by first | omega | exact Nat.le_refl _⟩, ⟨by (with_reducible repeat (first | apply Kd.V_alloc | apply Kd.V_drewN | apply Kd.V_drew)); exact Kd.V_mono HO251.out (fun _ hk => by first | exact hk | (simp only [hk, ne_eq, not_false_eq_true, and_self, true_and, and_true, or_true, true_or]; done) | (simp only [ne_eq, and_assoc] at hk ⊢; simp only [hk, not_false_eq_true, and_self, true_and, and_true]))⟩, ⟨by (with_reducible repeat (first | apply Kd.V_alloc | apply Kd.V_drewN | apply Kd.V_drew)); exact Kd.V_mono HO263.out (fun _ hk => by first | exact hk | (simp only [hk, ne_eq, not_false_eq_true, and_self, true_and, and_true, or_true, true_or]; done) | (simp only [ne_eq, and_assoc] at hk ⊢; simp only [hk, not_false_eq_true, and_self, true_and, and_true]))⟩, ⟨by (with_reducible repeat (first | apply Kd.V_alloc | apply Kd.V_drewN | apply Kd.V_drew)); exact Kd.V_mono HO1_1.out (fun _ hk => by first | exact hk | (simp only [hk, ne_eq, not_false_eq_true, and_self, true_and, and_true, or_true, true_or]; done) | (simp only [ne_eq, and_assoc] at hk ⊢; simp only [hk, not_false_eq_true, and_self, true_and, and_true]))⟩, ⟨by (with_reducible repeat (first | apply Kd.V_alloc | apply Kd.V_drewN | apply Kd.V_drew)); exact Kd.V_mono HO2_1.out (fun _ hk => by first | exact hk | (simp only [hk, ne_eq, not_false_eq_true, and_self, true_and, and_true, or_true, true_or]; done) | (simp only [ne_eq, and_assoc] at hk ⊢; simp only [hk, not_false_eq_true, and_self, true_and, and_true]))⟩, ⟨by (with_reducible repeat (first | refine blk_drewN ?_ _ | refine blk_drew ?_ | refine blk_alloc ?_ _)); exact BK224.out⟩, ⟨by (with_reducible repeat (first | refine blk_drewN ?_ _ | refine blk_drew ?_ | refine blk_alloc ?_ _)); exact BK225.out⟩, ⟨by repeat (first | (with_reducible exact HR241_1.out) | (with_reducible refine Kd.C_alloc ?_ _) | (with_reducible refine Kd.C_drewN ?_ _) | (with_reducible refine Kd.C_drew ?_) | exact HR241_1.out)⟩, ⟨by repeat (first | (with_reducible exact HR242_1.out) | (with_reducible refine Kd.C_alloc ?_ _) | (with_reducible refine Kd.C_drewN ?_ _) | (with_reducible refine Kd.C_drew ?_) | exact HR242_1.out)⟩, ⟨by repeat (first | (with_reducible exact HR247_1.out) | (with_reducible refine Kd.C_alloc ?_ _) | (with_reducible refine Kd.C_drewN ?_ _) | (with_reducible refine Kd.C_drew ?_) | exact HR247_1.out)⟩, ⟨by repeat (first | (with_reducible exact HR248_1.out) | (with_reducible refine Kd.C_alloc ?_ _) | (with_reducible refine Kd.C_drewN ?_ _) | (with_reducible refine Kd.C_drew ?_) | exact HR248_1.out)⟩, ⟨by repeat (first | (with_reducible exact HR253_1.out) | (with_reducible refine Kd.C_alloc ?_ _) | (with_reducible refine Kd.C_drewN ?_ _) | (with_reducible refine Kd.C_drew ?_) | exact HR253_1.out)⟩, ⟨by repeat (first | (with_reducible exact HR254_1.out) | (with_reducible refine Kd.C_alloc ?_ _) | (with_reducible refine Kd.C_drewN ?_ _) | (with_reducible refine Kd.C_drew ?_) | exact HR254_1.out)⟩, ⟨by repeat (first | (with_reducible exact HR259_1.out) | (with_reducible refine Kd.C_alloc ?_ _) | (with_reducible refine Kd.C_drewN ?_ _) | (with_reducible refine Kd.C_drew ?_) | exact HR259_1.out)⟩, ⟨by repeat (first | (with_reducible exact HR260_1.out) | (with_reducible refine Kd.C_alloc ?_ _) | (with_reducible refine Kd.C_drewN ?_ _) | (with_reducible refine Kd.C_drew ?_) | exact HR260_1.out)⟩, ⟨by repeat (first | (with_reducible first | exact HB.out | apply below_alloc | apply pw_below_drewN | apply below_drew1 | refine below_set ?_ GE224.out | refine below_set ?_ GE225.out) | exact HB.out)⟩⟩
     ·rw [if_neg c41] at H
      have c41b0 : (t252 == 0) = false := beq_eq_false_iff_ne.mpr c41
      have c41b1 : (t252 != 0) = true := bne_iff_ne.mpr c41
      have H' := Aside0.mk H
      clear H
      try go_wp2
      have n0_ := Aside0.mk (Kd.V_drew HO1_1.out)
      have n1_ := Aside0.mk (Kd.V_drew HO2_1.out)
      have n2_ := Aside0.mk (Kd.N_drew HO228.out)
      have n3_ := Aside0.mk (Kd.N_drew HO231.out)
      have n4_ := Aside0.mk (Kd.N_drew HO234.out)
      have n5_ := Aside0.mk (Kd.N_drew HO237.out)
      have n6_ := Aside0.mk (Kd.N_drew HO240.out)
      have n7_ := Aside0.mk (Kd.V_drew HL241_1.out)
      have n8_ := Aside0.mk (Kd.V_drew HL242_1.out)
      have n9_ := Aside0.mk (Kd.V_drew HO245.out)
      have n10_ := Aside0.mk (Kd.V_drew HL247_1.out)
      have n11_ := Aside0.mk (Kd.V_drew HL248_1.out)
      have n12_ := Aside0.mk (Kd.V_drew HO251.out)
      have n13_ := Aside0.mk (Kd.V_drew HL253_1.out)
      have n14_ := Aside0.mk (Kd.V_drew HL254_1.out)
      have n15_ := Aside0.mk (Kd.V_drew HO257.out)
      have n16_ := Aside0.mk (Kd.V_drew HL259_1.out)
      have n17_ := Aside0.mk (Kd.V_drew HL260_1.out)
      have n18_ := Aside0.mk (Kd.V_drew HO263.out)
      have n19_ := Aside0.mk (blk_drew BK224.out)
      have n20_ := Aside0.mk (blk_drew BK225.out)
      have n21_ := Aside0.mk (Kd.C_drew HR241_1.out)
      have n22_ := Aside0.mk (Kd.C_drew HR242_1.out)
      have n23_ := Aside0.mk (Kd.C_drew HR247_1.out)
      have n24_ := Aside0.mk (Kd.C_drew HR248_1.out)
      have n25_ := Aside0.mk (Kd.C_drew HR253_1.out)
      have n26_ := Aside0.mk (Kd.C_drew HR254_1.out)
      have n27_ := Aside0.mk (Kd.C_drew HR259_1.out)
      have n28_ := Aside0.mk (Kd.C_drew HR260_1.out)
      have n29_ := Aside0.mk (below_drew1 HB.out)
      clear HO1_1
      clear HO2_1
      clear HO228
      clear HO231
      clear HO234
      clear HO237
      clear HO240
      clear HL241_1
      clear HL242_1
      clear HO245
      clear HL247_1
      clear HL248_1
      clear HO251
      clear HL253_1
      clear HL254_1
      clear HO257
      clear HL259_1
      clear HL260_1
      clear HO263
      clear BK224
      clear BK225
      clear HR241_1
      clear HR242_1
      clear HR247_1
      clear HR248_1
      clear HR253_1
      clear HR254_1
      clear HR259_1
      clear HR260_1
      clear HB
      have HO1_1 := n0_
      have HO2_1 := n1_
      have HO228 := n2_
      have HO231 := n3_
      have HO234 := n4_
      have HO237 := n5_
      have HO240 := n6_
      have HL241_1 := n7_
      have HL242_1 := n8_
      have HO245 := n9_
      have HL247_1 := n10_
      have HL248_1 := n11_
      have HO251 := n12_
      have HL253_1 := n13_
      have HL254_1 := n14_
      have HO257 := n15_
      have HL259_1 := n16_
      have HL260_1 := n17_
      have HO263 := n18_
      have BK224 := n19_
      have BK225 := n20_
      have HR241_1 := n21_
      have HR242_1 := n22_
      have HR247_1 := n23_
      have HR248_1 := n24_
      have HR253_1 := n25_
      have HR254_1 := n26_
      have HR259_1 := n27_
      have HR260_1 := n28_
      have HB := n29_
      clear n0_ n1_ n2_ n3_ n4_ n5_ n6_ n7_ n8_ n9_ n10_ n11_ n12_ n13_ n14_ n15_ n16_ n17_ n18_ n19_ n20_ n21_ n22_ n23_ n24_ n25_ n26_ n27_ n28_ n29_
      refine start_ (n := 25) (S := fun w' => True) (ds := []) #[false, false, false, false, false, false, false, false, false, false, false, false, false, false, false, false, false, false, false, false, false, false, false, false, false] (by kernel_rfl) rfl rfl trivial (fun hHeld => ?_); refine with_tabW cellarerlaw06_IndexTurns.tab7 cellarerlaw06_IndexTurns.bits7 (fun HT_ HW_ => ?_)
      generalize w39.drew = w47 at HO1_1 HO2_1 HO228 HO231 HO234 HO237 HO240 HL241_1 HL242_1 HO245 HL247_1 HL248_1 HO251 HL253_1 HL254_1 HO257 HL259_1 HL260_1 HO263 BK224 BK225 HR241_1 HR242_1 HR247_1 HR248_1 HR253_1 HR254_1 HR259_1 HR260_1 HB hHeld ⊢
      refine pure_ (i := 0) (N := some 75) (v := ?_) (a' := ?_) #[true, false, false, false, false, false, false, false, false, false, false, false, false, false, false, false, false, false, false, false, false, false, false, false, false] rfl rfl (any_of HT_.out (by kernel_rfl)) (fun _ _ _ h => h) (Or.inl ⟨by rfl, ?_⟩) ?_ ?_
      rotate_left
      ·intro w'
       go_simp
       with_reducible rfl
      rotate_left
      ·simp only [Act.put, List.setIfInBounds_toArray, List.set_cons_zero, List.set_cons_succ, i64_w, i32_w]
       rfl
      refine pure_ (i := 1) (N := some 76) (v := ?_) (a' := ?_) #[true, true, false, false, false, false, false, false, false, false, false, false, false, false, false, false, false, false, false, false, false, false, false, false, false] rfl rfl (any_of HT_.out (by kernel_rfl)) (fun _ _ _ h => h) (Or.inl ⟨by rfl, ?_⟩) ?_ ?_
      rotate_left
      ·intro w'
       go_simp
       with_reducible rfl
      rotate_left
      ·simp only [Act.put, List.setIfInBounds_toArray, List.set_cons_zero, List.set_cons_succ, i64_w, i32_w]
       rfl
      refine pure_ (i := 2) (N := some 77) (v := ?_) (a' := ?_) #[true, true, true, false, false, false, false, false, false, false, false, false, false, false, false, false, false, false, false, false, false, false, false, false, false] rfl rfl (any_of HT_.out (by kernel_rfl)) (fun _ _ _ h => h) (Or.inl ⟨by rfl, ?_⟩) ?_ ?_
      rotate_left
      ·intro w'
       go_simp
       with_reducible rfl
      rotate_left
      ·simp only [Act.put, List.setIfInBounds_toArray, List.set_cons_zero, List.set_cons_succ, i64_w, i32_w]
       rfl
      refine pure_ (i := 3) (N := some 78) (v := ?_) (a' := ?_) #[true, true, true, true, false, false, false, false, false, false, false, false, false, false, false, false, false, false, false, false, false, false, false, false, false] rfl rfl (any_of HT_.out (by kernel_rfl)) (fun _ _ _ h => h) (Or.inl ⟨by rfl, ?_⟩) ?_ ?_
      rotate_left
      ·intro w'
       go_simp
       with_reducible rfl
      rotate_left
      ·simp only [Act.put, List.setIfInBounds_toArray, List.set_cons_zero, List.set_cons_succ, i64_w, i32_w]
       rfl
      refine pure_ (i := 4) (N := some 79) (v := ?_) (a' := ?_) #[true, true, true, true, true, false, false, false, false, false, false, false, false, false, false, false, false, false, false, false, false, false, false, false, false] rfl rfl (any_of HT_.out (by kernel_rfl)) (fun _ _ _ h => h) (Or.inl ⟨by rfl, ?_⟩) ?_ ?_
      rotate_left
      ·intro w'
       go_simp
       with_reducible rfl
      rotate_left
      ·simp only [Act.put, List.setIfInBounds_toArray, List.set_cons_zero, List.set_cons_succ, i64_w, i32_w]
       rfl
      refine pure_ (i := 5) (N := some 80) (v := ?_) (a' := ?_) #[true, true, true, true, true, true, false, false, false, false, false, false, false, false, false, false, false, false, false, false, false, false, false, false, false] rfl rfl (any_of HT_.out (by kernel_rfl)) (fun _ _ _ h => h) (Or.inl ⟨by rfl, ?_⟩) ?_ ?_
      rotate_left
      ·intro w'
       go_simp
       with_reducible rfl
      rotate_left
      ·simp only [Act.put, List.setIfInBounds_toArray, List.set_cons_zero, List.set_cons_succ, i64_w, i32_w]
       rfl
      refine pure_ (i := 6) (N := some 81) (v := ?_) (a' := ?_) #[true, true, true, true, true, true, true, false, false, false, false, false, false, false, false, false, false, false, false, false, false, false, false, false, false] rfl rfl (any_of HT_.out (by kernel_rfl)) (fun _ _ _ h => h) (Or.inl ⟨by rfl, ?_⟩) ?_ ?_
      rotate_left
      ·intro w'
       go_simp
       with_reducible rfl
      rotate_left
      ·simp only [Act.put, List.setIfInBounds_toArray, List.set_cons_zero, List.set_cons_succ, i64_w, i32_w]
       rfl
      refine pure_ (i := 7) (N := some 82) (v := undef) (a' := ?_) #[true, true, true, true, true, true, true, true, false, false, false, false, false, false, false, false, false, false, false, false, false, false, false, false, false] rfl rfl (any_of HT_.out (by kernel_rfl)) (fun _ _ _ h => h) (Or.inr ⟨by rfl, rfl⟩) ?_ ?_
      rotate_left
      ·simp only [Act.put, List.setIfInBounds_toArray, List.set_cons_zero, List.set_cons_succ, i64_w, i32_w]
       rfl
      refine pure_ (i := 8) (N := some 83) (v := undef) (a' := ?_) #[true, true, true, true, true, true, true, true, true, false, false, false, false, false, false, false, false, false, false, false, false, false, false, false, false] rfl rfl (any_of HT_.out (by kernel_rfl)) (fun _ _ _ h => h) (Or.inr ⟨by rfl, rfl⟩) ?_ ?_
      rotate_left
      ·simp only [Act.put, List.setIfInBounds_toArray, List.set_cons_zero, List.set_cons_succ, i64_w, i32_w]
       rfl
      refine pure_ (i := 9) (N := some 84) (v := ?_) (a' := ?_) #[true, true, true, true, true, true, true, true, true, true, false, false, false, false, false, false, false, false, false, false, false, false, false, false, false] rfl rfl (any_of HT_.out (by kernel_rfl)) (fun _ _ _ h => h) (Or.inl ⟨by rfl, ?_⟩) ?_ ?_
      rotate_left
      ·intro w'
       go_simp
       with_reducible rfl
      rotate_left
      ·simp only [Act.put, List.setIfInBounds_toArray, List.set_cons_zero, List.set_cons_succ, i64_w, i32_w]
       rfl
      refine pure_ (i := 10) (N := some 85) (v := ?_) (a' := ?_) #[true, true, true, true, true, true, true, true, true, true, true, false, false, false, false, false, false, false, false, false, false, false, false, false, false] rfl rfl (any_of HT_.out (by kernel_rfl)) (fun _ _ _ h => h) (Or.inl ⟨by rfl, ?_⟩) ?_ ?_
      rotate_left
      ·intro w'
       go_simp
       with_reducible rfl
      rotate_left
      ·simp only [Act.put, List.setIfInBounds_toArray, List.set_cons_zero, List.set_cons_succ, i64_w, i32_w]
       rfl
      refine pure_ (i := 11) (N := some 86) (v := undef) (a' := ?_) #[true, true, true, true, true, true, true, true, true, true, true, true, false, false, false, false, false, false, false, false, false, false, false, false, false] rfl rfl (any_of HT_.out (by kernel_rfl)) (fun _ _ _ h => h) (Or.inr ⟨by rfl, rfl⟩) ?_ ?_
      rotate_left
      ·simp only [Act.put, List.setIfInBounds_toArray, List.set_cons_zero, List.set_cons_succ, i64_w, i32_w]
       rfl
      refine pure_ (i := 12) (N := some 87) (v := undef) (a' := ?_) #[true, true, true, true, true, true, true, true, true, true, true, true, true, false, false, false, false, false, false, false, false, false, false, false, false] rfl rfl (any_of HT_.out (by kernel_rfl)) (fun _ _ _ h => h) (Or.inr ⟨by rfl, rfl⟩) ?_ ?_
      rotate_left
      ·simp only [Act.put, List.setIfInBounds_toArray, List.set_cons_zero, List.set_cons_succ, i64_w, i32_w]
       rfl
      refine pure_ (i := 13) (N := some 88) (v := ?_) (a' := ?_) #[true, true, true, true, true, true, true, true, true, true, true, true, true, true, false, false, false, false, false, false, false, false, false, false, false] rfl rfl (any_of HT_.out (by kernel_rfl)) (fun _ _ _ h => h) (Or.inl ⟨by rfl, ?_⟩) ?_ ?_
      rotate_left
      ·intro w'
       go_simp
       with_reducible rfl
      rotate_left
      ·simp only [Act.put, List.setIfInBounds_toArray, List.set_cons_zero, List.set_cons_succ, i64_w, i32_w]
       rfl
      refine pure_ (i := 14) (N := some 89) (v := ?_) (a' := ?_) #[true, true, true, true, true, true, true, true, true, true, true, true, true, true, true, false, false, false, false, false, false, false, false, false, false] rfl rfl (any_of HT_.out (by kernel_rfl)) (fun _ _ _ h => h) (Or.inl ⟨by rfl, ?_⟩) ?_ ?_
      rotate_left
      ·intro w'
       go_simp
       with_reducible rfl
      rotate_left
      ·simp only [Act.put, List.setIfInBounds_toArray, List.set_cons_zero, List.set_cons_succ, i64_w, i32_w]
       rfl
      refine pure_ (i := 15) (N := some 90) (v := undef) (a' := ?_) #[true, true, true, true, true, true, true, true, true, true, true, true, true, true, true, true, false, false, false, false, false, false, false, false, false] rfl rfl (any_of HT_.out (by kernel_rfl)) (fun _ _ _ h => h) (Or.inr ⟨by rfl, rfl⟩) ?_ ?_
      rotate_left
      ·simp only [Act.put, List.setIfInBounds_toArray, List.set_cons_zero, List.set_cons_succ, i64_w, i32_w]
       rfl
      refine pure_ (i := 16) (N := some 91) (v := undef) (a' := ?_) #[true, true, true, true, true, true, true, true, true, true, true, true, true, true, true, true, true, false, false, false, false, false, false, false, false] rfl rfl (any_of HT_.out (by kernel_rfl)) (fun _ _ _ h => h) (Or.inr ⟨by rfl, rfl⟩) ?_ ?_
      rotate_left
      ·simp only [Act.put, List.setIfInBounds_toArray, List.set_cons_zero, List.set_cons_succ, i64_w, i32_w]
       rfl
      refine pure_ (i := 17) (N := some 92) (v := undef) (a' := ?_) #[true, true, true, true, true, true, true, true, true, true, true, true, true, true, true, true, true, true, false, false, false, false, false, false, false] rfl rfl (any_of HT_.out (by kernel_rfl)) (fun _ _ _ h => h) (Or.inr ⟨by rfl, rfl⟩) ?_ ?_
      rotate_left
      ·simp only [Act.put, List.setIfInBounds_toArray, List.set_cons_zero, List.set_cons_succ, i64_w, i32_w]
       rfl
      refine pure_ (i := 18) (N := some 93) (v := undef) (a' := ?_) #[true, true, true, true, true, true, true, true, true, true, true, true, true, true, true, true, true, true, true, false, false, false, false, false, false] rfl rfl (any_of HT_.out (by kernel_rfl)) (fun _ _ _ h => h) (Or.inr ⟨by rfl, rfl⟩) ?_ ?_
      rotate_left
      ·simp only [Act.put, List.setIfInBounds_toArray, List.set_cons_zero, List.set_cons_succ, i64_w, i32_w]
       rfl
      refine pure_ (i := 19) (N := some 94) (v := undef) (a' := ?_) #[true, true, true, true, true, true, true, true, true, true, true, true, true, true, true, true, true, true, true, true, false, false, false, false, false] rfl rfl (any_of HT_.out (by kernel_rfl)) (fun _ _ _ h => h) (Or.inr ⟨by rfl, rfl⟩) ?_ ?_
      rotate_left
      ·simp only [Act.put, List.setIfInBounds_toArray, List.set_cons_zero, List.set_cons_succ, i64_w, i32_w]
       rfl
      refine pure_ (i := 20) (N := some 95) (v := undef) (a' := ?_) #[true, true, true, true, true, true, true, true, true, true, true, true, true, true, true, true, true, true, true, true, true, false, false, false, false] rfl rfl (any_of HT_.out (by kernel_rfl)) (fun _ _ _ h => h) (Or.inr ⟨by rfl, rfl⟩) ?_ ?_
      rotate_left
      ·simp only [Act.put, List.setIfInBounds_toArray, List.set_cons_zero, List.set_cons_succ, i64_w, i32_w]
       rfl
      refine pure_ (i := 21) (N := some 96) (v := undef) (a' := ?_) #[true, true, true, true, true, true, true, true, true, true, true, true, true, true, true, true, true, true, true, true, true, true, false, false, false] rfl rfl (any_of HT_.out (by kernel_rfl)) (fun _ _ _ h => h) (Or.inr ⟨by rfl, rfl⟩) ?_ ?_
      rotate_left
      ·simp only [Act.put, List.setIfInBounds_toArray, List.set_cons_zero, List.set_cons_succ, i64_w, i32_w]
       rfl
      refine pure_ (i := 22) (N := some 97) (v := undef) (a' := ?_) #[true, true, true, true, true, true, true, true, true, true, true, true, true, true, true, true, true, true, true, true, true, true, true, false, false] rfl rfl (any_of HT_.out (by kernel_rfl)) (fun _ _ _ h => h) (Or.inr ⟨by rfl, rfl⟩) ?_ ?_
      rotate_left
      ·simp only [Act.put, List.setIfInBounds_toArray, List.set_cons_zero, List.set_cons_succ, i64_w, i32_w]
       rfl
      refine pure_ (i := 23) (N := some 98) (v := undef) (a' := ?_) #[true, true, true, true, true, true, true, true, true, true, true, true, true, true, true, true, true, true, true, true, true, true, true, true, false] rfl rfl (any_of HT_.out (by kernel_rfl)) (fun _ _ _ h => h) (Or.inr ⟨by rfl, rfl⟩) ?_ ?_
      rotate_left
      ·simp only [Act.put, List.setIfInBounds_toArray, List.set_cons_zero, List.set_cons_succ, i64_w, i32_w]
       rfl
      refine pure_ (i := 24) (N := some 99) (v := ?_) (a' := ?_) #[true, true, true, true, true, true, true, true, true, true, true, true, true, true, true, true, true, true, true, true, true, true, true, true, true] rfl rfl (any_of HT_.out (by kernel_rfl)) (fun _ _ _ h => h) (Or.inl ⟨by rfl, ?_⟩) ?_ ?_
      rotate_left
      ·intro w'
       go_simp
       with_reducible rfl
      rotate_left
      ·simp only [Act.put, List.setIfInBounds_toArray, List.set_cons_zero, List.set_cons_succ, i64_w, i32_w]
       rfl
      refine done_ (done_of HT_.out (by kernel_rfl)) ?_
      try go_wp2
      go_meet
      case rel => exact ⟨_, (true), (by first | rfl | (simp; done) | (simp [*]; done)), H', ⟨by first | omega | exact Nat.le_refl _⟩, ⟨by (with_reducible repeat (first | apply Kd.V_alloc | apply Kd.V_drewN | apply Kd.V_drew)); exact Kd.V_mono HO251.out (fun _ hk => by first | exact hk | (simp only [hk, ne_eq, not_false_eq_true, and_self, true_and, and_true, or_true, true_or]; done) | (simp only [ne_eq, and_assoc] at hk ⊢; simp only [hk, not_false_eq_true, and_self, true_and, and_true]))⟩, ⟨by (with_reducible repeat (first | apply Kd.V_alloc | apply Kd.V_drewN | apply Kd.V_drew)); exact Kd.V_mono HO263.out (fun _ hk => by first | exact hk | (simp only [hk, ne_eq, not_false_eq_true, and_self, true_and, and_true, or_true, true_or]; done) | (simp only [ne_eq, and_assoc] at hk ⊢; simp only [hk, not_false_eq_true, and_self, true_and, and_true]))⟩, ⟨by (with_reducible repeat (first | apply Kd.V_alloc | apply Kd.V_drewN | apply Kd.V_drew)); exact Kd.V_mono HO1_1.out (fun _ hk => by first | exact hk | (simp only [hk, ne_eq, not_false_eq_true, and_self, true_and, and_true, or_true, true_or]; done) | (simp only [ne_eq, and_assoc] at hk ⊢; simp only [hk, not_false_eq_true, and_self, true_and, and_true]))⟩, ⟨by (with_reducible repeat (first | apply Kd.V_alloc | apply Kd.V_drewN | apply Kd.V_drew)); exact Kd.V_mono HO2_1.out (fun _ hk => by first | exact hk | (simp only [hk, ne_eq, not_false_eq_true, and_self, true_and, and_true, or_true, true_or]; done) | (simp only [ne_eq, and_assoc] at hk ⊢; simp only [hk, not_false_eq_true, and_self, true_and, and_true]))⟩, ⟨by (with_reducible repeat (first | refine blk_drewN ?_ _ | refine blk_drew ?_ | refine blk_alloc ?_ _)); exact BK224.out⟩, ⟨by (with_reducible repeat (first | refine blk_drewN ?_ _ | refine blk_drew ?_ | refine blk_alloc ?_ _)); exact BK225.out⟩, ⟨by repeat (first | (with_reducible exact HR241_1.out) | (with_reducible refine Kd.C_alloc ?_ _) | (with_reducible refine Kd.C_drewN ?_ _) | (with_reducible refine Kd.C_drew ?_) | exact HR241_1.out)⟩, ⟨by repeat (first | (with_reducible exact HR242_1.out) | (with_reducible refine Kd.C_alloc ?_ _) | (with_reducible refine Kd.C_drewN ?_ _) | (with_reducible refine Kd.C_drew ?_) | exact HR242_1.out)⟩, ⟨by repeat (first | (with_reducible exact HR247_1.out) | (with_reducible refine Kd.C_alloc ?_ _) | (with_reducible refine Kd.C_drewN ?_ _) | (with_reducible refine Kd.C_drew ?_) | exact HR247_1.out)⟩, ⟨by repeat (first | (with_reducible exact HR248_1.out) | (with_reducible refine Kd.C_alloc ?_ _) | (with_reducible refine Kd.C_drewN ?_ _) | (with_reducible refine Kd.C_drew ?_) | exact HR248_1.out)⟩, ⟨by repeat (first | (with_reducible exact HR253_1.out) | (with_reducible refine Kd.C_alloc ?_ _) | (with_reducible refine Kd.C_drewN ?_ _) | (with_reducible refine Kd.C_drew ?_) | exact HR253_1.out)⟩, ⟨by repeat (first | (with_reducible exact HR254_1.out) | (with_reducible refine Kd.C_alloc ?_ _) | (with_reducible refine Kd.C_drewN ?_ _) | (with_reducible refine Kd.C_drew ?_) | exact HR254_1.out)⟩, ⟨by repeat (first | (with_reducible exact HR259_1.out) | (with_reducible refine Kd.C_alloc ?_ _) | (with_reducible refine Kd.C_drewN ?_ _) | (with_reducible refine Kd.C_drew ?_) | exact HR259_1.out)⟩, ⟨by repeat (first | (with_reducible exact HR260_1.out) | (with_reducible refine Kd.C_alloc ?_ _) | (with_reducible refine Kd.C_drewN ?_ _) | (with_reducible refine Kd.C_drew ?_) | exact HR260_1.out)⟩, ⟨by repeat (first | (with_reducible first | exact HB.out | apply below_alloc | apply pw_below_drewN | apply below_drew1 | refine below_set ?_ GE224.out | refine below_set ?_ GE225.out) | exact HB.out)⟩⟩
    ·rw [if_neg c40] at H
     have c40b0 : (t246 == 0) = false := beq_eq_false_iff_ne.mpr c40
     have c40b1 : (t246 != 0) = true := bne_iff_ne.mpr c40
     (first | rw [c40b0] | rw [c40b1] | (simp only [i64_w, i32_w]; rw [c40b0]) | skip)
     have H' := Aside0.mk H
     clear H
     try go_wp2
     have n0_ := Aside0.mk (Kd.V_drew HO1_1.out)
     have n1_ := Aside0.mk (Kd.V_drew HO2_1.out)
     have n2_ := Aside0.mk (Kd.N_drew HO228.out)
     have n3_ := Aside0.mk (Kd.N_drew HO231.out)
     have n4_ := Aside0.mk (Kd.N_drew HO234.out)
     have n5_ := Aside0.mk (Kd.N_drew HO237.out)
     have n6_ := Aside0.mk (Kd.N_drew HO240.out)
     have n7_ := Aside0.mk (Kd.V_drew HL241_1.out)
     have n8_ := Aside0.mk (Kd.V_drew HL242_1.out)
     have n9_ := Aside0.mk (Kd.V_drew HO245.out)
     have n10_ := Aside0.mk (Kd.V_drew HL247_1.out)
     have n11_ := Aside0.mk (Kd.V_drew HL248_1.out)
     have n12_ := Aside0.mk (Kd.V_drew HO251.out)
     have n13_ := Aside0.mk (Kd.V_drew HL253_1.out)
     have n14_ := Aside0.mk (Kd.V_drew HL254_1.out)
     have n15_ := Aside0.mk (Kd.V_drew HO257.out)
     have n16_ := Aside0.mk (Kd.V_drew HL259_1.out)
     have n17_ := Aside0.mk (Kd.V_drew HL260_1.out)
     have n18_ := Aside0.mk (Kd.V_drew HO263.out)
     have n19_ := Aside0.mk (blk_drew BK224.out)
     have n20_ := Aside0.mk (blk_drew BK225.out)
     have n21_ := Aside0.mk (Kd.C_drew HR241_1.out)
     have n22_ := Aside0.mk (Kd.C_drew HR242_1.out)
     have n23_ := Aside0.mk (Kd.C_drew HR247_1.out)
     have n24_ := Aside0.mk (Kd.C_drew HR248_1.out)
     have n25_ := Aside0.mk (Kd.C_drew HR253_1.out)
     have n26_ := Aside0.mk (Kd.C_drew HR254_1.out)
     have n27_ := Aside0.mk (Kd.C_drew HR259_1.out)
     have n28_ := Aside0.mk (Kd.C_drew HR260_1.out)
     have n29_ := Aside0.mk (below_drew1 HB.out)
     clear HO1_1
     clear HO2_1
     clear HO228
     clear HO231
     clear HO234
     clear HO237
     clear HO240
     clear HL241_1
     clear HL242_1
     clear HO245
     clear HL247_1
     clear HL248_1
     clear HO251
     clear HL253_1
     clear HL254_1
     clear HO257
     clear HL259_1
     clear HL260_1
     clear HO263
     clear BK224
     clear BK225
     clear HR241_1
     clear HR242_1
     clear HR247_1
     clear HR248_1
     clear HR253_1
     clear HR254_1
     clear HR259_1
     clear HR260_1
     clear HB
     have HO1_1 := n0_
     have HO2_1 := n1_
     have HO228 := n2_
     have HO231 := n3_
     have HO234 := n4_
     have HO237 := n5_
     have HO240 := n6_
     have HL241_1 := n7_
     have HL242_1 := n8_
     have HO245 := n9_
     have HL247_1 := n10_
     have HL248_1 := n11_
     have HO251 := n12_
     have HL253_1 := n13_
     have HL254_1 := n14_
     have HO257 := n15_
     have HL259_1 := n16_
     have HL260_1 := n17_
     have HO263 := n18_
     have BK224 := n19_
     have BK225 := n20_
     have HR241_1 := n21_
     have HR242_1 := n22_
     have HR247_1 := n23_
     have HR248_1 := n24_
     have HR253_1 := n25_
     have HR254_1 := n26_
     have HR259_1 := n27_
     have HR260_1 := n28_
     have HB := n29_
     clear n0_ n1_ n2_ n3_ n4_ n5_ n6_ n7_ n8_ n9_ n10_ n11_ n12_ n13_ n14_ n15_ n16_ n17_ n18_ n19_ n20_ n21_ n22_ n23_ n24_ n25_ n26_ n27_ n28_ n29_
     refine start_ (n := 25) (S := fun w' => True) (ds := []) #[false, false, false, false, false, false, false, false, false, false, false, false, false, false, false, false, false, false, false, false, false, false, false, false, false] (by kernel_rfl) rfl rfl trivial (fun hHeld => ?_); refine with_tabW cellarerlaw06_IndexTurns.tab7 cellarerlaw06_IndexTurns.bits7 (fun HT_ HW_ => ?_)
     generalize w39.drew = w48 at HO1_1 HO2_1 HO228 HO231 HO234 HO237 HO240 HL241_1 HL242_1 HO245 HL247_1 HL248_1 HO251 HL253_1 HL254_1 HO257 HL259_1 HL260_1 HO263 BK224 BK225 HR241_1 HR242_1 HR247_1 HR248_1 HR253_1 HR254_1 HR259_1 HR260_1 HB hHeld ⊢
     refine pure_ (i := 0) (N := some 75) (v := ?_) (a' := ?_) #[true, false, false, false, false, false, false, false, false, false, false, false, false, false, false, false, false, false, false, false, false, false, false, false, false] rfl rfl (any_of HT_.out (by kernel_rfl)) (fun _ _ _ h => h) (Or.inl ⟨by rfl, ?_⟩) ?_ ?_
     rotate_left
     ·intro w'
      go_simp
      with_reducible rfl
     rotate_left
     ·simp only [Act.put, List.setIfInBounds_toArray, List.set_cons_zero, List.set_cons_succ, i64_w, i32_w]
      rfl
     refine pure_ (i := 1) (N := some 76) (v := ?_) (a' := ?_) #[true, true, false, false, false, false, false, false, false, false, false, false, false, false, false, false, false, false, false, false, false, false, false, false, false] rfl rfl (any_of HT_.out (by kernel_rfl)) (fun _ _ _ h => h) (Or.inl ⟨by rfl, ?_⟩) ?_ ?_
     rotate_left
     ·intro w'
      go_simp
      with_reducible rfl
     rotate_left
     ·simp only [Act.put, List.setIfInBounds_toArray, List.set_cons_zero, List.set_cons_succ, i64_w, i32_w]
      rfl
     refine pure_ (i := 2) (N := some 77) (v := ?_) (a' := ?_) #[true, true, true, false, false, false, false, false, false, false, false, false, false, false, false, false, false, false, false, false, false, false, false, false, false] rfl rfl (any_of HT_.out (by kernel_rfl)) (fun _ _ _ h => h) (Or.inl ⟨by rfl, ?_⟩) ?_ ?_
     rotate_left
     ·intro w'
      go_simp
      with_reducible rfl
     rotate_left
     ·simp only [Act.put, List.setIfInBounds_toArray, List.set_cons_zero, List.set_cons_succ, i64_w, i32_w]
      rfl
     refine pure_ (i := 3) (N := some 78) (v := undef) (a' := ?_) #[true, true, true, true, false, false, false, false, false, false, false, false, false, false, false, false, false, false, false, false, false, false, false, false, false] rfl rfl (any_of HT_.out (by kernel_rfl)) (fun _ _ _ h => h) (Or.inr ⟨by rfl, rfl⟩) ?_ ?_
     rotate_left
     ·simp only [Act.put, List.setIfInBounds_toArray, List.set_cons_zero, List.set_cons_succ, i64_w, i32_w]
      rfl
     refine pure_ (i := 4) (N := some 79) (v := undef) (a' := ?_) #[true, true, true, true, true, false, false, false, false, false, false, false, false, false, false, false, false, false, false, false, false, false, false, false, false] rfl rfl (any_of HT_.out (by kernel_rfl)) (fun _ _ _ h => h) (Or.inr ⟨by rfl, rfl⟩) ?_ ?_
     rotate_left
     ·simp only [Act.put, List.setIfInBounds_toArray, List.set_cons_zero, List.set_cons_succ, i64_w, i32_w]
      rfl
     refine pure_ (i := 5) (N := some 80) (v := ?_) (a' := ?_) #[true, true, true, true, true, true, false, false, false, false, false, false, false, false, false, false, false, false, false, false, false, false, false, false, false] rfl rfl (any_of HT_.out (by kernel_rfl)) (fun _ _ _ h => h) (Or.inl ⟨by rfl, ?_⟩) ?_ ?_
     rotate_left
     ·intro w'
      go_simp
      with_reducible rfl
     rotate_left
     ·simp only [Act.put, List.setIfInBounds_toArray, List.set_cons_zero, List.set_cons_succ, i64_w, i32_w]
      rfl
     refine pure_ (i := 6) (N := some 81) (v := ?_) (a' := ?_) #[true, true, true, true, true, true, true, false, false, false, false, false, false, false, false, false, false, false, false, false, false, false, false, false, false] rfl rfl (any_of HT_.out (by kernel_rfl)) (fun _ _ _ h => h) (Or.inl ⟨by rfl, ?_⟩) ?_ ?_
     rotate_left
     ·intro w'
      go_simp
      with_reducible rfl
     rotate_left
     ·simp only [Act.put, List.setIfInBounds_toArray, List.set_cons_zero, List.set_cons_succ, i64_w, i32_w]
      rfl
     refine pure_ (i := 7) (N := some 82) (v := undef) (a' := ?_) #[true, true, true, true, true, true, true, true, false, false, false, false, false, false, false, false, false, false, false, false, false, false, false, false, false] rfl rfl (any_of HT_.out (by kernel_rfl)) (fun _ _ _ h => h) (Or.inr ⟨by rfl, rfl⟩) ?_ ?_
     rotate_left
     ·simp only [Act.put, List.setIfInBounds_toArray, List.set_cons_zero, List.set_cons_succ, i64_w, i32_w]
      rfl
     refine pure_ (i := 8) (N := some 83) (v := undef) (a' := ?_) #[true, true, true, true, true, true, true, true, true, false, false, false, false, false, false, false, false, false, false, false, false, false, false, false, false] rfl rfl (any_of HT_.out (by kernel_rfl)) (fun _ _ _ h => h) (Or.inr ⟨by rfl, rfl⟩) ?_ ?_
     rotate_left
     ·simp only [Act.put, List.setIfInBounds_toArray, List.set_cons_zero, List.set_cons_succ, i64_w, i32_w]
      rfl
     refine pure_ (i := 9) (N := some 84) (v := ?_) (a' := ?_) #[true, true, true, true, true, true, true, true, true, true, false, false, false, false, false, false, false, false, false, false, false, false, false, false, false] rfl rfl (any_of HT_.out (by kernel_rfl)) (fun _ _ _ h => h) (Or.inl ⟨by rfl, ?_⟩) ?_ ?_
     rotate_left
     ·intro w'
      go_simp
      with_reducible rfl
     rotate_left
     ·simp only [Act.put, List.setIfInBounds_toArray, List.set_cons_zero, List.set_cons_succ, i64_w, i32_w]
      rfl
     refine pure_ (i := 10) (N := some 85) (v := ?_) (a' := ?_) #[true, true, true, true, true, true, true, true, true, true, true, false, false, false, false, false, false, false, false, false, false, false, false, false, false] rfl rfl (any_of HT_.out (by kernel_rfl)) (fun _ _ _ h => h) (Or.inl ⟨by rfl, ?_⟩) ?_ ?_
     rotate_left
     ·intro w'
      go_simp
      with_reducible rfl
     rotate_left
     ·simp only [Act.put, List.setIfInBounds_toArray, List.set_cons_zero, List.set_cons_succ, i64_w, i32_w]
      rfl
     refine pure_ (i := 11) (N := some 86) (v := undef) (a' := ?_) #[true, true, true, true, true, true, true, true, true, true, true, true, false, false, false, false, false, false, false, false, false, false, false, false, false] rfl rfl (any_of HT_.out (by kernel_rfl)) (fun _ _ _ h => h) (Or.inr ⟨by rfl, rfl⟩) ?_ ?_
     rotate_left
     ·simp only [Act.put, List.setIfInBounds_toArray, List.set_cons_zero, List.set_cons_succ, i64_w, i32_w]
      rfl
     refine pure_ (i := 12) (N := some 87) (v := undef) (a' := ?_) #[true, true, true, true, true, true, true, true, true, true, true, true, true, false, false, false, false, false, false, false, false, false, false, false, false] rfl rfl (any_of HT_.out (by kernel_rfl)) (fun _ _ _ h => h) (Or.inr ⟨by rfl, rfl⟩) ?_ ?_
     rotate_left
     ·simp only [Act.put, List.setIfInBounds_toArray, List.set_cons_zero, List.set_cons_succ, i64_w, i32_w]
      rfl
     refine pure_ (i := 13) (N := some 88) (v := ?_) (a' := ?_) #[true, true, true, true, true, true, true, true, true, true, true, true, true, true, false, false, false, false, false, false, false, false, false, false, false] rfl rfl (any_of HT_.out (by kernel_rfl)) (fun _ _ _ h => h) (Or.inl ⟨by rfl, ?_⟩) ?_ ?_
     rotate_left
     ·intro w'
      go_simp
      with_reducible rfl
     rotate_left
     ·simp only [Act.put, List.setIfInBounds_toArray, List.set_cons_zero, List.set_cons_succ, i64_w, i32_w]
      rfl
     refine pure_ (i := 14) (N := some 89) (v := ?_) (a' := ?_) #[true, true, true, true, true, true, true, true, true, true, true, true, true, true, true, false, false, false, false, false, false, false, false, false, false] rfl rfl (any_of HT_.out (by kernel_rfl)) (fun _ _ _ h => h) (Or.inl ⟨by rfl, ?_⟩) ?_ ?_
     rotate_left
     ·intro w'
      go_simp
      with_reducible rfl
     rotate_left
     ·simp only [Act.put, List.setIfInBounds_toArray, List.set_cons_zero, List.set_cons_succ, i64_w, i32_w]
      rfl
     refine pure_ (i := 15) (N := some 90) (v := undef) (a' := ?_) #[true, true, true, true, true, true, true, true, true, true, true, true, true, true, true, true, false, false, false, false, false, false, false, false, false] rfl rfl (any_of HT_.out (by kernel_rfl)) (fun _ _ _ h => h) (Or.inr ⟨by rfl, rfl⟩) ?_ ?_
     rotate_left
     ·simp only [Act.put, List.setIfInBounds_toArray, List.set_cons_zero, List.set_cons_succ, i64_w, i32_w]
      rfl
     refine pure_ (i := 16) (N := some 91) (v := undef) (a' := ?_) #[true, true, true, true, true, true, true, true, true, true, true, true, true, true, true, true, true, false, false, false, false, false, false, false, false] rfl rfl (any_of HT_.out (by kernel_rfl)) (fun _ _ _ h => h) (Or.inr ⟨by rfl, rfl⟩) ?_ ?_
     rotate_left
     ·simp only [Act.put, List.setIfInBounds_toArray, List.set_cons_zero, List.set_cons_succ, i64_w, i32_w]
      rfl
     refine pure_ (i := 17) (N := some 92) (v := undef) (a' := ?_) #[true, true, true, true, true, true, true, true, true, true, true, true, true, true, true, true, true, true, false, false, false, false, false, false, false] rfl rfl (any_of HT_.out (by kernel_rfl)) (fun _ _ _ h => h) (Or.inr ⟨by rfl, rfl⟩) ?_ ?_
     rotate_left
     ·simp only [Act.put, List.setIfInBounds_toArray, List.set_cons_zero, List.set_cons_succ, i64_w, i32_w]
      rfl
     refine pure_ (i := 18) (N := some 93) (v := undef) (a' := ?_) #[true, true, true, true, true, true, true, true, true, true, true, true, true, true, true, true, true, true, true, false, false, false, false, false, false] rfl rfl (any_of HT_.out (by kernel_rfl)) (fun _ _ _ h => h) (Or.inr ⟨by rfl, rfl⟩) ?_ ?_
     rotate_left
     ·simp only [Act.put, List.setIfInBounds_toArray, List.set_cons_zero, List.set_cons_succ, i64_w, i32_w]
      rfl
     refine pure_ (i := 19) (N := some 94) (v := undef) (a' := ?_) #[true, true, true, true, true, true, true, true, true, true, true, true, true, true, true, true, true, true, true, true, false, false, false, false, false] rfl rfl (any_of HT_.out (by kernel_rfl)) (fun _ _ _ h => h) (Or.inr ⟨by rfl, rfl⟩) ?_ ?_
     rotate_left
     ·simp only [Act.put, List.setIfInBounds_toArray, List.set_cons_zero, List.set_cons_succ, i64_w, i32_w]
      rfl
     refine pure_ (i := 20) (N := some 95) (v := undef) (a' := ?_) #[true, true, true, true, true, true, true, true, true, true, true, true, true, true, true, true, true, true, true, true, true, false, false, false, false] rfl rfl (any_of HT_.out (by kernel_rfl)) (fun _ _ _ h => h) (Or.inr ⟨by rfl, rfl⟩) ?_ ?_
     rotate_left
     ·simp only [Act.put, List.setIfInBounds_toArray, List.set_cons_zero, List.set_cons_succ, i64_w, i32_w]
      rfl
     refine pure_ (i := 21) (N := some 96) (v := undef) (a' := ?_) #[true, true, true, true, true, true, true, true, true, true, true, true, true, true, true, true, true, true, true, true, true, true, false, false, false] rfl rfl (any_of HT_.out (by kernel_rfl)) (fun _ _ _ h => h) (Or.inr ⟨by rfl, rfl⟩) ?_ ?_
     rotate_left
     ·simp only [Act.put, List.setIfInBounds_toArray, List.set_cons_zero, List.set_cons_succ, i64_w, i32_w]
      rfl
     refine pure_ (i := 22) (N := some 97) (v := undef) (a' := ?_) #[true, true, true, true, true, true, true, true, true, true, true, true, true, true, true, true, true, true, true, true, true, true, true, false, false] rfl rfl (any_of HT_.out (by kernel_rfl)) (fun _ _ _ h => h) (Or.inr ⟨by rfl, rfl⟩) ?_ ?_
     rotate_left
     ·simp only [Act.put, List.setIfInBounds_toArray, List.set_cons_zero, List.set_cons_succ, i64_w, i32_w]
      rfl
     refine pure_ (i := 23) (N := some 98) (v := undef) (a' := ?_) #[true, true, true, true, true, true, true, true, true, true, true, true, true, true, true, true, true, true, true, true, true, true, true, true, false] rfl rfl (any_of HT_.out (by kernel_rfl)) (fun _ _ _ h => h) (Or.inr ⟨by rfl, rfl⟩) ?_ ?_
     rotate_left
     ·simp only [Act.put, List.setIfInBounds_toArray, List.set_cons_zero, List.set_cons_succ, i64_w, i32_w]
      rfl
     refine pure_ (i := 24) (N := some 99) (v := ?_) (a' := ?_) #[true, true, true, true, true, true, true, true, true, true, true, true, true, true, true, true, true, true, true, true, true, true, true, true, true] rfl rfl (any_of HT_.out (by kernel_rfl)) (fun _ _ _ h => h) (Or.inl ⟨by rfl, ?_⟩) ?_ ?_
     rotate_left
     ·intro w'
      go_simp
      with_reducible rfl
     rotate_left
     ·simp only [Act.put, List.setIfInBounds_toArray, List.set_cons_zero, List.set_cons_succ, i64_w, i32_w]
      rfl
     refine done_ (done_of HT_.out (by kernel_rfl)) ?_
     try go_wp2
     go_meet
     case rel => exact ⟨_, (true), (by first | rfl | (simp; done) | (simp [*]; done)), H', ⟨by first | omega | exact Nat.le_refl _⟩, ⟨by (with_reducible repeat (first | apply Kd.V_alloc | apply Kd.V_drewN | apply Kd.V_drew)); exact Kd.V_mono HO251.out (fun _ hk => by first | exact hk | (simp only [hk, ne_eq, not_false_eq_true, and_self, true_and, and_true, or_true, true_or]; done) | (simp only [ne_eq, and_assoc] at hk ⊢; simp only [hk, not_false_eq_true, and_self, true_and, and_true]))⟩, ⟨by (with_reducible repeat (first | apply Kd.V_alloc | apply Kd.V_drewN | apply Kd.V_drew)); exact Kd.V_mono HO263.out (fun _ hk => by first | exact hk | (simp only [hk, ne_eq, not_false_eq_true, and_self, true_and, and_true, or_true, true_or]; done) | (simp only [ne_eq, and_assoc] at hk ⊢; simp only [hk, not_false_eq_true, and_self, true_and, and_true]))⟩, ⟨by (with_reducible repeat (first | apply Kd.V_alloc | apply Kd.V_drewN | apply Kd.V_drew)); exact Kd.V_mono HO1_1.out (fun _ hk => by first | exact hk | (simp only [hk, ne_eq, not_false_eq_true, and_self, true_and, and_true, or_true, true_or]; done) | (simp only [ne_eq, and_assoc] at hk ⊢; simp only [hk, not_false_eq_true, and_self, true_and, and_true]))⟩, ⟨by (with_reducible repeat (first | apply Kd.V_alloc | apply Kd.V_drewN | apply Kd.V_drew)); exact Kd.V_mono HO2_1.out (fun _ hk => by first | exact hk | (simp only [hk, ne_eq, not_false_eq_true, and_self, true_and, and_true, or_true, true_or]; done) | (simp only [ne_eq, and_assoc] at hk ⊢; simp only [hk, not_false_eq_true, and_self, true_and, and_true]))⟩, ⟨by (with_reducible repeat (first | refine blk_drewN ?_ _ | refine blk_drew ?_ | refine blk_alloc ?_ _)); exact BK224.out⟩, ⟨by (with_reducible repeat (first | refine blk_drewN ?_ _ | refine blk_drew ?_ | refine blk_alloc ?_ _)); exact BK225.out⟩, ⟨by repeat (first | (with_reducible exact HR241_1.out) | (with_reducible refine Kd.C_alloc ?_ _) | (with_reducible refine Kd.C_drewN ?_ _) | (with_reducible refine Kd.C_drew ?_) | exact HR241_1.out)⟩, ⟨by repeat (first | (with_reducible exact HR242_1.out) | (with_reducible refine Kd.C_alloc ?_ _) | (with_reducible refine Kd.C_drewN ?_ _) | (with_reducible refine Kd.C_drew ?_) | exact HR242_1.out)⟩, ⟨by repeat (first | (with_reducible exact HR247_1.out) | (with_reducible refine Kd.C_alloc ?_ _) | (with_reducible refine Kd.C_drewN ?_ _) | (with_reducible refine Kd.C_drew ?_) | exact HR247_1.out)⟩, ⟨by repeat (first | (with_reducible exact HR248_1.out) | (with_reducible refine Kd.C_alloc ?_ _) | (with_reducible refine Kd.C_drewN ?_ _) | (with_reducible refine Kd.C_drew ?_) | exact HR248_1.out)⟩, ⟨by repeat (first | (with_reducible exact HR253_1.out) | (with_reducible refine Kd.C_alloc ?_ _) | (with_reducible refine Kd.C_drewN ?_ _) | (with_reducible refine Kd.C_drew ?_) | exact HR253_1.out)⟩, ⟨by repeat (first | (with_reducible exact HR254_1.out) | (with_reducible refine Kd.C_alloc ?_ _) | (with_reducible refine Kd.C_drewN ?_ _) | (with_reducible refine Kd.C_drew ?_) | exact HR254_1.out)⟩, ⟨by repeat (first | (with_reducible exact HR259_1.out) | (with_reducible refine Kd.C_alloc ?_ _) | (with_reducible refine Kd.C_drewN ?_ _) | (with_reducible refine Kd.C_drew ?_) | exact HR259_1.out)⟩, ⟨by repeat (first | (with_reducible exact HR260_1.out) | (with_reducible refine Kd.C_alloc ?_ _) | (with_reducible refine Kd.C_drewN ?_ _) | (with_reducible refine Kd.C_drew ?_) | exact HR260_1.out)⟩, ⟨by repeat (first | (with_reducible first | exact HB.out | apply below_alloc | apply pw_below_drewN | apply below_drew1 | refine below_set ?_ GE224.out | refine below_set ?_ GE225.out) | exact HB.out)⟩⟩
   case rest =>
    clear HC13
    try clear p2
    try clear c4
    try clear c40
    try clear c40b0
    try clear c40b1
    try clear c41
    try clear c41b0
    try clear c41b1
    obtain ⟨kq, x99_12, rfl, HA, HJ12, HO_9, HO_12, HO_225001, HO_226001, BK224, BK225, HR241_1, HR242_1, HR247_1, HR248_1, HR253_1, HR254_1, HR259_1, HR260_1, HB⟩ := hcut
    cases kq with
    | zero => exact absurd HA.out (by simp [cellarerlaw06_IndexTurns.j0])
    | succ kj12 =>
     have H := HA.out
     clear HA
     simp only [cellarerlaw06_IndexTurns.j0] at H
     by_cases c49 : x99_12 = true
     ·subst c49
      have H1 : ((cellarerlaw06_awake.f kj12).bind fun t267 => (some t267)) = some r := by rw [if_pos rfl] at H; exact H
      clear H
      have H := H1
      clear H1
      replace H := Option.bind_eq_some_iff.mp H
      obtain ⟨t267, A500, H⟩ := H
      replace H : (some t267) = some r := H
      have A50 := Aside0.mk A500
      clear A500
      obtain rfl := Option.some.inj H
      go_wp2_with (first | ((with_reducible refine gate_callee (f := 17) rfl ?_); refine goesL_ (some 100) rfl rfl Try.func17 (by kernel_rfl) rfl #[] rfl (by (try simp only [List.map_toArray, List.map_cons, List.map_nil]); first | done | rfl | (simp only [List.length_drop, List.length_take]; rfl)) ?_; (with_reducible refine (cellarerlaw06_awake.calls kj12  t267 _ A50.out).mono ?_); rintro e w51 ⟨rfl, hb⟩; refine ⟨_, rfl, ?_⟩; have n0_ := Aside0.mk (Kd.V_below (by (with_reducible repeat (first | apply Kd.V_alloc | apply Kd.V_drewN | apply Kd.V_drew)); exact HO_9.out) hb); have n1_ := Aside0.mk (Kd.V_below (by (with_reducible repeat (first | apply Kd.V_alloc | apply Kd.V_drewN | apply Kd.V_drew)); exact HO_12.out) hb); have n2_ := Aside0.mk (Kd.V_below (by (with_reducible repeat (first | apply Kd.V_alloc | apply Kd.V_drewN | apply Kd.V_drew)); exact HO_225001.out) hb); have n3_ := Aside0.mk (Kd.V_below (by (with_reducible repeat (first | apply Kd.V_alloc | apply Kd.V_drewN | apply Kd.V_drew)); exact HO_226001.out) hb); have n4_ := Aside0.mk (blk_below (g := gb224) (o := .cells #[.string a1_0, .slice A1_1 l1_1.length c1_1] 38 (0, 0)) (by (with_reducible repeat (first | refine blk_drewN ?_ _ | refine blk_drew ?_ | refine blk_alloc ?_ _)); exact BK224.out) hb); have n5_ := Aside0.mk (blk_below (g := gb225) (o := .cells #[.string a2_0, .slice A2_1 l2_1.length c2_1] 38 (0, 0)) (by (with_reducible repeat (first | refine blk_drewN ?_ _ | refine blk_drew ?_ | refine blk_alloc ?_ _)); exact BK225.out) hb); have n6_ := Aside0.mk (Kd.C_below (by repeat (first | (with_reducible exact HR241_1.out) | (with_reducible refine Kd.C_alloc ?_ _) | (with_reducible refine Kd.C_drewN ?_ _) | (with_reducible refine Kd.C_drew ?_) | exact HR241_1.out)) hb); have n7_ := Aside0.mk (Kd.C_below (by repeat (first | (with_reducible exact HR242_1.out) | (with_reducible refine Kd.C_alloc ?_ _) | (with_reducible refine Kd.C_drewN ?_ _) | (with_reducible refine Kd.C_drew ?_) | exact HR242_1.out)) hb); have n8_ := Aside0.mk (Kd.C_below (by repeat (first | (with_reducible exact HR247_1.out) | (with_reducible refine Kd.C_alloc ?_ _) | (with_reducible refine Kd.C_drewN ?_ _) | (with_reducible refine Kd.C_drew ?_) | exact HR247_1.out)) hb); have n9_ := Aside0.mk (Kd.C_below (by repeat (first | (with_reducible exact HR248_1.out) | (with_reducible refine Kd.C_alloc ?_ _) | (with_reducible refine Kd.C_drewN ?_ _) | (with_reducible refine Kd.C_drew ?_) | exact HR248_1.out)) hb); have n10_ := Aside0.mk (Kd.C_below (by repeat (first | (with_reducible exact HR253_1.out) | (with_reducible refine Kd.C_alloc ?_ _) | (with_reducible refine Kd.C_drewN ?_ _) | (with_reducible refine Kd.C_drew ?_) | exact HR253_1.out)) hb); have n11_ := Aside0.mk (Kd.C_below (by repeat (first | (with_reducible exact HR254_1.out) | (with_reducible refine Kd.C_alloc ?_ _) | (with_reducible refine Kd.C_drewN ?_ _) | (with_reducible refine Kd.C_drew ?_) | exact HR254_1.out)) hb); have n12_ := Aside0.mk (Kd.C_below (by repeat (first | (with_reducible exact HR259_1.out) | (with_reducible refine Kd.C_alloc ?_ _) | (with_reducible refine Kd.C_drewN ?_ _) | (with_reducible refine Kd.C_drew ?_) | exact HR259_1.out)) hb); have n13_ := Aside0.mk (Kd.C_below (by repeat (first | (with_reducible exact HR260_1.out) | (with_reducible refine Kd.C_alloc ?_ _) | (with_reducible refine Kd.C_drewN ?_ _) | (with_reducible refine Kd.C_drew ?_) | exact HR260_1.out)) hb); have n14_ := Aside0.mk (below_step (by repeat (first | (with_reducible first | exact HB.out | apply below_alloc | apply pw_below_drewN | apply below_drew1 | refine below_set ?_ GE224.out | refine below_set ?_ GE225.out) | exact HB.out)) hb); clear HO_9; clear HO_12; clear HO_225001; clear HO_226001; clear BK224; clear BK225; clear HR241_1; clear HR242_1; clear HR247_1; clear HR248_1; clear HR253_1; clear HR254_1; clear HR259_1; clear HR260_1; clear HB; have HO_9 := n0_; have HO_12 := n1_; have HO_225001 := n2_; have HO_226001 := n3_; have BK224 := n4_; have BK225 := n5_; have HR241_1 := n6_; have HR242_1 := n7_; have HR247_1 := n8_; have HR248_1 := n9_; have HR253_1 := n10_; have HR254_1 := n11_; have HR259_1 := n12_; have HR260_1 := n13_; have HB := n14_; clear n0_ n1_ n2_ n3_ n4_ n5_ n6_ n7_ n8_ n9_ n10_ n11_ n12_ n13_ n14_; (try clear hb); (try clear hb2); (try clear hk); (try clear hi)))
      go_ret
      exact ⟨by first | rfl | (simp [errW_none, errW_some] <;> rfl) | (simp [*, errW_none, errW_some] <;> rfl), by repeat (first | (with_reducible first | exact HB.out | apply below_alloc | apply pw_below_drewN | apply below_drew1 | refine below_set ?_ GE224.out | refine below_set ?_ GE225.out) | exact HB.out)⟩
     ·replace c49 := Bool.eq_false_iff.mpr c49
      subst c49
      have H1 : ((cellarerref06_Same.f kj12 t249 t261).bind fun t268 => (if t268 = true then ((cellarerlaw06_awake.f kj12).bind fun t269 => (some t269)) else (some false))) = some r := by rw [if_neg (show ¬ (false = true) by decide)] at H; exact H
      clear H
      have H := H1
      clear H1
      replace H := Option.bind_eq_some_iff.mp H
      obtain ⟨t268, A520, H⟩ := H
      replace H : (if t268 = true then ((cellarerlaw06_awake.f kj12).bind fun t269 => (some t269)) else (some false)) = some r := H
      have A52 := Aside0.mk A520
      clear A520
      by_cases c53 : t268 = true
      ·subst c53
       have H1 : ((cellarerlaw06_awake.f kj12).bind fun t269 => (some t269)) = some r := by rw [if_pos rfl] at H; exact H
       clear H
       have H := H1
       clear H1
       replace H := Option.bind_eq_some_iff.mp H
       obtain ⟨t269, A540, H⟩ := H
       replace H : (some t269) = some r := H
       have A54 := Aside0.mk A540
       clear A540
       obtain rfl := Option.some.inj H
       obtain ⟨Ao55, co55, eo55⟩ := Kd.V_slice HO_9.out
       subst eo55
       obtain ⟨Ao56, co56, eo56⟩ := Kd.V_slice HO_12.out
       subst eo56
       go_wp2_with (first | ((with_reducible refine gate_callee (f := 14) rfl ?_); refine goesL_ (some 103) rfl rfl Try.func14 (by kernel_rfl) rfl #[.slice Ao55 t249.length co55, .slice Ao56 t261.length co56] rfl (by (try simp only [List.map_toArray, List.map_cons, List.map_nil]); first | done | rfl | (simp only [List.length_drop, List.length_take]; rfl)) ?_; (with_reducible refine (cellarerref06_Same.calls kj12 _ _ t249 _ _ t261 true _ ?side1 ?side2 ?side3 ?side4 A52.out).mono ?_); (case side1 => repeat (first | exact (Kd.V_reads' HO_9.out).2.2 | (with_reducible refine Kd.C_alloc ?_ _) | (with_reducible refine Kd.C_drewN ?_ _) | (with_reducible refine Kd.C_drew ?_))); (case side2 => exact (Kd.V_reads' HO_9.out).2.1); (case side3 => repeat (first | exact (Kd.V_reads' HO_12.out).2.2 | (with_reducible refine Kd.C_alloc ?_ _) | (with_reducible refine Kd.C_drewN ?_ _) | (with_reducible refine Kd.C_drew ?_))); (case side4 => exact (Kd.V_reads' HO_12.out).2.1); rintro e w' ⟨rfl, ⟨nd, rfl⟩⟩; refine ⟨_, rfl, ?_⟩) | (go_at_call 17; (with_reducible refine (cellarerlaw06_awake.calls kj12  t269 _ A54.out).mono ?_); rintro e w57 ⟨rfl, hb⟩; have n14_ := Aside0.mk (below_step (by repeat (first | (with_reducible first | exact HB.out | apply below_alloc | apply pw_below_drewN | apply below_drew1 | refine below_set ?_ GE224.out | refine below_set ?_ GE225.out) | exact HB.out)) hb); clear HB; have HB := n14_; clear n14_ hb HO_9 HO_12 HO_225001 HO_226001 BK224 BK225 HR241_1 HR242_1 HR247_1 HR248_1 HR253_1 HR254_1 HR259_1 HR260_1))
       go_ret
       exact ⟨by first | rfl | (simp [errW_none, errW_some] <;> rfl) | (simp [*, errW_none, errW_some] <;> rfl), by repeat (first | (with_reducible first | exact HB.out | apply below_alloc | apply pw_below_drewN | apply below_drew1 | refine below_set ?_ GE224.out | refine below_set ?_ GE225.out) | exact HB.out)⟩
      ·replace c53 := Bool.eq_false_iff.mpr c53
       subst c53
       have H1 : (some false) = some r := by rw [if_neg (show ¬ (false = true) by decide)] at H; exact H
       clear H
       have H := H1
       clear H1
       obtain rfl := Option.some.inj H
       obtain ⟨Ao58, co58, eo58⟩ := Kd.V_slice HO_9.out
       subst eo58
       obtain ⟨Ao59, co59, eo59⟩ := Kd.V_slice HO_12.out
       subst eo59
       go_wp2_with (first | ((with_reducible refine gate_callee (f := 14) rfl ?_); refine goesL_ (some 103) rfl rfl Try.func14 (by kernel_rfl) rfl #[.slice Ao58 t249.length co58, .slice Ao59 t261.length co59] rfl (by (try simp only [List.map_toArray, List.map_cons, List.map_nil]); first | done | rfl | (simp only [List.length_drop, List.length_take]; rfl)) ?_; (with_reducible refine (cellarerref06_Same.calls kj12 _ _ t249 _ _ t261 false _ ?side1 ?side2 ?side3 ?side4 A52.out).mono ?_); (case side1 => repeat (first | exact (Kd.V_reads' HO_9.out).2.2 | (with_reducible refine Kd.C_alloc ?_ _) | (with_reducible refine Kd.C_drewN ?_ _) | (with_reducible refine Kd.C_drew ?_))); (case side2 => exact (Kd.V_reads' HO_9.out).2.1); (case side3 => repeat (first | exact (Kd.V_reads' HO_12.out).2.2 | (with_reducible refine Kd.C_alloc ?_ _) | (with_reducible refine Kd.C_drewN ?_ _) | (with_reducible refine Kd.C_drew ?_))); (case side4 => exact (Kd.V_reads' HO_12.out).2.1); rintro e w' ⟨rfl, ⟨nd, rfl⟩⟩; refine ⟨_, rfl, ?_⟩))
       go_ret
       exact ⟨by first | rfl | (simp [errW_none, errW_some] <;> rfl) | (simp [*, errW_none, errW_some] <;> rfl), by repeat (first | (with_reducible first | exact HB.out | apply below_alloc | apply pw_below_drewN | apply below_drew1 | refine below_set ?_ GE224.out | refine below_set ?_ GE225.out) | exact HB.out)⟩
  ·rw [if_neg c9] at H
   exact absurd H (by simp)
 ·rw [if_neg c7] at H
  exact absurd H (by simp)

/-- THE ONE PURE STATEMENT of cellarerlaw06_IndexTurns. -/
-- GIVEN cellarerlaw06_IndexTurns.Pure
def cellarerlaw06_IndexTurns.Pure : Prop := ∀ (l0 : List (S38)) (a1_0 : ByteArray) (l1_1 : List (S50)) (a2_0 : ByteArray) (l2_1 : List (S50)), (l0.length ≤ maxLen ∧ ∀ y1_ ∈ l0, okS38 y1_) → okS38 (⟨a1_0, l1_1⟩ : S38) → okS38 (⟨a2_0, l2_1⟩ : S38) → ∃ k, cellarerlaw06_IndexTurns.f k l0 a1_0 l1_1 a2_0 l2_1 = some true

end Go.Proofs.Ytgolfeglabmkkaa.P
