/- Printed by a program of this session (wip/tools/gprint.py, over the kit's print) out of the translation: functions and their contracts. -/
import Derived.Test.YthlemogcaoehbaaPx0
import Derived.Test.YthlemogcaoehbaaPx1
import Derived.Test.YthlemogcaoehbaaPx2
namespace Go.Proofs.Ythlemogcaoehbaa.P
open Go.RowKit Go.Proofs.YthlemogcaoehbaaW.PrintWords Go.Proofs.YthlemogcaoehbaaW.PrintLast Go.Proofs.YthlemogcaoehbaaW.PrintMore
attribute [local go_sem] max2_int min2_int max_two min_two max_three min_three max_four min_four   -- for this text's walks alone
set_option linter.unusedVariables false
set_option linter.unusedSimpArgs false

/-! ### cellarerlaw01_NameCuts: function 9 -/
mutual
def cellarerlaw01_NameCuts.j0 : Nat → ByteArray → ByteArray → ByteArray → Bool → Option (Bool)
  | 0, _, _, _, _ => none
  | k + 1, x0, x1, x2, x42 => if x42 = true then ((cellarerlaw01_awake.f k).bind fun t219 => (some t219)) else ((name_Group.f k x0 x1 x2).bind fun bt220 => (cellarerlaw01_NameCuts.l0 k x0 x1 x2 bt220.1 bt220.2 false (x1.size : Int)))
def cellarerlaw01_NameCuts.l0 : Nat → ByteArray → ByteArray → ByteArray → ByteArray → Bool → Bool → Int → Option (Bool)
  | 0, _, _, _, _, _, _, _ => none
  | k + 1, x0, x1, x2, x7, x8, x9, x10 => if x10 < (x0.size : Int) then (if x9 = true then (cellarerlaw01_NameCuts.l0 k x0 x1 x2 x7 x8 true (wrap64 (x10 + 1))) else (if 0 ≤ x10 then (if x10 ≤ (wrap64 (x10 + 1)) then (if (wrap64 (x10 + 1)) ≤ (x0.size : Int) then (cellarerlaw01_NameCuts.l0 k x0 x1 x2 x7 x8 ((x0.extract (x10 : Int).toNat ((wrap64 (x10 + 1)) : Int).toNat).toList == x2.toList) (wrap64 (x10 + 1))) else (none)) else (none)) else (none))) else (if (x8 != x9) = true then (some false) else (cellarerlaw01_NameCuts.l1 k x0 x2 x7 x8 (x1.size : Int)))
def cellarerlaw01_NameCuts.l1 : Nat → ByteArray → ByteArray → ByteArray → Bool → Int → Option (Bool)
  | 0, _, _, _, _, _ => none
  | k + 1, x0, x2, x7, x8, x11 => if x11 ≤ (x0.size : Int) then (cellarerlaw01_NameCuts.j3 k x0 x2 x7 x8 x11 x8) else (cellarerlaw01_NameCuts.j3 k x0 x2 x7 x8 x11 false)
def cellarerlaw01_NameCuts.j3 : Nat → ByteArray → ByteArray → ByteArray → Bool → Int → Bool → Option (Bool)
  | 0, _, _, _, _, _, _ => none
  | k + 1, x0, x2, x7, x8, x11, x80 => if x80 = true then (if 0 ≤ x11 then (if x11 ≤ (x0.size : Int) then ((name_Group.f k x0 (x0.extract 0 (x11 : Int).toNat) x2).bind fun bt223 => (if x11 < (x7.size : Int) then (if bt223.1.toList = x7.toList then (if x11 ≥ (x7.size : Int) then (if bt223.2 = true then (cellarerlaw01_NameCuts.j4 k x0 x2 x7 x8 x11 (decide ((bt223.1.size : Int) ≤ (x7.size : Int)))) else (cellarerlaw01_NameCuts.j4 k x0 x2 x7 x8 x11 false)) else (cellarerlaw01_NameCuts.j4 k x0 x2 x7 x8 x11 false)) else (cellarerlaw01_NameCuts.j4 k x0 x2 x7 x8 x11 true)) else (if x11 ≥ (x7.size : Int) then (if bt223.2 = true then (cellarerlaw01_NameCuts.j4 k x0 x2 x7 x8 x11 (decide ((bt223.1.size : Int) ≤ (x7.size : Int)))) else (cellarerlaw01_NameCuts.j4 k x0 x2 x7 x8 x11 false)) else (cellarerlaw01_NameCuts.j4 k x0 x2 x7 x8 x11 false)))) else (none)) else (none)) else ((cellarerlaw01_awake.f k).bind fun t222 => (some t222))
def cellarerlaw01_NameCuts.j4 : Nat → ByteArray → ByteArray → ByteArray → Bool → Int → Bool → Option (Bool)
  | 0, _, _, _, _, _, _ => none
  | k + 1, x0, x2, x7, x8, x11, x116 => if x116 = true then (some false) else (cellarerlaw01_NameCuts.l1 k x0 x2 x7 x8 (wrap64 (x11 + 1)))
end
def cellarerlaw01_NameCuts.f (k : Nat) (a0 : ByteArray) (a1 : ByteArray) (a2 : ByteArray) : Option (Bool) := (cellarerlaw01_Few.f a0).bind fun t212 => ((cellarerlaw01_Few.f a1).bind fun t213 => ((cellarerlaw01_Few.f a2).bind fun t214 => ((name_Key.f t212).bind fun t215 => (if t215 = true then ((name_Prefix.f t213).bind fun t216 => (if t216 = true then ((name_Delim.f t214).bind fun t217 => (if t217 = true then (if t214.toList = ([] : List UInt8) then (cellarerlaw01_NameCuts.j0 k t212 t213 t214 true) else ((name_Under.f t212 t213).bind fun t218 => (cellarerlaw01_NameCuts.j0 k t212 t213 t214 (!t218)))) else (cellarerlaw01_NameCuts.j0 k t212 t213 t214 true))) else (cellarerlaw01_NameCuts.j0 k t212 t213 t214 true))) else (cellarerlaw01_NameCuts.j0 k t212 t213 t214 true)))))
theorem cellarerlaw01_NameCuts.mono_l : ∀ k, (∀ y0 y1 y2 y3, LeO (cellarerlaw01_NameCuts.j0 k y0 y1 y2 y3) (cellarerlaw01_NameCuts.j0 (k + 1) y0 y1 y2 y3)) ∧ (∀ y0 y1 y2 y3 y4 y5 y6, LeO (cellarerlaw01_NameCuts.l0 k y0 y1 y2 y3 y4 y5 y6) (cellarerlaw01_NameCuts.l0 (k + 1) y0 y1 y2 y3 y4 y5 y6)) ∧ (∀ y0 y1 y2 y3 y4, LeO (cellarerlaw01_NameCuts.l1 k y0 y1 y2 y3 y4) (cellarerlaw01_NameCuts.l1 (k + 1) y0 y1 y2 y3 y4)) ∧ (∀ y0 y1 y2 y3 y4 y5, LeO (cellarerlaw01_NameCuts.j3 k y0 y1 y2 y3 y4 y5) (cellarerlaw01_NameCuts.j3 (k + 1) y0 y1 y2 y3 y4 y5)) ∧ (∀ y0 y1 y2 y3 y4 y5, LeO (cellarerlaw01_NameCuts.j4 k y0 y1 y2 y3 y4 y5) (cellarerlaw01_NameCuts.j4 (k + 1) y0 y1 y2 y3 y4 y5))
  | 0 => ⟨fun _ _ _ _ r h => by simp [cellarerlaw01_NameCuts.j0] at h, fun _ _ _ _ _ _ _ r h => by simp [cellarerlaw01_NameCuts.l0] at h, fun _ _ _ _ _ r h => by simp [cellarerlaw01_NameCuts.l1] at h, fun _ _ _ _ _ _ r h => by simp [cellarerlaw01_NameCuts.j3] at h, fun _ _ _ _ _ _ r h => by simp [cellarerlaw01_NameCuts.j4] at h⟩
  | k + 1 => by
    obtain ⟨ih0, ih1, ih2, ih3, ih4⟩ := cellarerlaw01_NameCuts.mono_l k
    refine ⟨?_, ?_, ?_, ?_, ?_⟩
    · intro y0 y1 y2 y3
      unfold cellarerlaw01_NameCuts.j0
      repeat' first
      | (with_reducible exact ih0 _ _ _ _)
      | (with_reducible exact ih1 _ _ _ _ _ _ _)
      | (with_reducible exact ih2 _ _ _ _ _)
      | (with_reducible exact ih3 _ _ _ _ _ _)
      | (with_reducible exact ih4 _ _ _ _ _ _)
      | (with_reducible exact cellarerlaw01_awake.mono _)
      | (with_reducible exact name_Group.mono _ _ _ _)
      | (with_reducible exact LeO.refl _)
      | (with_reducible exact LeO.none _)
      | (with_reducible refine LeO.ite ?_ ?_)
      | (with_reducible refine LeO.bind ?_ (fun _ => ?_))
      | exact ih0 _ _ _ _
      | exact ih1 _ _ _ _ _ _ _
      | exact ih2 _ _ _ _ _
      | exact ih3 _ _ _ _ _ _
      | exact ih4 _ _ _ _ _ _
      | exact cellarerlaw01_awake.mono _
      | exact name_Group.mono _ _ _ _
      | exact LeO.none _
      | refine LeO.ite ?_ ?_
      | refine LeO.bind ?_ (fun _ => ?_)
    · intro y0 y1 y2 y3 y4 y5 y6
      unfold cellarerlaw01_NameCuts.l0
      repeat' first
      | (with_reducible exact ih0 _ _ _ _)
      | (with_reducible exact ih1 _ _ _ _ _ _ _)
      | (with_reducible exact ih2 _ _ _ _ _)
      | (with_reducible exact ih3 _ _ _ _ _ _)
      | (with_reducible exact ih4 _ _ _ _ _ _)
      | (with_reducible exact cellarerlaw01_awake.mono _)
      | (with_reducible exact name_Group.mono _ _ _ _)
      | (with_reducible exact LeO.refl _)
      | (with_reducible exact LeO.none _)
      | (with_reducible refine LeO.ite ?_ ?_)
      | (with_reducible refine LeO.bind ?_ (fun _ => ?_))
      | exact ih0 _ _ _ _
      | exact ih1 _ _ _ _ _ _ _
      | exact ih2 _ _ _ _ _
      | exact ih3 _ _ _ _ _ _
      | exact ih4 _ _ _ _ _ _
      | exact cellarerlaw01_awake.mono _
      | exact name_Group.mono _ _ _ _
      | exact LeO.none _
      | refine LeO.ite ?_ ?_
      | refine LeO.bind ?_ (fun _ => ?_)
    · intro y0 y1 y2 y3 y4
      unfold cellarerlaw01_NameCuts.l1
      repeat' first
      | (with_reducible exact ih0 _ _ _ _)
      | (with_reducible exact ih1 _ _ _ _ _ _ _)
      | (with_reducible exact ih2 _ _ _ _ _)
      | (with_reducible exact ih3 _ _ _ _ _ _)
      | (with_reducible exact ih4 _ _ _ _ _ _)
      | (with_reducible exact cellarerlaw01_awake.mono _)
      | (with_reducible exact name_Group.mono _ _ _ _)
      | (with_reducible exact LeO.refl _)
      | (with_reducible exact LeO.none _)
      | (with_reducible refine LeO.ite ?_ ?_)
      | (with_reducible refine LeO.bind ?_ (fun _ => ?_))
      | exact ih0 _ _ _ _
      | exact ih1 _ _ _ _ _ _ _
      | exact ih2 _ _ _ _ _
      | exact ih3 _ _ _ _ _ _
      | exact ih4 _ _ _ _ _ _
      | exact cellarerlaw01_awake.mono _
      | exact name_Group.mono _ _ _ _
      | exact LeO.none _
      | refine LeO.ite ?_ ?_
      | refine LeO.bind ?_ (fun _ => ?_)
    · intro y0 y1 y2 y3 y4 y5
      unfold cellarerlaw01_NameCuts.j3
      repeat' first
      | (with_reducible exact ih0 _ _ _ _)
      | (with_reducible exact ih1 _ _ _ _ _ _ _)
      | (with_reducible exact ih2 _ _ _ _ _)
      | (with_reducible exact ih3 _ _ _ _ _ _)
      | (with_reducible exact ih4 _ _ _ _ _ _)
      | (with_reducible exact cellarerlaw01_awake.mono _)
      | (with_reducible exact name_Group.mono _ _ _ _)
      | (with_reducible exact LeO.refl _)
      | (with_reducible exact LeO.none _)
      | (with_reducible refine LeO.ite ?_ ?_)
      | (with_reducible refine LeO.bind ?_ (fun _ => ?_))
      | exact ih0 _ _ _ _
      | exact ih1 _ _ _ _ _ _ _
      | exact ih2 _ _ _ _ _
      | exact ih3 _ _ _ _ _ _
      | exact ih4 _ _ _ _ _ _
      | exact cellarerlaw01_awake.mono _
      | exact name_Group.mono _ _ _ _
      | exact LeO.none _
      | refine LeO.ite ?_ ?_
      | refine LeO.bind ?_ (fun _ => ?_)
    · intro y0 y1 y2 y3 y4 y5
      unfold cellarerlaw01_NameCuts.j4
      repeat' first
      | (with_reducible exact ih0 _ _ _ _)
      | (with_reducible exact ih1 _ _ _ _ _ _ _)
      | (with_reducible exact ih2 _ _ _ _ _)
      | (with_reducible exact ih3 _ _ _ _ _ _)
      | (with_reducible exact ih4 _ _ _ _ _ _)
      | (with_reducible exact cellarerlaw01_awake.mono _)
      | (with_reducible exact name_Group.mono _ _ _ _)
      | (with_reducible exact LeO.refl _)
      | (with_reducible exact LeO.none _)
      | (with_reducible refine LeO.ite ?_ ?_)
      | (with_reducible refine LeO.bind ?_ (fun _ => ?_))
      | exact ih0 _ _ _ _
      | exact ih1 _ _ _ _ _ _ _
      | exact ih2 _ _ _ _ _
      | exact ih3 _ _ _ _ _ _
      | exact ih4 _ _ _ _ _ _
      | exact cellarerlaw01_awake.mono _
      | exact name_Group.mono _ _ _ _
      | exact LeO.none _
      | refine LeO.ite ?_ ?_
      | refine LeO.bind ?_ (fun _ => ?_)
theorem cellarerlaw01_NameCuts.mono : ∀ a0 a1 a2 k, LeO (cellarerlaw01_NameCuts.f k a0 a1 a2) (cellarerlaw01_NameCuts.f (k + 1) a0 a1 a2) := by
  intro a0 a1 a2 k
  obtain ⟨ih0, ih1, ih2, ih3, ih4⟩ := cellarerlaw01_NameCuts.mono_l k
  unfold cellarerlaw01_NameCuts.f
  repeat' first
      | (with_reducible exact ih0 _ _ _ _)
      | (with_reducible exact ih1 _ _ _ _ _ _ _)
      | (with_reducible exact ih2 _ _ _ _ _)
      | (with_reducible exact ih3 _ _ _ _ _ _)
      | (with_reducible exact ih4 _ _ _ _ _ _)
      | (with_reducible exact cellarerlaw01_awake.mono _)
      | (with_reducible exact name_Group.mono _ _ _ _)
      | (with_reducible exact LeO.refl _)
      | (with_reducible exact LeO.none _)
      | (with_reducible refine LeO.ite ?_ ?_)
      | (with_reducible refine LeO.bind ?_ (fun _ => ?_))
      | exact ih0 _ _ _ _
      | exact ih1 _ _ _ _ _ _ _
      | exact ih2 _ _ _ _ _
      | exact ih3 _ _ _ _ _ _
      | exact ih4 _ _ _ _ _ _
      | exact cellarerlaw01_awake.mono _
      | exact name_Group.mono _ _ _ _
      | exact LeO.none _
      | refine LeO.ite ?_ ?_
      | refine LeO.bind ?_ (fun _ => ?_)
set_option maxHeartbeats 8000000 in
set_option maxRecDepth 100000 in
theorem cellarerlaw01_NameCuts.calls (k : Nat) (a0 : ByteArray) (a1 : ByteArray) (a2 : ByteArray) (r : Bool) (w : World) (h : cellarerlaw01_NameCuts.f k a0 a1 a2 = some r) :
    Calls Try.prog 9 #[.string a0, .string a1, .string a2] w fun e w' => e = .returned (.bool r) ∧ Below w.heap.size w w' := by
  have HB := Aside0.mk (Below.refl w.heap.size w)
  have H : ((cellarerlaw01_Few.f a0).bind fun t212 => ((cellarerlaw01_Few.f a1).bind fun t213 => ((cellarerlaw01_Few.f a2).bind fun t214 => ((name_Key.f t212).bind fun t215 => (if t215 = true then ((name_Prefix.f t213).bind fun t216 => (if t216 = true then ((name_Delim.f t214).bind fun t217 => (if t217 = true then (if t214.toList = ([] : List UInt8) then (cellarerlaw01_NameCuts.j0 k t212 t213 t214 true) else ((name_Under.f t212 t213).bind fun t218 => (cellarerlaw01_NameCuts.j0 k t212 t213 t214 (!t218)))) else (cellarerlaw01_NameCuts.j0 k t212 t213 t214 true))) else (cellarerlaw01_NameCuts.j0 k t212 t213 t214 true))) else (cellarerlaw01_NameCuts.j0 k t212 t213 t214 true)))))) = some r := h
  clear h
  replace H := Option.bind_eq_some_iff.mp H
  obtain ⟨t212, A40, H⟩ := H
  replace H : ((cellarerlaw01_Few.f a1).bind fun t213 => ((cellarerlaw01_Few.f a2).bind fun t214 => ((name_Key.f t212).bind fun t215 => (if t215 = true then ((name_Prefix.f t213).bind fun t216 => (if t216 = true then ((name_Delim.f t214).bind fun t217 => (if t217 = true then (if t214.toList = ([] : List UInt8) then (cellarerlaw01_NameCuts.j0 k t212 t213 t214 true) else ((name_Under.f t212 t213).bind fun t218 => (cellarerlaw01_NameCuts.j0 k t212 t213 t214 (!t218)))) else (cellarerlaw01_NameCuts.j0 k t212 t213 t214 true))) else (cellarerlaw01_NameCuts.j0 k t212 t213 t214 true))) else (cellarerlaw01_NameCuts.j0 k t212 t213 t214 true))))) = some r := H
  have A4 := Aside0.mk A40
  clear A40
  replace H := Option.bind_eq_some_iff.mp H
  obtain ⟨t213, A50, H⟩ := H
  replace H : ((cellarerlaw01_Few.f a2).bind fun t214 => ((name_Key.f t212).bind fun t215 => (if t215 = true then ((name_Prefix.f t213).bind fun t216 => (if t216 = true then ((name_Delim.f t214).bind fun t217 => (if t217 = true then (if t214.toList = ([] : List UInt8) then (cellarerlaw01_NameCuts.j0 k t212 t213 t214 true) else ((name_Under.f t212 t213).bind fun t218 => (cellarerlaw01_NameCuts.j0 k t212 t213 t214 (!t218)))) else (cellarerlaw01_NameCuts.j0 k t212 t213 t214 true))) else (cellarerlaw01_NameCuts.j0 k t212 t213 t214 true))) else (cellarerlaw01_NameCuts.j0 k t212 t213 t214 true)))) = some r := H
  have A5 := Aside0.mk A50
  clear A50
  replace H := Option.bind_eq_some_iff.mp H
  obtain ⟨t214, A60, H⟩ := H
  replace H : ((name_Key.f t212).bind fun t215 => (if t215 = true then ((name_Prefix.f t213).bind fun t216 => (if t216 = true then ((name_Delim.f t214).bind fun t217 => (if t217 = true then (if t214.toList = ([] : List UInt8) then (cellarerlaw01_NameCuts.j0 k t212 t213 t214 true) else ((name_Under.f t212 t213).bind fun t218 => (cellarerlaw01_NameCuts.j0 k t212 t213 t214 (!t218)))) else (cellarerlaw01_NameCuts.j0 k t212 t213 t214 true))) else (cellarerlaw01_NameCuts.j0 k t212 t213 t214 true))) else (cellarerlaw01_NameCuts.j0 k t212 t213 t214 true))) = some r := H
  have A6 := Aside0.mk A60
  clear A60
  have HC7 := Aside0.mk H
  clear H
  go_enter Try.func9, Try.ntmps9
  go_upto_region 2 with (first | ((with_reducible refine gate_callee (f := 10) rfl ?_); refine goesL_ (some 15) rfl rfl Try.func10 (by kernel_rfl) rfl #[.string a0] rfl (by (try simp only [List.map_toArray, List.map_cons, List.map_nil]); first | done | rfl | (simp only [List.length_drop, List.length_take]; rfl)) ?_; (with_reducible refine (cellarerlaw01_Few.calls a0 t212 _ A4.out).mono ?_); rintro e w' ⟨rfl, ⟨nd, rfl⟩⟩; refine ⟨_, rfl, ?_⟩) | ((with_reducible refine gate_callee (f := 10) rfl ?_); refine goesL_ (some 17) rfl rfl Try.func10 (by kernel_rfl) rfl #[.string a1] rfl (by (try simp only [List.map_toArray, List.map_cons, List.map_nil]); first | done | rfl | (simp only [List.length_drop, List.length_take]; rfl)) ?_; (with_reducible refine (cellarerlaw01_Few.calls a1 t213 _ A5.out).mono ?_); rintro e w' ⟨rfl, ⟨nd, rfl⟩⟩; refine ⟨_, rfl, ?_⟩) | ((with_reducible refine gate_callee (f := 10) rfl ?_); refine goesL_ (some 19) rfl rfl Try.func10 (by kernel_rfl) rfl #[.string a2] rfl (by (try simp only [List.map_toArray, List.map_cons, List.map_nil]); first | done | rfl | (simp only [List.length_drop, List.length_take]; rfl)) ?_; (with_reducible refine (cellarerlaw01_Few.calls a2 t214 _ A6.out).mono ?_); rintro e w' ⟨rfl, ⟨nd, rfl⟩⟩; refine ⟨_, rfl, ?_⟩))
  (try simp only [Act.put, List.setIfInBounds_toArray, List.set_cons_zero, List.set_cons_succ])
  go_cut [42] (fun v42 wc => ∃ (kq : Nat) (x42_6 : Bool), v42 = .bool x42_6 ∧ Aside0 (cellarerlaw01_NameCuts.j0 kq t212 t213 t214 x42_6 = some r) ∧ Aside0 (kq ≤ k) ∧ Aside0 (Below w.heap.size w wc))
  case first =>
    have H := HC7.out
    clear HC7
    replace H := Option.bind_eq_some_iff.mp H
    obtain ⟨t215, A80, H⟩ := H
    replace H : (if t215 = true then ((name_Prefix.f t213).bind fun t216 => (if t216 = true then ((name_Delim.f t214).bind fun t217 => (if t217 = true then (if t214.toList = ([] : List UInt8) then (cellarerlaw01_NameCuts.j0 k t212 t213 t214 true) else ((name_Under.f t212 t213).bind fun t218 => (cellarerlaw01_NameCuts.j0 k t212 t213 t214 (!t218)))) else (cellarerlaw01_NameCuts.j0 k t212 t213 t214 true))) else (cellarerlaw01_NameCuts.j0 k t212 t213 t214 true))) else (cellarerlaw01_NameCuts.j0 k t212 t213 t214 true)) = some r := H
    have A8 := Aside0.mk A80
    clear A80
    by_cases c9 : t215 = true
    · subst c9
      have H1 : ((name_Prefix.f t213).bind fun t216 => (if t216 = true then ((name_Delim.f t214).bind fun t217 => (if t217 = true then (if t214.toList = ([] : List UInt8) then (cellarerlaw01_NameCuts.j0 k t212 t213 t214 true) else ((name_Under.f t212 t213).bind fun t218 => (cellarerlaw01_NameCuts.j0 k t212 t213 t214 (!t218)))) else (cellarerlaw01_NameCuts.j0 k t212 t213 t214 true))) else (cellarerlaw01_NameCuts.j0 k t212 t213 t214 true))) = some r := by rw [if_pos rfl] at H; exact H
      clear H
      have H := H1
      clear H1
      replace H := Option.bind_eq_some_iff.mp H
      obtain ⟨t216, A100, H⟩ := H
      replace H : (if t216 = true then ((name_Delim.f t214).bind fun t217 => (if t217 = true then (if t214.toList = ([] : List UInt8) then (cellarerlaw01_NameCuts.j0 k t212 t213 t214 true) else ((name_Under.f t212 t213).bind fun t218 => (cellarerlaw01_NameCuts.j0 k t212 t213 t214 (!t218)))) else (cellarerlaw01_NameCuts.j0 k t212 t213 t214 true))) else (cellarerlaw01_NameCuts.j0 k t212 t213 t214 true)) = some r := H
      have A10 := Aside0.mk A100
      clear A100
      by_cases c11 : t216 = true
      · subst c11
        have H1 : ((name_Delim.f t214).bind fun t217 => (if t217 = true then (if t214.toList = ([] : List UInt8) then (cellarerlaw01_NameCuts.j0 k t212 t213 t214 true) else ((name_Under.f t212 t213).bind fun t218 => (cellarerlaw01_NameCuts.j0 k t212 t213 t214 (!t218)))) else (cellarerlaw01_NameCuts.j0 k t212 t213 t214 true))) = some r := by rw [if_pos rfl] at H; exact H
        clear H
        have H := H1
        clear H1
        replace H := Option.bind_eq_some_iff.mp H
        obtain ⟨t217, A120, H⟩ := H
        replace H : (if t217 = true then (if t214.toList = ([] : List UInt8) then (cellarerlaw01_NameCuts.j0 k t212 t213 t214 true) else ((name_Under.f t212 t213).bind fun t218 => (cellarerlaw01_NameCuts.j0 k t212 t213 t214 (!t218)))) else (cellarerlaw01_NameCuts.j0 k t212 t213 t214 true)) = some r := H
        have A12 := Aside0.mk A120
        clear A120
        by_cases c13 : t217 = true
        · subst c13
          have H1 : (if t214.toList = ([] : List UInt8) then (cellarerlaw01_NameCuts.j0 k t212 t213 t214 true) else ((name_Under.f t212 t213).bind fun t218 => (cellarerlaw01_NameCuts.j0 k t212 t213 t214 (!t218)))) = some r := by rw [if_pos rfl] at H; exact H
          clear H
          have H := H1
          clear H1
          by_cases c14 : t214.toList = ([] : List UInt8)
          · rw [if_pos c14] at H
            have c14b0 : (t214.toList == ([] : List UInt8)) = true := beq_iff_eq.mpr c14
            have c14b1 : (t214.toList != ([] : List UInt8)) = false := bne_eq_false_iff_eq.mpr c14
            clear c14
            (first | rw [c14b0] | rw [c14b1] | (simp only [i64_w, i32_w]; rw [c14b0]) | skip)
            have H' := Aside0.mk H
            clear H
            go_wp2_with (first | ((with_reducible refine gate_callee (f := 15) rfl ?_); refine goesL_ (some 21) rfl rfl Try.func15 (by kernel_rfl) rfl #[.string t212] rfl (by (try simp only [List.map_toArray, List.map_cons, List.map_nil]); first | done | rfl | (simp only [List.length_drop, List.length_take]; rfl)) ?_; (with_reducible refine (name_Key.calls t212 true _ A8.out).mono ?_); rintro e w15 ⟨rfl, hb⟩; refine ⟨_, rfl, ?_⟩; have n0_ := Aside0.mk (below_step (by repeat (first | (with_reducible first | exact HB.out | apply below_alloc | apply pw_below_drewN | apply below_drew1) | exact HB.out)) hb); clear HB; have HB := n0_; clear n0_; (try clear hb); (try clear hb2); (try clear hk); (try clear hi)) | (go_at_call 18; (with_reducible refine (name_Prefix.calls t213 true _ A10.out).mono ?_); rintro e w16 ⟨rfl, hb⟩; have n0_ := Aside0.mk (below_step (by repeat (first | (with_reducible first | exact HB.out | apply below_alloc | apply pw_below_drewN | apply below_drew1) | exact HB.out)) hb); clear HB; have HB := n0_; clear n0_; (try clear hb); (try clear hb2); (try clear hk); (try clear hi)) | (go_at_call 20; (with_reducible refine (name_Delim.calls t214 true _ A12.out).mono ?_); rintro e w17 ⟨rfl, hb⟩; have n0_ := Aside0.mk (below_step (by repeat (first | (with_reducible first | exact HB.out | apply below_alloc | apply pw_below_drewN | apply below_drew1) | exact HB.out)) hb); clear HB; have HB := n0_; clear n0_; (try clear hb); (try clear hb2); (try clear hk); (try clear hi)))
            go_meet
            case rel => exact ⟨_, (true), (by first | rfl | (simp; done) | (simp [*]; done)), H', ⟨by first | omega | exact Nat.le_refl _⟩, ⟨by repeat (first | (with_reducible first | exact HB.out | apply below_alloc | apply pw_below_drewN | apply below_drew1) | exact HB.out)⟩⟩
          · rw [if_neg c14] at H
            have c14b0 : (t214.toList == ([] : List UInt8)) = false := beq_eq_false_iff_ne.mpr c14
            have c14b1 : (t214.toList != ([] : List UInt8)) = true := bne_iff_ne.mpr c14
            (first | rw [c14b0] | rw [c14b1] | (simp only [i64_w, i32_w]; rw [c14b0]) | skip)
            replace H := Option.bind_eq_some_iff.mp H
            obtain ⟨t218, A180, H⟩ := H
            replace H : (cellarerlaw01_NameCuts.j0 k t212 t213 t214 (!t218)) = some r := H
            have A18 := Aside0.mk A180
            clear A180
            have H' := Aside0.mk H
            clear H
            go_wp2_with (first | ((with_reducible refine gate_callee (f := 15) rfl ?_); refine goesL_ (some 21) rfl rfl Try.func15 (by kernel_rfl) rfl #[.string t212] rfl (by (try simp only [List.map_toArray, List.map_cons, List.map_nil]); first | done | rfl | (simp only [List.length_drop, List.length_take]; rfl)) ?_; (with_reducible refine (name_Key.calls t212 true _ A8.out).mono ?_); rintro e w19 ⟨rfl, hb⟩; refine ⟨_, rfl, ?_⟩; have n0_ := Aside0.mk (below_step (by repeat (first | (with_reducible first | exact HB.out | apply below_alloc | apply pw_below_drewN | apply below_drew1) | exact HB.out)) hb); clear HB; have HB := n0_; clear n0_; (try clear hb); (try clear hb2); (try clear hk); (try clear hi)) | (go_at_call 18; (with_reducible refine (name_Prefix.calls t213 true _ A10.out).mono ?_); rintro e w20 ⟨rfl, hb⟩; have n0_ := Aside0.mk (below_step (by repeat (first | (with_reducible first | exact HB.out | apply below_alloc | apply pw_below_drewN | apply below_drew1) | exact HB.out)) hb); clear HB; have HB := n0_; clear n0_; (try clear hb); (try clear hb2); (try clear hk); (try clear hi)) | (go_at_call 20; (with_reducible refine (name_Delim.calls t214 true _ A12.out).mono ?_); rintro e w21 ⟨rfl, hb⟩; have n0_ := Aside0.mk (below_step (by repeat (first | (with_reducible first | exact HB.out | apply below_alloc | apply pw_below_drewN | apply below_drew1) | exact HB.out)) hb); clear HB; have HB := n0_; clear n0_; (try clear hb); (try clear hb2); (try clear hk); (try clear hi)) | (go_at_call 22; (with_reducible refine (name_Under.calls t212 t213 t218 _ A18.out).mono ?_); rintro e w' ⟨rfl, ⟨nd, rfl⟩⟩))
            go_meet
            case rel => exact ⟨_, (!t218), (by first | rfl | (simp; done) | (simp [*]; done)), H', ⟨by first | omega | exact Nat.le_refl _⟩, ⟨by repeat (first | (with_reducible first | exact HB.out | apply below_alloc | apply pw_below_drewN | apply below_drew1) | exact HB.out)⟩⟩
        · replace c13 := Bool.eq_false_iff.mpr c13
          subst c13
          have H1 : (cellarerlaw01_NameCuts.j0 k t212 t213 t214 true) = some r := by rw [if_neg (show ¬ (false = true) by decide)] at H; exact H
          clear H
          have H := H1
          clear H1
          have H' := Aside0.mk H
          clear H
          go_wp2_with (first | ((with_reducible refine gate_callee (f := 15) rfl ?_); refine goesL_ (some 21) rfl rfl Try.func15 (by kernel_rfl) rfl #[.string t212] rfl (by (try simp only [List.map_toArray, List.map_cons, List.map_nil]); first | done | rfl | (simp only [List.length_drop, List.length_take]; rfl)) ?_; (with_reducible refine (name_Key.calls t212 true _ A8.out).mono ?_); rintro e w22 ⟨rfl, hb⟩; refine ⟨_, rfl, ?_⟩; have n0_ := Aside0.mk (below_step (by repeat (first | (with_reducible first | exact HB.out | apply below_alloc | apply pw_below_drewN | apply below_drew1) | exact HB.out)) hb); clear HB; have HB := n0_; clear n0_; (try clear hb); (try clear hb2); (try clear hk); (try clear hi)) | (go_at_call 18; (with_reducible refine (name_Prefix.calls t213 true _ A10.out).mono ?_); rintro e w23 ⟨rfl, hb⟩; have n0_ := Aside0.mk (below_step (by repeat (first | (with_reducible first | exact HB.out | apply below_alloc | apply pw_below_drewN | apply below_drew1) | exact HB.out)) hb); clear HB; have HB := n0_; clear n0_; (try clear hb); (try clear hb2); (try clear hk); (try clear hi)) | (go_at_call 20; (with_reducible refine (name_Delim.calls t214 false _ A12.out).mono ?_); rintro e w24 ⟨rfl, hb⟩; have n0_ := Aside0.mk (below_step (by repeat (first | (with_reducible first | exact HB.out | apply below_alloc | apply pw_below_drewN | apply below_drew1) | exact HB.out)) hb); clear HB; have HB := n0_; clear n0_; (try clear hb); (try clear hb2); (try clear hk); (try clear hi)))
          go_meet
          case rel => exact ⟨_, (true), (by first | rfl | (simp; done) | (simp [*]; done)), H', ⟨by first | omega | exact Nat.le_refl _⟩, ⟨by repeat (first | (with_reducible first | exact HB.out | apply below_alloc | apply pw_below_drewN | apply below_drew1) | exact HB.out)⟩⟩
      · replace c11 := Bool.eq_false_iff.mpr c11
        subst c11
        have H1 : (cellarerlaw01_NameCuts.j0 k t212 t213 t214 true) = some r := by rw [if_neg (show ¬ (false = true) by decide)] at H; exact H
        clear H
        have H := H1
        clear H1
        have H' := Aside0.mk H
        clear H
        go_wp2_with (first | ((with_reducible refine gate_callee (f := 15) rfl ?_); refine goesL_ (some 21) rfl rfl Try.func15 (by kernel_rfl) rfl #[.string t212] rfl (by (try simp only [List.map_toArray, List.map_cons, List.map_nil]); first | done | rfl | (simp only [List.length_drop, List.length_take]; rfl)) ?_; (with_reducible refine (name_Key.calls t212 true _ A8.out).mono ?_); rintro e w25 ⟨rfl, hb⟩; refine ⟨_, rfl, ?_⟩; have n0_ := Aside0.mk (below_step (by repeat (first | (with_reducible first | exact HB.out | apply below_alloc | apply pw_below_drewN | apply below_drew1) | exact HB.out)) hb); clear HB; have HB := n0_; clear n0_; (try clear hb); (try clear hb2); (try clear hk); (try clear hi)) | (go_at_call 18; (with_reducible refine (name_Prefix.calls t213 false _ A10.out).mono ?_); rintro e w26 ⟨rfl, hb⟩; have n0_ := Aside0.mk (below_step (by repeat (first | (with_reducible first | exact HB.out | apply below_alloc | apply pw_below_drewN | apply below_drew1) | exact HB.out)) hb); clear HB; have HB := n0_; clear n0_; (try clear hb); (try clear hb2); (try clear hk); (try clear hi)))
        go_meet
        case rel => exact ⟨_, (true), (by first | rfl | (simp; done) | (simp [*]; done)), H', ⟨by first | omega | exact Nat.le_refl _⟩, ⟨by repeat (first | (with_reducible first | exact HB.out | apply below_alloc | apply pw_below_drewN | apply below_drew1) | exact HB.out)⟩⟩
    · replace c9 := Bool.eq_false_iff.mpr c9
      subst c9
      have H1 : (cellarerlaw01_NameCuts.j0 k t212 t213 t214 true) = some r := by rw [if_neg (show ¬ (false = true) by decide)] at H; exact H
      clear H
      have H := H1
      clear H1
      have H' := Aside0.mk H
      clear H
      go_wp2_with (first | ((with_reducible refine gate_callee (f := 15) rfl ?_); refine goesL_ (some 21) rfl rfl Try.func15 (by kernel_rfl) rfl #[.string t212] rfl (by (try simp only [List.map_toArray, List.map_cons, List.map_nil]); first | done | rfl | (simp only [List.length_drop, List.length_take]; rfl)) ?_; (with_reducible refine (name_Key.calls t212 false _ A8.out).mono ?_); rintro e w27 ⟨rfl, hb⟩; refine ⟨_, rfl, ?_⟩; have n0_ := Aside0.mk (below_step (by repeat (first | (with_reducible first | exact HB.out | apply below_alloc | apply pw_below_drewN | apply below_drew1) | exact HB.out)) hb); clear HB; have HB := n0_; clear n0_; (try clear hb); (try clear hb2); (try clear hk); (try clear hi)))
      go_meet
      case rel => exact ⟨_, (true), (by first | rfl | (simp; done) | (simp [*]; done)), H', ⟨by first | omega | exact Nat.le_refl _⟩, ⟨by repeat (first | (with_reducible first | exact HB.out | apply below_alloc | apply pw_below_drewN | apply below_drew1) | exact HB.out)⟩⟩
  case rest =>
    clear HC7
    try clear c1
    try clear p2
    try clear c9
    try clear c10
    try clear c11
    try clear c13
    try clear c14
    try clear c14b0
    try clear c14b1
    try clear c15
    obtain ⟨kq, x42_6, rfl, HA, HJ6, HB⟩ := hcut
    cases kq with
    | zero => exact absurd HA.out (by simp [cellarerlaw01_NameCuts.j0])
    | succ kj6 =>
      have H := HA.out
      clear HA
      simp only [cellarerlaw01_NameCuts.j0] at H
      by_cases c28 : x42_6 = true
      · subst c28
        have H1 : ((cellarerlaw01_awake.f kj6).bind fun t219 => (some t219)) = some r := by rw [if_pos rfl] at H; exact H
        clear H
        have H := H1
        clear H1
        replace H := Option.bind_eq_some_iff.mp H
        obtain ⟨t219, A290, H⟩ := H
        replace H : (some t219) = some r := H
        have A29 := Aside0.mk A290
        clear A290
        obtain rfl := Option.some.inj H
        go_wp2_with (first | ((with_reducible refine gate_callee (f := 13) rfl ?_); refine goesL_ (some 43) rfl rfl Try.func13 (by kernel_rfl) rfl #[] rfl (by (try simp only [List.map_toArray, List.map_cons, List.map_nil]); first | done | rfl | (simp only [List.length_drop, List.length_take]; rfl)) ?_; (with_reducible refine (cellarerlaw01_awake.calls kj6  t219 _ A29.out).mono ?_); rintro e w30 ⟨rfl, hb⟩; refine ⟨_, rfl, ?_⟩; have n0_ := Aside0.mk (below_step (by repeat (first | (with_reducible first | exact HB.out | apply below_alloc | apply pw_below_drewN | apply below_drew1) | exact HB.out)) hb); clear HB; have HB := n0_; clear n0_; (try clear hb); (try clear hb2); (try clear hk); (try clear hi)))
        go_ret
        exact ⟨by first | rfl | (simp [errW_none, errW_some] <;> rfl) | (simp [*, errW_none, errW_some] <;> rfl), by repeat (first | (with_reducible first | exact HB.out | apply below_alloc | apply pw_below_drewN | apply below_drew1) | exact HB.out)⟩
      · replace c28 := Bool.eq_false_iff.mpr c28
        subst c28
        have H1 : ((name_Group.f kj6 t212 t213 t214).bind fun bt220 => (cellarerlaw01_NameCuts.l0 kj6 t212 t213 t214 bt220.1 bt220.2 false (t213.size : Int))) = some r := by rw [if_neg (show ¬ (false = true) by decide)] at H; exact H
        clear H
        have H := H1
        clear H1
        replace H := Option.bind_eq_some_iff.mp H
        obtain ⟨⟨t220, t221⟩, A310, H⟩ := H
        replace H : (cellarerlaw01_NameCuts.l0 kj6 t212 t213 t214 t220 t221 false (t213.size : Int)) = some r := H
        have A31 := Aside0.mk A310
        clear A310
        have H' := Aside0.mk H
        clear H
        go_wp2_with (first | ((with_reducible refine gate_callee (f := 11) rfl ?_); refine goesL_ (some 48) rfl rfl Try.func11 (by kernel_rfl) rfl #[.string t212, .string t213, .string t214] rfl (by (try simp only [List.map_toArray, List.map_cons, List.map_nil]); first | done | rfl | (simp only [List.length_drop, List.length_take]; rfl)) ?_; (with_reducible refine (name_Group.calls kj6 t212 t213 t214 t220 t221 _ A31.out).mono ?_); rintro e w32 ⟨rfl, hb⟩; refine ⟨_, rfl, ?_⟩; have n0_ := Aside0.mk (below_step (by repeat (first | (with_reducible first | exact HB.out | apply below_alloc | apply pw_below_drewN | apply below_drew1) | exact HB.out)) hb); clear HB; have HB := n0_; clear n0_; (try clear hb); (try clear hb2); (try clear hk); (try clear hi)))
        go_loopg [9, 10] kj6 (fun kq v9 v10 w' => ∃ (x9_2 : Bool) (x10_2 : Int), v9 = .bool x9_2 ∧ v10 = .int .i64 x10_2 ∧ Aside0 (cellarerlaw01_NameCuts.l0 kq t212 t213 t214 t220 t221 x9_2 x10_2 = some r) ∧ Aside0 (kq ≤ kj6) ∧ Aside0 (Below w.heap.size w w'))
        case atStart => exact ⟨(false), ((t213.size : Int)), (by first | rfl | (simp; done) | (simp [*]; done)), (by first | rfl | (simp; done) | (simp [*]; done)), H', ⟨Nat.le_refl _⟩, ⟨by repeat (first | (with_reducible first | exact HB.out | apply below_alloc | apply pw_below_drewN | apply below_drew1) | exact HB.out)⟩⟩
        case round =>
          clear H'
          try clear c1
          try clear c2
          try clear p2
          try clear c9
          try clear c10
          try clear c11
          try clear c13
          try clear c14
          try clear c14b0
          try clear c14b1
          try clear c15
          try clear c28
          try clear p2
          obtain ⟨x9_2, x10_2, rfl, rfl, HA, HK2, HB⟩ := hrel
          cases gk with
          | zero => exact absurd HA.out (by simp [cellarerlaw01_NameCuts.l0])
          | succ k2 =>
            have H := HA.out
            clear HA
            simp only [cellarerlaw01_NameCuts.l0] at H
            by_cases c33 : x10_2 < (t212.size : Int)
            · rw [if_pos c33] at H
              have c33b0 : decide (x10_2 < (t212.size : Int)) = true := decide_eq_true c33
              clear c33
              by_cases c34 : x9_2 = true
              · subst c34
                have H1 : (cellarerlaw01_NameCuts.l0 k2 t212 t213 t214 t220 t221 true (wrap64 (x10_2 + 1))) = some r := by rw [if_pos rfl] at H; exact H
                clear H
                have H := H1
                clear H1
                have H' := Aside0.mk H
                clear H
                go_wp2
                go_roundg k2
                case measure => have := HJ6.out; have := HK2.out; omega
                case rel => exact ⟨(true), (wrap64 (x10_2 + 1)), (by first | rfl | (simp; done) | (simp [*]; done)), (by first | rfl | (simp; done) | (simp [*]; done)), H', ⟨by have := HJ6.out; have := HK2.out; omega⟩, ⟨by repeat (first | (with_reducible first | exact HB.out | apply below_alloc | apply pw_below_drewN | apply below_drew1) | exact HB.out)⟩⟩
              · replace c34 := Bool.eq_false_iff.mpr c34
                subst c34
                have H1 : (if 0 ≤ x10_2 then (if x10_2 ≤ (wrap64 (x10_2 + 1)) then (if (wrap64 (x10_2 + 1)) ≤ (t212.size : Int) then (cellarerlaw01_NameCuts.l0 k2 t212 t213 t214 t220 t221 ((t212.extract (x10_2 : Int).toNat ((wrap64 (x10_2 + 1)) : Int).toNat).toList == t214.toList) (wrap64 (x10_2 + 1))) else (none)) else (none)) else (none)) = some r := by rw [if_neg (show ¬ (false = true) by decide)] at H; exact H
                clear H
                have H := H1
                clear H1
                by_cases c35 : 0 ≤ x10_2
                · rw [if_pos c35] at H
                  have c35b0 := eq_true c35
                  have c35b1 : decide (0 ≤ x10_2) = true := decide_eq_true c35
                  clear c35
                  by_cases c36 : x10_2 ≤ (wrap64 (x10_2 + 1))
                  · rw [if_pos c36] at H
                    have c36b0 := eq_true c36
                    have c36b1 : decide (x10_2 ≤ (wrap64 (x10_2 + 1))) = true := decide_eq_true c36
                    by_cases c37 : (wrap64 (x10_2 + 1)) ≤ (t212.size : Int)
                    · rw [if_pos c37] at H
                      have c37b0 := eq_true c37
                      have c37b1 : decide ((wrap64 (x10_2 + 1)) ≤ (t212.size : Int)) = true := decide_eq_true c37
                      have H' := Aside0.mk H
                      clear H
                      go_wp2
                      go_roundg k2
                      case measure => have := HJ6.out; have := HK2.out; omega
                      case rel => exact ⟨(((t212.extract (x10_2 : Int).toNat ((wrap64 (x10_2 + 1)) : Int).toNat).toList == t214.toList)), (wrap64 (x10_2 + 1)), (by first | rfl | (simp; done) | (simp [*]; done)), (by first | rfl | (simp; done) | (simp [*]; done)), H', ⟨by have := HJ6.out; have := HK2.out; omega⟩, ⟨by repeat (first | (with_reducible first | exact HB.out | apply below_alloc | apply pw_below_drewN | apply below_drew1) | exact HB.out)⟩⟩
                    · rw [if_neg c37] at H
                      exact absurd H (by simp)
                  · rw [if_neg c36] at H
                    exact absurd H (by simp)
                · rw [if_neg c35] at H
                  exact absurd H (by simp)
            · rw [if_neg c33] at H
              have c33b0 : decide (x10_2 < (t212.size : Int)) = false := decide_eq_false c33
              clear c33
              by_cases c38 : (t221 != x9_2) = true
              · rw [if_pos c38] at H
                have c38b0 : (t221 != x9_2) = true := c38
                (try (have c38b1 : decide (t221 = x9_2) = false := by simpa using c38))
                (try (have c38b2 : (t221 == x9_2) = false := by simpa using c38))
                (try (have c38b3 : ¬ (t221 = x9_2) := by simpa using c38))
                clear c38
                obtain rfl := Option.some.inj H
                go_wp2
                go_ret
                exact ⟨by first | rfl | (simp [errW_none, errW_some] <;> rfl) | (simp [*, errW_none, errW_some] <;> rfl), by repeat (first | (with_reducible first | exact HB.out | apply below_alloc | apply pw_below_drewN | apply below_drew1) | exact HB.out)⟩
              · rw [if_neg c38] at H
                have c38b0 : (t221 != x9_2) = false := by simpa using c38
                (try (have c38b1 : decide (t221 = x9_2) = true := by simpa using c38))
                (try (have c38b2 : (t221 == x9_2) = true := by simpa using c38))
                clear c38
                have H' := Aside0.mk H
                clear H
                go_wp2
                go_loopg [11] k2 (fun kq v11 w' => ∃ (x11_3 : Int), v11 = .int .i64 x11_3 ∧ Aside0 (cellarerlaw01_NameCuts.l1 kq t212 t214 t220 t221 x11_3 = some r) ∧ Aside0 (kq ≤ k2) ∧ Aside0 (Below w.heap.size w w'))
                case atStart => exact ⟨((t213.size : Int)), (by first | rfl | (simp; done) | (simp [*]; done)), H', ⟨Nat.le_refl _⟩, ⟨by repeat (first | (with_reducible first | exact HB.out | apply below_alloc | apply pw_below_drewN | apply below_drew1) | exact HB.out)⟩⟩
                case round =>
                  clear H'
                  try clear c1
                  try clear c2
                  try clear p2
                  try clear c3
                  try clear p6
                  try clear c9
                  try clear c10
                  try clear c11
                  try clear c13
                  try clear c14
                  try clear c14b0
                  try clear c14b1
                  try clear c15
                  try clear c28
                  try clear c33
                  try clear c33b0
                  try clear c34
                  try clear c35
                  try clear c35b0
                  try clear c35b1
                  try clear c36
                  try clear c36b0
                  try clear c36b1
                  try clear c37
                  try clear c37b0
                  try clear c37b1
                  try clear c38
                  try clear c38b0
                  try clear c38b1
                  try clear c38b2
                  try clear p2
                  obtain ⟨x11_3, rfl, HA, HK3, HB⟩ := hrel
                  cases gk with
                  | zero => exact absurd HA.out (by simp [cellarerlaw01_NameCuts.l1])
                  | succ k3 =>
                    have H := HA.out
                    clear HA
                    simp only [cellarerlaw01_NameCuts.l1] at H
                    have HC39 := Aside0.mk H
                    clear H
                    go_upto_region 13 with (fail)
                    go_cut [80] (fun v80 wc => ∃ (kq : Nat) (x80_38 : Bool), v80 = .bool x80_38 ∧ Aside0 (cellarerlaw01_NameCuts.j3 kq t212 t214 t220 t221 x11_3 x80_38 = some r) ∧ Aside0 (kq ≤ k3) ∧ Aside0 (Below w.heap.size w wc))
                    case first =>
                      have H := HC39.out
                      clear HC39
                      by_cases c40 : x11_3 ≤ (t212.size : Int)
                      · rw [if_pos c40] at H
                        have c40b0 : decide (x11_3 ≤ (t212.size : Int)) = true := decide_eq_true c40
                        clear c40
                        (first | rw [c40b0] | (simp only [i64_w, i32_w]; rw [c40b0]) | skip)
                        have H' := Aside0.mk H
                        clear H
                        go_wp2
                        go_meet
                        case rel => exact ⟨_, (t221), (by first | rfl | (simp; done) | (simp [*]; done)), H', ⟨by have := HJ6.out; have := HK2.out; have := HK3.out; first | omega | exact Nat.le_refl _⟩, ⟨by repeat (first | (with_reducible first | exact HB.out | apply below_alloc | apply pw_below_drewN | apply below_drew1) | exact HB.out)⟩⟩
                      · rw [if_neg c40] at H
                        have c40b0 : decide (x11_3 ≤ (t212.size : Int)) = false := decide_eq_false c40
                        clear c40
                        (first | rw [c40b0] | (simp only [i64_w, i32_w]; rw [c40b0]) | skip)
                        have H' := Aside0.mk H
                        clear H
                        go_wp2
                        go_meet
                        case rel => exact ⟨_, (false), (by first | rfl | (simp; done) | (simp [*]; done)), H', ⟨by have := HJ6.out; have := HK2.out; have := HK3.out; first | omega | exact Nat.le_refl _⟩, ⟨by repeat (first | (with_reducible first | exact HB.out | apply below_alloc | apply pw_below_drewN | apply below_drew1) | exact HB.out)⟩⟩
                    case rest =>
                      clear HC39
                      try clear c1
                      try clear c2
                      try clear p2
                      try clear c3
                      try clear c4
                      try clear p6
                      try clear c9
                      try clear c10
                      try clear c11
                      try clear c13
                      try clear c14
                      try clear c14b0
                      try clear c14b1
                      try clear c15
                      try clear c28
                      try clear c33
                      try clear c33b0
                      try clear c34
                      try clear c35
                      try clear c35b0
                      try clear c35b1
                      try clear c36
                      try clear c36b0
                      try clear c36b1
                      try clear c37
                      try clear c37b0
                      try clear c37b1
                      try clear c38
                      try clear c38b0
                      try clear c38b1
                      try clear c38b2
                      try clear c40
                      try clear c40b0
                      try clear p2
                      try clear p6
                      obtain ⟨kq, x80_38, rfl, HA, HJ38, HB⟩ := hcut
                      cases kq with
                      | zero => exact absurd HA.out (by simp [cellarerlaw01_NameCuts.j3])
                      | succ kj38 =>
                        have H := HA.out
                        clear HA
                        simp only [cellarerlaw01_NameCuts.j3] at H
                        by_cases c41 : x80_38 = true
                        · subst c41
                          have H1 : (if 0 ≤ x11_3 then (if x11_3 ≤ (t212.size : Int) then ((name_Group.f kj38 t212 (t212.extract 0 (x11_3 : Int).toNat) t214).bind fun bt223 => (if x11_3 < (t220.size : Int) then (if bt223.1.toList = t220.toList then (if x11_3 ≥ (t220.size : Int) then (if bt223.2 = true then (cellarerlaw01_NameCuts.j4 kj38 t212 t214 t220 t221 x11_3 (decide ((bt223.1.size : Int) ≤ (t220.size : Int)))) else (cellarerlaw01_NameCuts.j4 kj38 t212 t214 t220 t221 x11_3 false)) else (cellarerlaw01_NameCuts.j4 kj38 t212 t214 t220 t221 x11_3 false)) else (cellarerlaw01_NameCuts.j4 kj38 t212 t214 t220 t221 x11_3 true)) else (if x11_3 ≥ (t220.size : Int) then (if bt223.2 = true then (cellarerlaw01_NameCuts.j4 kj38 t212 t214 t220 t221 x11_3 (decide ((bt223.1.size : Int) ≤ (t220.size : Int)))) else (cellarerlaw01_NameCuts.j4 kj38 t212 t214 t220 t221 x11_3 false)) else (cellarerlaw01_NameCuts.j4 kj38 t212 t214 t220 t221 x11_3 false)))) else (none)) else (none)) = some r := by rw [if_pos rfl] at H; exact H
                          clear H
                          have H := H1
                          clear H1
                          by_cases c42 : 0 ≤ x11_3
                          · rw [if_pos c42] at H
                            have c42b0 := eq_true c42
                            have c42b1 : decide (0 ≤ x11_3) = true := decide_eq_true c42
                            clear c42
                            by_cases c43 : x11_3 ≤ (t212.size : Int)
                            · rw [if_pos c43] at H
                              have c43b0 := eq_true c43
                              have c43b1 : decide (x11_3 ≤ (t212.size : Int)) = true := decide_eq_true c43
                              clear c43
                              replace H := Option.bind_eq_some_iff.mp H
                              obtain ⟨⟨t223, t224⟩, A440, H⟩ := H
                              replace H : (if x11_3 < (t220.size : Int) then (if t223.toList = t220.toList then (if x11_3 ≥ (t220.size : Int) then (if t224 = true then (cellarerlaw01_NameCuts.j4 kj38 t212 t214 t220 t221 x11_3 (decide ((t223.size : Int) ≤ (t220.size : Int)))) else (cellarerlaw01_NameCuts.j4 kj38 t212 t214 t220 t221 x11_3 false)) else (cellarerlaw01_NameCuts.j4 kj38 t212 t214 t220 t221 x11_3 false)) else (cellarerlaw01_NameCuts.j4 kj38 t212 t214 t220 t221 x11_3 true)) else (if x11_3 ≥ (t220.size : Int) then (if t224 = true then (cellarerlaw01_NameCuts.j4 kj38 t212 t214 t220 t221 x11_3 (decide ((t223.size : Int) ≤ (t220.size : Int)))) else (cellarerlaw01_NameCuts.j4 kj38 t212 t214 t220 t221 x11_3 false)) else (cellarerlaw01_NameCuts.j4 kj38 t212 t214 t220 t221 x11_3 false))) = some r := H
                              have A44 := Aside0.mk A440
                              clear A440
                              have HC45 := Aside0.mk H
                              clear H
                              go_upto_region 16 with (first | ((with_reducible refine gate_callee (f := 11) rfl ?_); refine goesL_ (some 89) rfl rfl Try.func11 (by kernel_rfl) rfl #[.string t212, .string (t212.extract 0 (x11_3 : Int).toNat), .string t214] rfl (by (try simp only [List.map_toArray, List.map_cons, List.map_nil]); first | done | rfl | (simp only [List.length_drop, List.length_take]; rfl)) ?_; (with_reducible refine (name_Group.calls kj38 t212 (t212.extract 0 (x11_3 : Int).toNat) t214 t223 t224 _ A44.out).mono ?_); rintro e w46 ⟨rfl, hb⟩; refine ⟨_, rfl, ?_⟩; have n0_ := Aside0.mk (below_step (by repeat (first | (with_reducible first | exact HB.out | apply below_alloc | apply pw_below_drewN | apply below_drew1) | exact HB.out)) hb); clear HB; have HB := n0_; clear n0_; (try clear hb); (try clear hb2); (try clear hk); (try clear hi)))
                              (try simp only [Act.put, List.setIfInBounds_toArray, List.set_cons_zero, List.set_cons_succ])
                              go_cut [116] (fun v116 wc => ∃ (kq : Nat) (x116_44 : Bool), v116 = .bool x116_44 ∧ Aside0 (cellarerlaw01_NameCuts.j4 kq t212 t214 t220 t221 x11_3 x116_44 = some r) ∧ Aside0 (kq ≤ kj38) ∧ Aside0 (Below w.heap.size w wc))
                              case first =>
                                have H := HC45.out
                                clear HC45
                                by_cases c47 : x11_3 < (t220.size : Int)
                                · rw [if_pos c47] at H
                                  have c47b0 : decide (x11_3 < (t220.size : Int)) = true := decide_eq_true c47
                                  clear c47
                                  (first | rw [c47b0] | (simp only [i64_w, i32_w]; rw [c47b0]) | skip)
                                  by_cases c48 : t223.toList = t220.toList
                                  · rw [if_pos c48] at H
                                    have c48b0 : (t223.toList == t220.toList) = true := beq_iff_eq.mpr c48
                                    have c48b1 : (t223.toList != t220.toList) = false := bne_eq_false_iff_eq.mpr c48
                                    clear c48
                                    by_cases c49 : x11_3 ≥ (t220.size : Int)
                                    · rw [if_pos c49] at H
                                      have c49b0 : decide ((t220.size : Int) ≤ x11_3) = true := decide_eq_true c49
                                      clear c49
                                      by_cases c50 : t224 = true
                                      · subst c50
                                        have H1 : (cellarerlaw01_NameCuts.j4 kj38 t212 t214 t220 t221 x11_3 (decide ((t223.size : Int) ≤ (t220.size : Int)))) = some r := by rw [if_pos rfl] at H; exact H
                                        clear H
                                        have H := H1
                                        clear H1
                                        have H' := Aside0.mk H
                                        clear H
                                        go_wp2
                                        go_meet
                                        case rel => exact ⟨_, (decide ((t223.size : Int) ≤ (t220.size : Int))), (by first | rfl | (simp; done) | (simp [*]; done)), H', ⟨by have := HJ6.out; have := HK2.out; have := HK3.out; have := HJ38.out; first | omega | exact Nat.le_refl _⟩, ⟨by repeat (first | (with_reducible first | exact HB.out | apply below_alloc | apply pw_below_drewN | apply below_drew1) | exact HB.out)⟩⟩
                                      · replace c50 := Bool.eq_false_iff.mpr c50
                                        subst c50
                                        have H1 : (cellarerlaw01_NameCuts.j4 kj38 t212 t214 t220 t221 x11_3 false) = some r := by rw [if_neg (show ¬ (false = true) by decide)] at H; exact H
                                        clear H
                                        have H := H1
                                        clear H1
                                        have H' := Aside0.mk H
                                        clear H
                                        go_wp2
                                        go_meet
                                        case rel => exact ⟨_, (false), (by first | rfl | (simp; done) | (simp [*]; done)), H', ⟨by have := HJ6.out; have := HK2.out; have := HK3.out; have := HJ38.out; first | omega | exact Nat.le_refl _⟩, ⟨by repeat (first | (with_reducible first | exact HB.out | apply below_alloc | apply pw_below_drewN | apply below_drew1) | exact HB.out)⟩⟩
                                    · rw [if_neg c49] at H
                                      have c49b0 : decide ((t220.size : Int) ≤ x11_3) = false := decide_eq_false c49
                                      clear c49
                                      have H' := Aside0.mk H
                                      clear H
                                      go_wp2
                                      go_meet
                                      case rel => exact ⟨_, (false), (by first | rfl | (simp; done) | (simp [*]; done)), H', ⟨by have := HJ6.out; have := HK2.out; have := HK3.out; have := HJ38.out; first | omega | exact Nat.le_refl _⟩, ⟨by repeat (first | (with_reducible first | exact HB.out | apply below_alloc | apply pw_below_drewN | apply below_drew1) | exact HB.out)⟩⟩
                                  · rw [if_neg c48] at H
                                    have c48b0 : (t223.toList == t220.toList) = false := beq_eq_false_iff_ne.mpr c48
                                    have c48b1 : (t223.toList != t220.toList) = true := bne_iff_ne.mpr c48
                                    have H' := Aside0.mk H
                                    clear H
                                    go_wp2
                                    go_meet
                                    case rel => exact ⟨_, (true), (by first | rfl | (simp; done) | (simp [*]; done)), H', ⟨by have := HJ6.out; have := HK2.out; have := HK3.out; have := HJ38.out; first | omega | exact Nat.le_refl _⟩, ⟨by repeat (first | (with_reducible first | exact HB.out | apply below_alloc | apply pw_below_drewN | apply below_drew1) | exact HB.out)⟩⟩
                                · rw [if_neg c47] at H
                                  have c47b0 : decide (x11_3 < (t220.size : Int)) = false := decide_eq_false c47
                                  clear c47
                                  (first | rw [c47b0] | (simp only [i64_w, i32_w]; rw [c47b0]) | skip)
                                  by_cases c51 : x11_3 ≥ (t220.size : Int)
                                  · rw [if_pos c51] at H
                                    have c51b0 : decide ((t220.size : Int) ≤ x11_3) = true := decide_eq_true c51
                                    clear c51
                                    by_cases c52 : t224 = true
                                    · subst c52
                                      have H1 : (cellarerlaw01_NameCuts.j4 kj38 t212 t214 t220 t221 x11_3 (decide ((t223.size : Int) ≤ (t220.size : Int)))) = some r := by rw [if_pos rfl] at H; exact H
                                      clear H
                                      have H := H1
                                      clear H1
                                      have H' := Aside0.mk H
                                      clear H
                                      go_wp2
                                      go_meet
                                      case rel => exact ⟨_, (decide ((t223.size : Int) ≤ (t220.size : Int))), (by first | rfl | (simp; done) | (simp [*]; done)), H', ⟨by have := HJ6.out; have := HK2.out; have := HK3.out; have := HJ38.out; first | omega | exact Nat.le_refl _⟩, ⟨by repeat (first | (with_reducible first | exact HB.out | apply below_alloc | apply pw_below_drewN | apply below_drew1) | exact HB.out)⟩⟩
                                    · replace c52 := Bool.eq_false_iff.mpr c52
                                      subst c52
                                      have H1 : (cellarerlaw01_NameCuts.j4 kj38 t212 t214 t220 t221 x11_3 false) = some r := by rw [if_neg (show ¬ (false = true) by decide)] at H; exact H
                                      clear H
                                      have H := H1
                                      clear H1
                                      have H' := Aside0.mk H
                                      clear H
                                      go_wp2
                                      go_meet
                                      case rel => exact ⟨_, (false), (by first | rfl | (simp; done) | (simp [*]; done)), H', ⟨by have := HJ6.out; have := HK2.out; have := HK3.out; have := HJ38.out; first | omega | exact Nat.le_refl _⟩, ⟨by repeat (first | (with_reducible first | exact HB.out | apply below_alloc | apply pw_below_drewN | apply below_drew1) | exact HB.out)⟩⟩
                                  · rw [if_neg c51] at H
                                    have c51b0 : decide ((t220.size : Int) ≤ x11_3) = false := decide_eq_false c51
                                    clear c51
                                    have H' := Aside0.mk H
                                    clear H
                                    go_wp2
                                    go_meet
                                    case rel => exact ⟨_, (false), (by first | rfl | (simp; done) | (simp [*]; done)), H', ⟨by have := HJ6.out; have := HK2.out; have := HK3.out; have := HJ38.out; first | omega | exact Nat.le_refl _⟩, ⟨by repeat (first | (with_reducible first | exact HB.out | apply below_alloc | apply pw_below_drewN | apply below_drew1) | exact HB.out)⟩⟩
                              case rest =>
                                clear HC45
                                try clear c1
                                try clear c2
                                try clear p2
                                try clear c3
                                try clear c4
                                try clear c5
                                try clear p6
                                try clear c9
                                try clear c10
                                try clear c11
                                try clear c13
                                try clear c14
                                try clear c14b0
                                try clear c14b1
                                try clear c15
                                try clear c28
                                try clear c33
                                try clear c33b0
                                try clear c34
                                try clear c35
                                try clear c35b0
                                try clear c35b1
                                try clear c36
                                try clear c36b0
                                try clear c36b1
                                try clear c37
                                try clear c37b0
                                try clear c37b1
                                try clear c38
                                try clear c38b0
                                try clear c38b1
                                try clear c38b2
                                try clear c40
                                try clear c40b0
                                try clear c41
                                try clear c42
                                try clear c42b0
                                try clear c42b1
                                try clear c43
                                try clear c43b0
                                try clear c43b1
                                try clear c47
                                try clear c47b0
                                try clear c48
                                try clear c48b0
                                try clear c48b1
                                try clear c49
                                try clear c49b0
                                try clear c50
                                try clear c51
                                try clear c51b0
                                try clear c52
                                try clear p2
                                try clear p6
                                obtain ⟨kq, x116_44, rfl, HA, HJ44, HB⟩ := hcut
                                cases kq with
                                | zero => exact absurd HA.out (by simp [cellarerlaw01_NameCuts.j4])
                                | succ kj44 =>
                                  have H := HA.out
                                  clear HA
                                  simp only [cellarerlaw01_NameCuts.j4] at H
                                  by_cases c53 : x116_44 = true
                                  · subst c53
                                    have H1 : (some false) = some r := by rw [if_pos rfl] at H; exact H
                                    clear H
                                    have H := H1
                                    clear H1
                                    obtain rfl := Option.some.inj H
                                    go_wp2
                                    go_ret
                                    exact ⟨by first | rfl | (simp [errW_none, errW_some] <;> rfl) | (simp [*, errW_none, errW_some] <;> rfl), by repeat (first | (with_reducible first | exact HB.out | apply below_alloc | apply pw_below_drewN | apply below_drew1) | exact HB.out)⟩
                                  · replace c53 := Bool.eq_false_iff.mpr c53
                                    subst c53
                                    have H1 : (cellarerlaw01_NameCuts.l1 kj44 t212 t214 t220 t221 (wrap64 (x11_3 + 1))) = some r := by rw [if_neg (show ¬ (false = true) by decide)] at H; exact H
                                    clear H
                                    have H := H1
                                    clear H1
                                    have H' := Aside0.mk H
                                    clear H
                                    go_wp2
                                    go_roundg kj44
                                    case measure => have := HJ6.out; have := HK2.out; have := HK3.out; have := HJ38.out; have := HJ44.out; omega
                                    case rel => exact ⟨(wrap64 (x11_3 + 1)), (by first | rfl | (simp; done) | (simp [*]; done)), H', ⟨by have := HJ6.out; have := HK2.out; have := HK3.out; have := HJ38.out; have := HJ44.out; omega⟩, ⟨by repeat (first | (with_reducible first | exact HB.out | apply below_alloc | apply pw_below_drewN | apply below_drew1) | exact HB.out)⟩⟩
                            · rw [if_neg c43] at H
                              exact absurd H (by simp)
                          · rw [if_neg c42] at H
                            exact absurd H (by simp)
                        · replace c41 := Bool.eq_false_iff.mpr c41
                          subst c41
                          have H1 : ((cellarerlaw01_awake.f kj38).bind fun t222 => (some t222)) = some r := by rw [if_neg (show ¬ (false = true) by decide)] at H; exact H
                          clear H
                          have H := H1
                          clear H1
                          replace H := Option.bind_eq_some_iff.mp H
                          obtain ⟨t222, A540, H⟩ := H
                          replace H : (some t222) = some r := H
                          have A54 := Aside0.mk A540
                          clear A540
                          obtain rfl := Option.some.inj H
                          go_wp2_with (first | ((with_reducible refine gate_callee (f := 13) rfl ?_); refine goesL_ (some 117) rfl rfl Try.func13 (by kernel_rfl) rfl #[] rfl (by (try simp only [List.map_toArray, List.map_cons, List.map_nil]); first | done | rfl | (simp only [List.length_drop, List.length_take]; rfl)) ?_; (with_reducible refine (cellarerlaw01_awake.calls kj38  t222 _ A54.out).mono ?_); rintro e w55 ⟨rfl, hb⟩; refine ⟨_, rfl, ?_⟩; have n0_ := Aside0.mk (below_step (by repeat (first | (with_reducible first | exact HB.out | apply below_alloc | apply pw_below_drewN | apply below_drew1) | exact HB.out)) hb); clear HB; have HB := n0_; clear n0_; (try clear hb); (try clear hb2); (try clear hk); (try clear hi)))
                          go_ret
                          exact ⟨by first | rfl | (simp [errW_none, errW_some] <;> rfl) | (simp [*, errW_none, errW_some] <;> rfl), by repeat (first | (with_reducible first | exact HB.out | apply below_alloc | apply pw_below_drewN | apply below_drew1) | exact HB.out)⟩

/-- THE ONE PURE STATEMENT of cellarerlaw01_NameCuts: yours. -/
def cellarerlaw01_NameCuts.Pure : Prop := ∀ (a0 : ByteArray) (a1 : ByteArray) (a2 : ByteArray), a0.size ≤ 140737488351232 → a1.size ≤ 140737488351232 → a2.size ≤ 140737488351232 → ∃ k, cellarerlaw01_NameCuts.f k a0 a1 a2 = some true
theorem cellarerlaw01_NameCuts.walk (P : cellarerlaw01_NameCuts.Pure) (a0 : ByteArray) (a1 : ByteArray) (a2 : ByteArray) (w : World) (w0 : a0.size ≤ 140737488351232) (w1 : a1.size ≤ 140737488351232) (w2 : a2.size ≤ 140737488351232) :
    Calls Try.prog 9 #[.string a0, .string a1, .string a2] w fun e w' => e = .returned (.bool true) ∧ Below w.heap.size w w' := by
  obtain ⟨k, h⟩ := P a0 a1 a2 w0 w1 w2
  refine (cellarerlaw01_NameCuts.calls k a0 a1 a2 true w h).mono ?_
  rintro e w' ⟨rfl, hd⟩
  exact ⟨rfl, hd⟩

end Go.Proofs.Ythlemogcaoehbaa.P
