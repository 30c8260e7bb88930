/-
  cellarerlaw07.PagerVersions, told as far as it returns true: printed over a listing whose count is a row, the map put back.
-/
import Derived.Test.YtcnnijkgiioniaaProg
import Derived.Test.YtcnnijkgiioniaaCmp
import Derived.Test.YtcnnijkgiioniaaNmSpec
import Derived.Test.YtcnnijkgiioniaaPgAwake
import Derived.Test.YtcnnijkgiioniaaPgMapV
import Derived.Test.YtcnnijkgiioniaaPgRowI
import Derived.Test.YtcnnijkgiioniaaPgSpec
import Derived.Test.YtcnnijkgiioniaaPx0
import Derived.Test.YtcnnijkgiioniaaPx17
import Derived.Test.YtcnnijkgiioniaaPx19
import Derived.Test.YtcnnijkgiioniaaPx2
import Derived.Test.YtcnnijkgiioniaaPx20b
import Derived.Test.YtcnnijkgiioniaaPx9
import Derived.Test.YtcnnijkgiioniaaPxOpens
import Derived.Test.YtcnnijkgiioniaaV0
set_option linter.unusedVariables false
set_option linter.unusedSimpArgs false
namespace Go.Proofs.Ytcnnijkgiioniaa.P
open Go Go.RowKit Go.Proofs.YtcnnijkgiioniaaW.PrintWords Go.Proofs.YtcnnijkgiioniaaW.PrintLast Go.Proofs.YtcnnijkgiioniaaW.PrintMore
attribute [local go_sem] max2_int min2_int max_two min_two max_three min_three max_four min_four

mutual
def cellarerlaw07_PagerVersions.j0 : Nat → List (S50) → List Int → List (S65) → Bool → Int → Bool → Option (Bool)
  | 0, _, _, _, _, _, _ => none
  | k + 1, x0, x1, x5, x6, x7, x30 => if x30 = true then (if x7 = 1 then ((cellarerlaw07_awake.f).bind fun t166 => (some t166)) else (if x6 = true then ((cellarerref06_Many.f k x0).bind fun t167 => (if t167 > 1000 then ((cellarerlaw07_awake.f).bind fun t168 => (some t168)) else (some false))) else (some false))) else ((cellarerref06_Many.f k x0).bind fun t169 => (if (x5.length : Int) = t169 then (cellarerlaw07_PagerVersions.l0 k x0 x1 x5 ([] : List ByteArray) 0) else (some false)))
def cellarerlaw07_PagerVersions.l0 : Nat → List (S50) → List Int → List (S65) → List ByteArray → Int → Option (Bool)
  | 0, _, _, _, _, _ => none
  | k + 1, x0, x1, x5, x8, x9 => if x9 < (x5.length : Int) then (if 0 ≤ x9 then (if (rd_T65 x5 x9).f2 = true then (if (x8.length < 8796093022208 ∧ ((rd_T65 x5 x9).f0).size ≤ 1000000) then (cellarerlaw07_PagerVersions.l0 k x0 x1 x5 (x8 ++ [(rd_T65 x5 x9).f0]) (wrap64 (x9 + 1))) else (none)) else (cellarerlaw07_PagerVersions.l0 k x0 x1 x5 x8 (wrap64 (x9 + 1)))) else (none)) else ((PgMapV.lenAt x8).bind fun t175 => (if t175 = (x0.length : Int) then (cellarerlaw07_PagerVersions.l1 k x0 x1 x5 (⟨#[]⟩ : ByteArray) 0 0 0) else (some false)))
def cellarerlaw07_PagerVersions.l1 : Nat → List (S50) → List Int → List (S65) → ByteArray → Int → Int → Int → Option (Bool)
  | 0, _, _, _, _, _, _, _ => none
  | k + 1, x0, x1, x5, x10, x11, x12, x13 => if x13 ≤ (x5.length : Int) then (cellarerlaw07_PagerVersions.j3 k x0 x1 x5 x10 x11 x12 x13 (decide (x13 < 40))) else (cellarerlaw07_PagerVersions.j3 k x0 x1 x5 x10 x11 x12 x13 false)
def cellarerlaw07_PagerVersions.j3 : Nat → List (S50) → List Int → List (S65) → ByteArray → Int → Int → Int → Bool → Option (Bool)
  | 0, _, _, _, _, _, _, _, _ => none
  | k + 1, x0, x1, x5, x10, x11, x12, x13, x81 => if x81 = true then (if x13 < (x1.length : Int) then (if 0 ≤ x13 then (cellarerlaw07_PagerVersions.j4 k x0 x1 x5 x10 x11 x12 x13 (wrap64 (1 + (wrap64 (Int.tmod (rd x1 x13) 5))))) else (none)) else (cellarerlaw07_PagerVersions.j4 k x0 x1 x5 x10 x11 x12 x13 1)) else ((cellarerlaw07_awake.f).bind fun t176 => (some t176))
def cellarerlaw07_PagerVersions.j4 : Nat → List (S50) → List Int → List (S65) → ByteArray → Int → Int → Int → Int → Option (Bool)
  | 0, _, _, _, _, _, _, _, _ => none
  | k + 1, x0, x1, x5, x10, x11, x12, x13, x14 => (pager_Rows.f k x0 (⟨#[]⟩ : ByteArray) x10 x11 x14).bind fun bt178 => (if bt178.2.2 = 0 then (if (wrap64 (x12 + (bt178.1.length : Int))) > (x5.length : Int) then (cellarerlaw07_PagerVersions.j5 k x0 x1 x5 x12 x13 bt178.1 bt178.2.1 true) else (if (bt178.2.1 != (decide ((wrap64 (x12 + (bt178.1.length : Int))) < (x5.length : Int)))) = true then (cellarerlaw07_PagerVersions.j5 k x0 x1 x5 x12 x13 bt178.1 bt178.2.1 true) else (if 0 ≤ x12 then (if x12 ≤ (wrap64 (x12 + (bt178.1.length : Int))) then (if (wrap64 (x12 + (bt178.1.length : Int))) ≤ (x5.length : Int) then ((cellarerref07_Same.f k bt178.1 ((x5.take ((wrap64 (x12 + (bt178.1.length : Int))) : Int).toNat).drop (x12 : Int).toNat)).bind fun t188 => (cellarerlaw07_PagerVersions.j5 k x0 x1 x5 x12 x13 bt178.1 bt178.2.1 (!t188))) else (none)) else (none)) else (none)))) else (cellarerlaw07_PagerVersions.j5 k x0 x1 x5 x12 x13 bt178.1 bt178.2.1 true))
def cellarerlaw07_PagerVersions.j5 : Nat → List (S50) → List Int → List (S65) → Int → Int → List (S65) → Bool → Bool → Option (Bool)
  | 0, _, _, _, _, _, _, _, _ => none
  | k + 1, x0, x1, x5, x12, x13, x15, x16, x137 => if x137 = true then (some false) else (if x16 = true then (if (x15.length : Int) = 0 then (some false) else (if 0 ≤ (wrap64 ((x15.length : Int) - 1)) then (if (wrap64 ((x15.length : Int) - 1)) < (x15.length : Int) then (cellarerlaw07_PagerVersions.l1 k x0 x1 x5 ((rd_T65 x15 (wrap64 ((x15.length : Int) - 1))).f0) ((rd_T65 x15 (wrap64 ((x15.length : Int) - 1))).f1) (wrap64 (x12 + (x15.length : Int))) (wrap64 (x13 + 1))) else (none)) else (none))) else (if (wrap64 (x12 + (x15.length : Int))) = (x5.length : Int) then ((cellarerlaw07_awake.f).bind fun t189 => (some t189)) else (some false)))
end
def cellarerlaw07_PagerVersions.f (k : Nat) (l0 : List (S50)) (l1 : List Int) : Option (Bool) := (cellarerlaw06_Few.f k l0).bind fun t158 => ((pager_Rows.f k t158 (⟨#[]⟩ : ByteArray) (⟨#[]⟩ : ByteArray) 0 1000).bind fun bt161 => (if bt161.2.2 = 0 then (cellarerlaw07_PagerVersions.j0 k t158 l1 bt161.1 bt161.2.1 bt161.2.2 bt161.2.1) else (cellarerlaw07_PagerVersions.j0 k t158 l1 bt161.1 bt161.2.1 bt161.2.2 true)))
theorem cellarerlaw07_PagerVersions.mono_l : ∀ k, (∀ y0 y1 y2 y3 y4 y5, LeO (cellarerlaw07_PagerVersions.j0 k y0 y1 y2 y3 y4 y5) (cellarerlaw07_PagerVersions.j0 (k + 1) y0 y1 y2 y3 y4 y5)) ∧ (∀ y0 y1 y2 y3 y4, LeO (cellarerlaw07_PagerVersions.l0 k y0 y1 y2 y3 y4) (cellarerlaw07_PagerVersions.l0 (k + 1) y0 y1 y2 y3 y4)) ∧ (∀ y0 y1 y2 y3 y4 y5 y6, LeO (cellarerlaw07_PagerVersions.l1 k y0 y1 y2 y3 y4 y5 y6) (cellarerlaw07_PagerVersions.l1 (k + 1) y0 y1 y2 y3 y4 y5 y6)) ∧ (∀ y0 y1 y2 y3 y4 y5 y6 y7, LeO (cellarerlaw07_PagerVersions.j3 k y0 y1 y2 y3 y4 y5 y6 y7) (cellarerlaw07_PagerVersions.j3 (k + 1) y0 y1 y2 y3 y4 y5 y6 y7)) ∧ (∀ y0 y1 y2 y3 y4 y5 y6 y7, LeO (cellarerlaw07_PagerVersions.j4 k y0 y1 y2 y3 y4 y5 y6 y7) (cellarerlaw07_PagerVersions.j4 (k + 1) y0 y1 y2 y3 y4 y5 y6 y7)) ∧ (∀ y0 y1 y2 y3 y4 y5 y6 y7, LeO (cellarerlaw07_PagerVersions.j5 k y0 y1 y2 y3 y4 y5 y6 y7) (cellarerlaw07_PagerVersions.j5 (k + 1) y0 y1 y2 y3 y4 y5 y6 y7))
  | 0 => ⟨fun _ _ _ _ _ _ r h => by simp [cellarerlaw07_PagerVersions.j0] at h, fun _ _ _ _ _ r h => by simp [cellarerlaw07_PagerVersions.l0] at h, fun _ _ _ _ _ _ _ r h => by simp [cellarerlaw07_PagerVersions.l1] at h, fun _ _ _ _ _ _ _ _ r h => by simp [cellarerlaw07_PagerVersions.j3] at h, fun _ _ _ _ _ _ _ _ r h => by simp [cellarerlaw07_PagerVersions.j4] at h, fun _ _ _ _ _ _ _ _ r h => by simp [cellarerlaw07_PagerVersions.j5] at h⟩
  | k + 1 => by
    obtain ⟨ih0, ih1, ih2, ih3, ih4, ih5⟩ := cellarerlaw07_PagerVersions.mono_l k
    refine ⟨?_, ?_, ?_, ?_, ?_, ?_⟩
    · intro y0 y1 y2 y3 y4 y5
      unfold cellarerlaw07_PagerVersions.j0
      repeat' first
      | (with_reducible exact ih0 _ _ _ _ _ _)
      | (with_reducible exact ih1 _ _ _ _ _)
      | (with_reducible exact ih2 _ _ _ _ _ _ _)
      | (with_reducible exact ih3 _ _ _ _ _ _ _ _)
      | (with_reducible exact ih4 _ _ _ _ _ _ _ _)
      | (with_reducible exact ih5 _ _ _ _ _ _ _ _)
      | (with_reducible exact cellarerlaw06_Few.mono _ _)
      | (with_reducible exact cellarerref06_Many.mono _ _)
      | (with_reducible exact cellarerref07_Same.mono _ _ _)
      | (with_reducible exact pager_Rows.mono _ _ _ _ _ _)
      | (with_reducible exact LeO.refl _)
      | (with_reducible exact LeO.none _)
      | (with_reducible refine LeO.ite ?_ ?_)
      | (with_reducible refine LeO.bind ?_ (fun _ => ?_))
      | exact ih0 _ _ _ _ _ _
      | exact ih1 _ _ _ _ _
      | exact ih2 _ _ _ _ _ _ _
      | exact ih3 _ _ _ _ _ _ _ _
      | exact ih4 _ _ _ _ _ _ _ _
      | exact ih5 _ _ _ _ _ _ _ _
      | exact cellarerlaw06_Few.mono _ _
      | exact cellarerref06_Many.mono _ _
      | exact cellarerref07_Same.mono _ _ _
      | exact pager_Rows.mono _ _ _ _ _ _
      | exact LeO.none _
      | refine LeO.ite ?_ ?_
      | refine LeO.bind ?_ (fun _ => ?_)
    · intro y0 y1 y2 y3 y4
      unfold cellarerlaw07_PagerVersions.l0
      repeat' first
      | (with_reducible exact ih0 _ _ _ _ _ _)
      | (with_reducible exact ih1 _ _ _ _ _)
      | (with_reducible exact ih2 _ _ _ _ _ _ _)
      | (with_reducible exact ih3 _ _ _ _ _ _ _ _)
      | (with_reducible exact ih4 _ _ _ _ _ _ _ _)
      | (with_reducible exact ih5 _ _ _ _ _ _ _ _)
      | (with_reducible exact cellarerlaw06_Few.mono _ _)
      | (with_reducible exact cellarerref06_Many.mono _ _)
      | (with_reducible exact cellarerref07_Same.mono _ _ _)
      | (with_reducible exact pager_Rows.mono _ _ _ _ _ _)
      | (with_reducible exact LeO.refl _)
      | (with_reducible exact LeO.none _)
      | (with_reducible refine LeO.ite ?_ ?_)
      | (with_reducible refine LeO.bind ?_ (fun _ => ?_))
      | exact ih0 _ _ _ _ _ _
      | exact ih1 _ _ _ _ _
      | exact ih2 _ _ _ _ _ _ _
      | exact ih3 _ _ _ _ _ _ _ _
      | exact ih4 _ _ _ _ _ _ _ _
      | exact ih5 _ _ _ _ _ _ _ _
      | exact cellarerlaw06_Few.mono _ _
      | exact cellarerref06_Many.mono _ _
      | exact cellarerref07_Same.mono _ _ _
      | exact pager_Rows.mono _ _ _ _ _ _
      | exact LeO.none _
      | refine LeO.ite ?_ ?_
      | refine LeO.bind ?_ (fun _ => ?_)
    · intro y0 y1 y2 y3 y4 y5 y6
      unfold cellarerlaw07_PagerVersions.l1
      repeat' first
      | (with_reducible exact ih0 _ _ _ _ _ _)
      | (with_reducible exact ih1 _ _ _ _ _)
      | (with_reducible exact ih2 _ _ _ _ _ _ _)
      | (with_reducible exact ih3 _ _ _ _ _ _ _ _)
      | (with_reducible exact ih4 _ _ _ _ _ _ _ _)
      | (with_reducible exact ih5 _ _ _ _ _ _ _ _)
      | (with_reducible exact cellarerlaw06_Few.mono _ _)
      | (with_reducible exact cellarerref06_Many.mono _ _)
      | (with_reducible exact cellarerref07_Same.mono _ _ _)
      | (with_reducible exact pager_Rows.mono _ _ _ _ _ _)
      | (with_reducible exact LeO.refl _)
      | (with_reducible exact LeO.none _)
      | (with_reducible refine LeO.ite ?_ ?_)
      | (with_reducible refine LeO.bind ?_ (fun _ => ?_))
      | exact ih0 _ _ _ _ _ _
      | exact ih1 _ _ _ _ _
      | exact ih2 _ _ _ _ _ _ _
      | exact ih3 _ _ _ _ _ _ _ _
      | exact ih4 _ _ _ _ _ _ _ _
      | exact ih5 _ _ _ _ _ _ _ _
      | exact cellarerlaw06_Few.mono _ _
      | exact cellarerref06_Many.mono _ _
      | exact cellarerref07_Same.mono _ _ _
      | exact pager_Rows.mono _ _ _ _ _ _
      | exact LeO.none _
      | refine LeO.ite ?_ ?_
      | refine LeO.bind ?_ (fun _ => ?_)
    · intro y0 y1 y2 y3 y4 y5 y6 y7
      unfold cellarerlaw07_PagerVersions.j3
      repeat' first
      | (with_reducible exact ih0 _ _ _ _ _ _)
      | (with_reducible exact ih1 _ _ _ _ _)
      | (with_reducible exact ih2 _ _ _ _ _ _ _)
      | (with_reducible exact ih3 _ _ _ _ _ _ _ _)
      | (with_reducible exact ih4 _ _ _ _ _ _ _ _)
      | (with_reducible exact ih5 _ _ _ _ _ _ _ _)
      | (with_reducible exact cellarerlaw06_Few.mono _ _)
      | (with_reducible exact cellarerref06_Many.mono _ _)
      | (with_reducible exact cellarerref07_Same.mono _ _ _)
      | (with_reducible exact pager_Rows.mono _ _ _ _ _ _)
      | (with_reducible exact LeO.refl _)
      | (with_reducible exact LeO.none _)
      | (with_reducible refine LeO.ite ?_ ?_)
      | (with_reducible refine LeO.bind ?_ (fun _ => ?_))
      | exact ih0 _ _ _ _ _ _
      | exact ih1 _ _ _ _ _
      | exact ih2 _ _ _ _ _ _ _
      | exact ih3 _ _ _ _ _ _ _ _
      | exact ih4 _ _ _ _ _ _ _ _
      | exact ih5 _ _ _ _ _ _ _ _
      | exact cellarerlaw06_Few.mono _ _
      | exact cellarerref06_Many.mono _ _
      | exact cellarerref07_Same.mono _ _ _
      | exact pager_Rows.mono _ _ _ _ _ _
      | exact LeO.none _
      | refine LeO.ite ?_ ?_
      | refine LeO.bind ?_ (fun _ => ?_)
    · intro y0 y1 y2 y3 y4 y5 y6 y7
      unfold cellarerlaw07_PagerVersions.j4
      repeat' first
      | (with_reducible exact ih0 _ _ _ _ _ _)
      | (with_reducible exact ih1 _ _ _ _ _)
      | (with_reducible exact ih2 _ _ _ _ _ _ _)
      | (with_reducible exact ih3 _ _ _ _ _ _ _ _)
      | (with_reducible exact ih4 _ _ _ _ _ _ _ _)
      | (with_reducible exact ih5 _ _ _ _ _ _ _ _)
      | (with_reducible exact cellarerlaw06_Few.mono _ _)
      | (with_reducible exact cellarerref06_Many.mono _ _)
      | (with_reducible exact cellarerref07_Same.mono _ _ _)
      | (with_reducible exact pager_Rows.mono _ _ _ _ _ _)
      | (with_reducible exact LeO.refl _)
      | (with_reducible exact LeO.none _)
      | (with_reducible refine LeO.ite ?_ ?_)
      | (with_reducible refine LeO.bind ?_ (fun _ => ?_))
      | exact ih0 _ _ _ _ _ _
      | exact ih1 _ _ _ _ _
      | exact ih2 _ _ _ _ _ _ _
      | exact ih3 _ _ _ _ _ _ _ _
      | exact ih4 _ _ _ _ _ _ _ _
      | exact ih5 _ _ _ _ _ _ _ _
      | exact cellarerlaw06_Few.mono _ _
      | exact cellarerref06_Many.mono _ _
      | exact cellarerref07_Same.mono _ _ _
      | exact pager_Rows.mono _ _ _ _ _ _
      | exact LeO.none _
      | refine LeO.ite ?_ ?_
      | refine LeO.bind ?_ (fun _ => ?_)
    · intro y0 y1 y2 y3 y4 y5 y6 y7
      unfold cellarerlaw07_PagerVersions.j5
      repeat' first
      | (with_reducible exact ih0 _ _ _ _ _ _)
      | (with_reducible exact ih1 _ _ _ _ _)
      | (with_reducible exact ih2 _ _ _ _ _ _ _)
      | (with_reducible exact ih3 _ _ _ _ _ _ _ _)
      | (with_reducible exact ih4 _ _ _ _ _ _ _ _)
      | (with_reducible exact ih5 _ _ _ _ _ _ _ _)
      | (with_reducible exact cellarerlaw06_Few.mono _ _)
      | (with_reducible exact cellarerref06_Many.mono _ _)
      | (with_reducible exact cellarerref07_Same.mono _ _ _)
      | (with_reducible exact pager_Rows.mono _ _ _ _ _ _)
      | (with_reducible exact LeO.refl _)
      | (with_reducible exact LeO.none _)
      | (with_reducible refine LeO.ite ?_ ?_)
      | (with_reducible refine LeO.bind ?_ (fun _ => ?_))
      | exact ih0 _ _ _ _ _ _
      | exact ih1 _ _ _ _ _
      | exact ih2 _ _ _ _ _ _ _
      | exact ih3 _ _ _ _ _ _ _ _
      | exact ih4 _ _ _ _ _ _ _ _
      | exact ih5 _ _ _ _ _ _ _ _
      | exact cellarerlaw06_Few.mono _ _
      | exact cellarerref06_Many.mono _ _
      | exact cellarerref07_Same.mono _ _ _
      | exact pager_Rows.mono _ _ _ _ _ _
      | exact LeO.none _
      | refine LeO.ite ?_ ?_
      | refine LeO.bind ?_ (fun _ => ?_)
theorem cellarerlaw07_PagerVersions.mono : ∀ a0 a1 k, LeO (cellarerlaw07_PagerVersions.f k a0 a1) (cellarerlaw07_PagerVersions.f (k + 1) a0 a1) := by
  intro a0 a1 k
  obtain ⟨ih0, ih1, ih2, ih3, ih4, ih5⟩ := cellarerlaw07_PagerVersions.mono_l k
  unfold cellarerlaw07_PagerVersions.f
  repeat' first
      | (with_reducible exact ih0 _ _ _ _ _ _)
      | (with_reducible exact ih1 _ _ _ _ _)
      | (with_reducible exact ih2 _ _ _ _ _ _ _)
      | (with_reducible exact ih3 _ _ _ _ _ _ _ _)
      | (with_reducible exact ih4 _ _ _ _ _ _ _ _)
      | (with_reducible exact ih5 _ _ _ _ _ _ _ _)
      | (with_reducible exact cellarerlaw06_Few.mono _ _)
      | (with_reducible exact cellarerref06_Many.mono _ _)
      | (with_reducible exact cellarerref07_Same.mono _ _ _)
      | (with_reducible exact pager_Rows.mono _ _ _ _ _ _)
      | (with_reducible exact LeO.refl _)
      | (with_reducible exact LeO.none _)
      | (with_reducible refine LeO.ite ?_ ?_)
      | (with_reducible refine LeO.bind ?_ (fun _ => ?_))
      | exact ih0 _ _ _ _ _ _
      | exact ih1 _ _ _ _ _
      | exact ih2 _ _ _ _ _ _ _
      | exact ih3 _ _ _ _ _ _ _ _
      | exact ih4 _ _ _ _ _ _ _ _
      | exact ih5 _ _ _ _ _ _ _ _
      | exact cellarerlaw06_Few.mono _ _
      | exact cellarerref06_Many.mono _ _
      | exact cellarerref07_Same.mono _ _ _
      | exact pager_Rows.mono _ _ _ _ _ _
      | exact LeO.none _
      | refine LeO.ite ?_ ?_
      | refine LeO.bind ?_ (fun _ => ?_)
set_option maxHeartbeats 16000000 in
set_option maxRecDepth 100000 in
theorem cellarerlaw07_PagerVersions.calls (k : Nat) (A0 : Option Addr) (c0 : Nat) (l0 : List (S50)) (A1 : Option Addr) (c1 : Nat) (l1 : List Int) (r : Bool) (w : World) (hr0 : Kd.C k50 w A0 l0.length l0) (hc0 : l0.length ≤ c0) (hr1 : Kd.C (Kd.int .u8) w A1 l1.length l1) (hc1 : l1.length ≤ c1) (h : cellarerlaw07_PagerVersions.f k l0 l1 = some r) (hTR_ : r = true) :
  Calls Try.prog 9 #[.slice A0 l0.length c0, .slice A1 l1.length c1] w fun e w' => e = .returned (.bool r) ∧ Below w.heap.size w w' := by
 have HR0 := Aside0.mk hr0
 have HC0 := Aside0.mk hc0
 clear hr0 hc0
 have HR1 := Aside0.mk hr1
 have HC1 := Aside0.mk hc1
 clear hr1 hc1
 have HB := Aside0.mk (Below.refl w.heap.size w)
 have HTR_ := Aside0.mk hTR_
 clear hTR_
 have H : ((cellarerlaw06_Few.f k l0).bind fun t158 => ((pager_Rows.f k t158 (⟨#[]⟩ : ByteArray) (⟨#[]⟩ : ByteArray) 0 1000).bind fun bt161 => (if bt161.2.2 = 0 then (cellarerlaw07_PagerVersions.j0 k t158 l1 bt161.1 bt161.2.1 bt161.2.2 bt161.2.1) else (cellarerlaw07_PagerVersions.j0 k t158 l1 bt161.1 bt161.2.1 bt161.2.2 true)))) = some r := h
 clear h
 replace H := Option.bind_eq_some_iff.mp H
 obtain ⟨t158, A30, H⟩ := H
 replace H : ((pager_Rows.f k t158 (⟨#[]⟩ : ByteArray) (⟨#[]⟩ : ByteArray) 0 1000).bind fun bt161 => (if bt161.2.2 = 0 then (cellarerlaw07_PagerVersions.j0 k t158 l1 bt161.1 bt161.2.1 bt161.2.2 bt161.2.1) else (cellarerlaw07_PagerVersions.j0 k t158 l1 bt161.1 bt161.2.1 bt161.2.2 true))) = some r := H
 have A3 := Aside0.mk A30
 clear A30
 replace H := Option.bind_eq_some_iff.mp H
 obtain ⟨⟨t161, t164, t165⟩, A40, H⟩ := H
 replace H : (if t165 = 0 then (cellarerlaw07_PagerVersions.j0 k t158 l1 t161 t164 t165 t164) else (cellarerlaw07_PagerVersions.j0 k t158 l1 t161 t164 t165 true)) = some r := H
 have A4 := Aside0.mk A40
 clear A40
 have HC5 := Aside0.mk H
 clear H
 have hmm := @run_makeMap Try.prog
 go_enter Try.func9, Try.ntmps9
 go_upto_region 3 with (first | (go_at_call 19; (with_reducible refine (cellarerlaw06_Few.calls k _ _ l0 t158 _ ?side1 ?side2 A3.out).mono ?_); (case side1 => repeat (first | exact HR0.out | (with_reducible refine Kd.C_alloc ?_ _) | (with_reducible refine Kd.C_drewN ?_ _) | (with_reducible refine Kd.C_drew ?_))); (case side2 => exact HC0.out); rintro e w6 ⟨v159, rfl, ho0, hb⟩; have n0_ := Aside0.mk (Kd.S_lower ho0 (below_size (by repeat (first | (with_reducible first | exact HB.out | apply below_alloc | apply pw_below_drewN | apply below_drew1) | exact HB.out)))); have n1_ := Aside0.mk (below_step (by repeat (first | (with_reducible first | exact HB.out | apply below_alloc | apply pw_below_drewN | apply below_drew1) | exact HB.out)) hb); clear HB; have HO160 := n0_; have HB := n1_; clear n0_ n1_; (try clear hb); (try clear hb2); (try clear hk); (try clear hi); (try clear ho0); obtain ⟨Ao7, co7, eo7⟩ := Kd.S_slice HO160.out; subst eo7) | (go_at_call 22; (with_reducible refine (pager_Rows.calls k _ _ t158 (⟨#[]⟩ : ByteArray) (⟨#[]⟩ : ByteArray) 0 1000 t161 t164 t165 _ ?side1 ?side2 A4.out).mono ?_); (case side1 => repeat (first | exact (Kd.S_reads' HO160.out).2.2 | (with_reducible refine Kd.C_alloc ?_ _) | (with_reducible refine Kd.C_drewN ?_ _) | (with_reducible refine Kd.C_drew ?_))); (case side2 => exact (Kd.S_reads' HO160.out).2.1); rintro e w8 ⟨v162, rfl, ho0, hb⟩; have n0_ := Aside0.mk (Kd.S_below (by (with_reducible repeat (first | apply Kd.S_alloc | apply Kd.S_drewN | apply Kd.S_drew)); exact HO160.out) hb); have n1_ := Aside0.mk (Kd.V_lower (Kd.V_mono (ok' := fun k_ => some k_ ≠ (.slice Ao7 t158.length co7 : Value).ownBlock) ho0 (fun k_ hk_ => (Kd.fresh' (Kd.S_lt (by (with_reducible repeat (first | apply Kd.S_alloc | apply Kd.S_drewN | apply Kd.S_drew)); exact HO160.out)) k_ hk_))) (below_size (by repeat (first | (with_reducible first | exact HB.out | apply below_alloc | apply pw_below_drewN | apply below_drew1) | exact HB.out)))); have n2_ := Aside0.mk (below_step (by repeat (first | (with_reducible first | exact HB.out | apply below_alloc | apply pw_below_drewN | apply below_drew1) | exact HB.out)) hb); clear HO160; clear HB; have HO160 := n0_; have HO163 := n1_; have HB := n2_; clear n0_ n1_ n2_; (try clear hb); (try clear hb2); (try clear hk); (try clear hi); (try clear ho0)))
 repeat (go_quiet (first | (go_at_call 19; (with_reducible refine (cellarerlaw06_Few.calls k _ _ l0 t158 _ ?side1 ?side2 A3.out).mono ?_); (case side1 => repeat (first | exact HR0.out | (with_reducible refine Kd.C_alloc ?_ _) | (with_reducible refine Kd.C_drewN ?_ _) | (with_reducible refine Kd.C_drew ?_))); (case side2 => exact HC0.out); rintro e w6 ⟨v159, rfl, ho0, hb⟩; have n0_ := Aside0.mk (Kd.S_lower ho0 (below_size (by repeat (first | (with_reducible first | exact HB.out | apply below_alloc | apply pw_below_drewN | apply below_drew1) | exact HB.out)))); have n1_ := Aside0.mk (below_step (by repeat (first | (with_reducible first | exact HB.out | apply below_alloc | apply pw_below_drewN | apply below_drew1) | exact HB.out)) hb); clear HB; have HO160 := n0_; have HB := n1_; clear n0_ n1_; (try clear hb); (try clear hb2); (try clear hk); (try clear hi); (try clear ho0); obtain ⟨Ao7, co7, eo7⟩ := Kd.S_slice HO160.out; subst eo7) | (go_at_call 22; (with_reducible refine (pager_Rows.calls k _ _ t158 (⟨#[]⟩ : ByteArray) (⟨#[]⟩ : ByteArray) 0 1000 t161 t164 t165 _ ?side1 ?side2 A4.out).mono ?_); (case side1 => repeat (first | exact (Kd.S_reads' HO160.out).2.2 | (with_reducible refine Kd.C_alloc ?_ _) | (with_reducible refine Kd.C_drewN ?_ _) | (with_reducible refine Kd.C_drew ?_))); (case side2 => exact (Kd.S_reads' HO160.out).2.1); rintro e w8 ⟨v162, rfl, ho0, hb⟩; have n0_ := Aside0.mk (Kd.S_below (by (with_reducible repeat (first | apply Kd.S_alloc | apply Kd.S_drewN | apply Kd.S_drew)); exact HO160.out) hb); have n1_ := Aside0.mk (Kd.V_lower (Kd.V_mono (ok' := fun k_ => some k_ ≠ (.slice Ao7 t158.length co7 : Value).ownBlock) ho0 (fun k_ hk_ => (Kd.fresh' (Kd.S_lt (by (with_reducible repeat (first | apply Kd.S_alloc | apply Kd.S_drewN | apply Kd.S_drew)); exact HO160.out)) k_ hk_))) (below_size (by repeat (first | (with_reducible first | exact HB.out | apply below_alloc | apply pw_below_drewN | apply below_drew1) | exact HB.out)))); have n2_ := Aside0.mk (below_step (by repeat (first | (with_reducible first | exact HB.out | apply below_alloc | apply pw_below_drewN | apply below_drew1) | exact HB.out)) hb); clear HO160; clear HB; have HO160 := n0_; have HO163 := n1_; have HB := n2_; clear n0_ n1_ n2_; (try clear hb); (try clear hb2); (try clear hk); (try clear hi); (try clear ho0))); go_upto_region 3 with (first | (go_at_call 19; (with_reducible refine (cellarerlaw06_Few.calls k _ _ l0 t158 _ ?side1 ?side2 A3.out).mono ?_); (case side1 => repeat (first | exact HR0.out | (with_reducible refine Kd.C_alloc ?_ _) | (with_reducible refine Kd.C_drewN ?_ _) | (with_reducible refine Kd.C_drew ?_))); (case side2 => exact HC0.out); rintro e w6 ⟨v159, rfl, ho0, hb⟩; have n0_ := Aside0.mk (Kd.S_lower ho0 (below_size (by repeat (first | (with_reducible first | exact HB.out | apply below_alloc | apply pw_below_drewN | apply below_drew1) | exact HB.out)))); have n1_ := Aside0.mk (below_step (by repeat (first | (with_reducible first | exact HB.out | apply below_alloc | apply pw_below_drewN | apply below_drew1) | exact HB.out)) hb); clear HB; have HO160 := n0_; have HB := n1_; clear n0_ n1_; (try clear hb); (try clear hb2); (try clear hk); (try clear hi); (try clear ho0); obtain ⟨Ao7, co7, eo7⟩ := Kd.S_slice HO160.out; subst eo7) | (go_at_call 22; (with_reducible refine (pager_Rows.calls k _ _ t158 (⟨#[]⟩ : ByteArray) (⟨#[]⟩ : ByteArray) 0 1000 t161 t164 t165 _ ?side1 ?side2 A4.out).mono ?_); (case side1 => repeat (first | exact (Kd.S_reads' HO160.out).2.2 | (with_reducible refine Kd.C_alloc ?_ _) | (with_reducible refine Kd.C_drewN ?_ _) | (with_reducible refine Kd.C_drew ?_))); (case side2 => exact (Kd.S_reads' HO160.out).2.1); rintro e w8 ⟨v162, rfl, ho0, hb⟩; have n0_ := Aside0.mk (Kd.S_below (by (with_reducible repeat (first | apply Kd.S_alloc | apply Kd.S_drewN | apply Kd.S_drew)); exact HO160.out) hb); have n1_ := Aside0.mk (Kd.V_lower (Kd.V_mono (ok' := fun k_ => some k_ ≠ (.slice Ao7 t158.length co7 : Value).ownBlock) ho0 (fun k_ hk_ => (Kd.fresh' (Kd.S_lt (by (with_reducible repeat (first | apply Kd.S_alloc | apply Kd.S_drewN | apply Kd.S_drew)); exact HO160.out)) k_ hk_))) (below_size (by repeat (first | (with_reducible first | exact HB.out | apply below_alloc | apply pw_below_drewN | apply below_drew1) | exact HB.out)))); have n2_ := Aside0.mk (below_step (by repeat (first | (with_reducible first | exact HB.out | apply below_alloc | apply pw_below_drewN | apply below_drew1) | exact HB.out)) hb); clear HO160; clear HB; have HO160 := n0_; have HO163 := n1_; have HB := n2_; clear n0_ n1_ n2_; (try clear hb); (try clear hb2); (try clear hk); (try clear hi); (try clear ho0))))
 (try simp only [Act.put, List.setIfInBounds_toArray, List.set_cons_zero, List.set_cons_succ])
 go_cut [30] (fun v30 wc => ∃ (kq : Nat) (x30_4 : Bool), v30 = .bool x30_4 ∧ Aside0 (cellarerlaw07_PagerVersions.j0 kq t158 l1 t161 t164 t165 x30_4 = some r) ∧ Aside0 (kq ≤ k) ∧ Aside0 (Kd.S k50 50 wc w.heap.size (fun _ => True) (.slice Ao7 t158.length co7) t158) ∧ Aside0 (Kd.V k65 65 wc w.heap.size (fun k_ => some k_ ≠ ((.slice Ao7 t158.length co7) : Value).ownBlock) v162 t161) ∧ Aside0 (Below w.heap.size w wc))
 case first =>
  have H := HC5.out
  clear HC5
  by_cases c9 : t165 = 0
  ·rw [if_pos c9] at H
   have c9b0 : (t165 == 0) = true := beq_iff_eq.mpr c9
   have c9b1 : (t165 != 0) = false := bne_eq_false_iff_eq.mpr c9
   clear c9
   (first | rw [c9b0] | rw [c9b1] | (simp only [i64_w, i32_w]; rw [c9b0]) | skip)
   have H' := Aside0.mk H
   clear H
   go_wp2
   repeat (go_quiet (fail); try go_wp2)
   go_meet
   case rel => exact ⟨_, (t164), (by first | rfl | (simp; done) | (simp [*]; done)), H', ⟨by first | omega | exact Nat.le_refl _⟩, ⟨by (with_reducible repeat (first | apply Kd.S_alloc | apply Kd.S_drewN | apply Kd.S_drew)); exact HO160.out⟩, ⟨by (with_reducible repeat (first | apply Kd.V_alloc | apply Kd.V_drewN | apply Kd.V_drew)); exact HO163.out⟩, ⟨by repeat (first | (with_reducible first | exact HB.out | apply below_alloc | apply pw_below_drewN | apply below_drew1) | exact HB.out)⟩⟩
  ·rw [if_neg c9] at H
   have c9b0 : (t165 == 0) = false := beq_eq_false_iff_ne.mpr c9
   have c9b1 : (t165 != 0) = true := bne_iff_ne.mpr c9
   (first | rw [c9b0] | rw [c9b1] | (simp only [i64_w, i32_w]; rw [c9b0]) | skip)
   have H' := Aside0.mk H
   clear H
   go_wp2
   repeat (go_quiet (fail); try go_wp2)
   go_meet
   case rel => exact ⟨_, (true), (by first | rfl | (simp; done) | (simp [*]; done)), H', ⟨by first | omega | exact Nat.le_refl _⟩, ⟨by (with_reducible repeat (first | apply Kd.S_alloc | apply Kd.S_drewN | apply Kd.S_drew)); exact HO160.out⟩, ⟨by (with_reducible repeat (first | apply Kd.V_alloc | apply Kd.V_drewN | apply Kd.V_drew)); exact HO163.out⟩, ⟨by repeat (first | (with_reducible first | exact HB.out | apply below_alloc | apply pw_below_drewN | apply below_drew1) | exact HB.out)⟩⟩
 case rest =>
  clear HC5
  try clear c1
  try clear p2
  try clear c9
  try clear c9b0
  try clear c9b1
  obtain ⟨kq, x30_4, rfl, HA, HJ4, HO_0, HO_5, HB⟩ := hcut
  cases kq with
  | zero => exact absurd HA.out (by simp [cellarerlaw07_PagerVersions.j0])
  | succ kj4 =>
   have H := HA.out
   clear HA
   simp only [cellarerlaw07_PagerVersions.j0] at H
   by_cases c10 : x30_4 = true
   ·subst c10
    have H1 : (if t165 = 1 then ((cellarerlaw07_awake.f).bind fun t166 => (some t166)) else (if t164 = true then ((cellarerref06_Many.f kj4 t158).bind fun t167 => (if t167 > 1000 then ((cellarerlaw07_awake.f).bind fun t168 => (some t168)) else (some false))) else (some false))) = some r := by rw [if_pos rfl] at H; exact H
    clear H
    have H := H1
    clear H1
    by_cases c11 : t165 = 1
    ·rw [if_pos c11] at H
     have c11b0 : (t165 == 1) = true := beq_iff_eq.mpr c11
     have c11b1 : (t165 != 1) = false := bne_eq_false_iff_eq.mpr c11
     clear c11
     replace H := Option.bind_eq_some_iff.mp H
     obtain ⟨t166, A120, H⟩ := H
     replace H : (some t166) = some r := H
     have A12 := Aside0.mk A120
     clear A120
     obtain rfl := Option.some.inj H
     go_wp2_with (first | (go_at_call 14; (with_reducible refine (cellarerlaw07_awake.calls  t166 _ A12.out).mono ?_); rintro e w13 ⟨rfl, hb⟩; have n0_ := Aside0.mk (Kd.S_below (by (with_reducible repeat (first | apply Kd.S_alloc | apply Kd.S_drewN | apply Kd.S_drew)); exact HO_0.out) hb); have n1_ := Aside0.mk (Kd.V_below (by (with_reducible repeat (first | apply Kd.V_alloc | apply Kd.V_drewN | apply Kd.V_drew)); exact HO_5.out) hb); have n2_ := Aside0.mk (below_step (by repeat (first | (with_reducible first | exact HB.out | apply below_alloc | apply pw_below_drewN | apply below_drew1) | exact HB.out)) hb); clear HO_0; clear HO_5; clear HB; have HO_0 := n0_; have HO_5 := n1_; have HB := n2_; clear n0_ n1_ n2_; (try clear hb); (try clear hb2); (try clear hk); (try clear hi)))
     repeat (go_quiet (first | (go_at_call 14; (with_reducible refine (cellarerlaw07_awake.calls  t166 _ A12.out).mono ?_); rintro e w13 ⟨rfl, hb⟩; have n0_ := Aside0.mk (Kd.S_below (by (with_reducible repeat (first | apply Kd.S_alloc | apply Kd.S_drewN | apply Kd.S_drew)); exact HO_0.out) hb); have n1_ := Aside0.mk (Kd.V_below (by (with_reducible repeat (first | apply Kd.V_alloc | apply Kd.V_drewN | apply Kd.V_drew)); exact HO_5.out) hb); have n2_ := Aside0.mk (below_step (by repeat (first | (with_reducible first | exact HB.out | apply below_alloc | apply pw_below_drewN | apply below_drew1) | exact HB.out)) hb); clear HO_0; clear HO_5; clear HB; have HO_0 := n0_; have HO_5 := n1_; have HB := n2_; clear n0_ n1_ n2_; (try clear hb); (try clear hb2); (try clear hk); (try clear hi))); try go_wp2_with (first | (go_at_call 14; (with_reducible refine (cellarerlaw07_awake.calls  t166 _ A12.out).mono ?_); rintro e w13 ⟨rfl, hb⟩; have n0_ := Aside0.mk (Kd.S_below (by (with_reducible repeat (first | apply Kd.S_alloc | apply Kd.S_drewN | apply Kd.S_drew)); exact HO_0.out) hb); have n1_ := Aside0.mk (Kd.V_below (by (with_reducible repeat (first | apply Kd.V_alloc | apply Kd.V_drewN | apply Kd.V_drew)); exact HO_5.out) hb); have n2_ := Aside0.mk (below_step (by repeat (first | (with_reducible first | exact HB.out | apply below_alloc | apply pw_below_drewN | apply below_drew1) | exact HB.out)) hb); clear HO_0; clear HO_5; clear HB; have HO_0 := n0_; have HO_5 := n1_; have HB := n2_; clear n0_ n1_ n2_; (try clear hb); (try clear hb2); (try clear hk); (try clear hi))))
     go_ret
     exact ⟨by first | rfl | (simp [errW_none, errW_some] <;> rfl) | (simp [*, errW_none, errW_some] <;> rfl), by repeat (first | (with_reducible first | exact HB.out | apply below_alloc | apply pw_below_drewN | apply below_drew1) | exact HB.out)⟩
    ·rw [if_neg c11] at H
     have c11b0 : (t165 == 1) = false := beq_eq_false_iff_ne.mpr c11
     have c11b1 : (t165 != 1) = true := bne_iff_ne.mpr c11
     by_cases c14 : t164 = true
     ·subst c14
      have H1 : ((cellarerref06_Many.f kj4 t158).bind fun t167 => (if t167 > 1000 then ((cellarerlaw07_awake.f).bind fun t168 => (some t168)) else (some false))) = some r := by rw [if_pos rfl] at H; exact H
      clear H
      have H := H1
      clear H1
      replace H := Option.bind_eq_some_iff.mp H
      obtain ⟨t167, A150, H⟩ := H
      replace H : (if t167 > 1000 then ((cellarerlaw07_awake.f).bind fun t168 => (some t168)) else (some false)) = some r := H
      have A15 := Aside0.mk A150
      clear A150
      by_cases c16 : t167 > 1000
      ·rw [if_pos c16] at H
       have c16b0 : decide (1000 < t167) = true := decide_eq_true c16
       clear c16
       replace H := Option.bind_eq_some_iff.mp H
       obtain ⟨t168, A170, H⟩ := H
       replace H : (some t168) = some r := H
       have A17 := Aside0.mk A170
       clear A170
       obtain rfl := Option.some.inj H
       go_wp2_with (first | (go_at_call 25; (with_reducible refine (cellarerref06_Many.calls kj4 _ _ t158 t167 _ ?side1 ?side2 A15.out).mono ?_); (case side1 => repeat (first | exact (Kd.S_reads' HO_0.out).2.2 | (with_reducible refine Kd.C_alloc ?_ _) | (with_reducible refine Kd.C_drewN ?_ _) | (with_reducible refine Kd.C_drew ?_))); (case side2 => exact (Kd.S_reads' HO_0.out).2.1); rintro e w' ⟨rfl, ⟨nd, rfl⟩⟩; (try first | exact ⟨rfl, _, World.drewN_drewN _ _ _⟩ | exact ⟨rfl, _, Eq.trans (World.drewN_drewN _ _ _) (congrArg (World.drewN _) (Nat.add_assoc _ _ _))⟩)) | (go_at_call 14; (with_reducible refine (cellarerlaw07_awake.calls  t168 _ A17.out).mono ?_); rintro e w18 ⟨rfl, hb⟩; have n0_ := Aside0.mk (Kd.S_below (by (with_reducible repeat (first | apply Kd.S_alloc | apply Kd.S_drewN | apply Kd.S_drew)); exact HO_0.out) hb); have n1_ := Aside0.mk (Kd.V_below (by (with_reducible repeat (first | apply Kd.V_alloc | apply Kd.V_drewN | apply Kd.V_drew)); exact HO_5.out) hb); have n2_ := Aside0.mk (below_step (by repeat (first | (with_reducible first | exact HB.out | apply below_alloc | apply pw_below_drewN | apply below_drew1) | exact HB.out)) hb); clear HO_0; clear HO_5; clear HB; have HO_0 := n0_; have HO_5 := n1_; have HB := n2_; clear n0_ n1_ n2_; (try clear hb); (try clear hb2); (try clear hk); (try clear hi)))
       repeat (go_quiet (first | (go_at_call 25; (with_reducible refine (cellarerref06_Many.calls kj4 _ _ t158 t167 _ ?side1 ?side2 A15.out).mono ?_); (case side1 => repeat (first | exact (Kd.S_reads' HO_0.out).2.2 | (with_reducible refine Kd.C_alloc ?_ _) | (with_reducible refine Kd.C_drewN ?_ _) | (with_reducible refine Kd.C_drew ?_))); (case side2 => exact (Kd.S_reads' HO_0.out).2.1); rintro e w' ⟨rfl, ⟨nd, rfl⟩⟩; (try first | exact ⟨rfl, _, World.drewN_drewN _ _ _⟩ | exact ⟨rfl, _, Eq.trans (World.drewN_drewN _ _ _) (congrArg (World.drewN _) (Nat.add_assoc _ _ _))⟩)) | (go_at_call 14; (with_reducible refine (cellarerlaw07_awake.calls  t168 _ A17.out).mono ?_); rintro e w18 ⟨rfl, hb⟩; have n0_ := Aside0.mk (Kd.S_below (by (with_reducible repeat (first | apply Kd.S_alloc | apply Kd.S_drewN | apply Kd.S_drew)); exact HO_0.out) hb); have n1_ := Aside0.mk (Kd.V_below (by (with_reducible repeat (first | apply Kd.V_alloc | apply Kd.V_drewN | apply Kd.V_drew)); exact HO_5.out) hb); have n2_ := Aside0.mk (below_step (by repeat (first | (with_reducible first | exact HB.out | apply below_alloc | apply pw_below_drewN | apply below_drew1) | exact HB.out)) hb); clear HO_0; clear HO_5; clear HB; have HO_0 := n0_; have HO_5 := n1_; have HB := n2_; clear n0_ n1_ n2_; (try clear hb); (try clear hb2); (try clear hk); (try clear hi))); try go_wp2_with (first | (go_at_call 25; (with_reducible refine (cellarerref06_Many.calls kj4 _ _ t158 t167 _ ?side1 ?side2 A15.out).mono ?_); (case side1 => repeat (first | exact (Kd.S_reads' HO_0.out).2.2 | (with_reducible refine Kd.C_alloc ?_ _) | (with_reducible refine Kd.C_drewN ?_ _) | (with_reducible refine Kd.C_drew ?_))); (case side2 => exact (Kd.S_reads' HO_0.out).2.1); rintro e w' ⟨rfl, ⟨nd, rfl⟩⟩; (try first | exact ⟨rfl, _, World.drewN_drewN _ _ _⟩ | exact ⟨rfl, _, Eq.trans (World.drewN_drewN _ _ _) (congrArg (World.drewN _) (Nat.add_assoc _ _ _))⟩)) | (go_at_call 14; (with_reducible refine (cellarerlaw07_awake.calls  t168 _ A17.out).mono ?_); rintro e w18 ⟨rfl, hb⟩; have n0_ := Aside0.mk (Kd.S_below (by (with_reducible repeat (first | apply Kd.S_alloc | apply Kd.S_drewN | apply Kd.S_drew)); exact HO_0.out) hb); have n1_ := Aside0.mk (Kd.V_below (by (with_reducible repeat (first | apply Kd.V_alloc | apply Kd.V_drewN | apply Kd.V_drew)); exact HO_5.out) hb); have n2_ := Aside0.mk (below_step (by repeat (first | (with_reducible first | exact HB.out | apply below_alloc | apply pw_below_drewN | apply below_drew1) | exact HB.out)) hb); clear HO_0; clear HO_5; clear HB; have HO_0 := n0_; have HO_5 := n1_; have HB := n2_; clear n0_ n1_ n2_; (try clear hb); (try clear hb2); (try clear hk); (try clear hi))))
       go_ret
       exact ⟨by first | rfl | (simp [errW_none, errW_some] <;> rfl) | (simp [*, errW_none, errW_some] <;> rfl), by repeat (first | (with_reducible first | exact HB.out | apply below_alloc | apply pw_below_drewN | apply below_drew1) | exact HB.out)⟩
      ·rw [if_neg c16] at H
       have c16b0 : decide (1000 < t167) = false := decide_eq_false c16
       clear c16
       obtain rfl := Option.some.inj H
       exact absurd HTR_.out (by decide)
     ·replace c14 := Bool.eq_false_iff.mpr c14
      subst c14
      have H1 : (some false) = some r := by rw [if_neg (show ¬ (false = true) by decide)] at H; exact H
      clear H
      have H := H1
      clear H1
      obtain rfl := Option.some.inj H
      exact absurd HTR_.out (by decide)
   ·replace c10 := Bool.eq_false_iff.mpr c10
    subst c10
    have H1 : ((cellarerref06_Many.f kj4 t158).bind fun t169 => (if (t161.length : Int) = t169 then (cellarerlaw07_PagerVersions.l0 kj4 t158 l1 t161 ([] : List ByteArray) 0) else (some false))) = some r := by rw [if_neg (show ¬ (false = true) by decide)] at H; exact H
    clear H
    have H := H1
    clear H1
    replace H := Option.bind_eq_some_iff.mp H
    obtain ⟨t169, A190, H⟩ := H
    replace H : (if (t161.length : Int) = t169 then (cellarerlaw07_PagerVersions.l0 kj4 t158 l1 t161 ([] : List ByteArray) 0) else (some false)) = some r := H
    have A19 := Aside0.mk A190
    clear A190
    by_cases c20 : (t161.length : Int) = t169
    ·rw [if_pos c20] at H
     have c20b0 : ((t161.length : Int) == t169) = true := beq_iff_eq.mpr c20
     have c20b1 : ((t161.length : Int) != t169) = false := bne_eq_false_iff_eq.mpr c20
     clear c20
     have H' := Aside0.mk H
     clear H
     obtain ⟨Ao21, co21, eo21⟩ := Kd.V_slice HO_5.out
     subst eo21
     go_wp2_with (first | (go_at_call 25; (with_reducible refine (cellarerref06_Many.calls kj4 _ _ t158 t169 _ ?side1 ?side2 A19.out).mono ?_); (case side1 => repeat (first | exact (Kd.S_reads' HO_0.out).2.2 | (with_reducible refine Kd.C_alloc ?_ _) | (with_reducible refine Kd.C_drewN ?_ _) | (with_reducible refine Kd.C_drew ?_))); (case side2 => exact (Kd.S_reads' HO_0.out).2.1); rintro e w' ⟨rfl, ⟨nd, rfl⟩⟩; (try first | exact ⟨rfl, _, World.drewN_drewN _ _ _⟩ | exact ⟨rfl, _, Eq.trans (World.drewN_drewN _ _ _) (congrArg (World.drewN _) (Nat.add_assoc _ _ _))⟩)))
     repeat (go_quiet (first | (go_at_call 25; (with_reducible refine (cellarerref06_Many.calls kj4 _ _ t158 t169 _ ?side1 ?side2 A19.out).mono ?_); (case side1 => repeat (first | exact (Kd.S_reads' HO_0.out).2.2 | (with_reducible refine Kd.C_alloc ?_ _) | (with_reducible refine Kd.C_drewN ?_ _) | (with_reducible refine Kd.C_drew ?_))); (case side2 => exact (Kd.S_reads' HO_0.out).2.1); rintro e w' ⟨rfl, ⟨nd, rfl⟩⟩; (try first | exact ⟨rfl, _, World.drewN_drewN _ _ _⟩ | exact ⟨rfl, _, Eq.trans (World.drewN_drewN _ _ _) (congrArg (World.drewN _) (Nat.add_assoc _ _ _))⟩))); try go_wp2_with (first | (go_at_call 25; (with_reducible refine (cellarerref06_Many.calls kj4 _ _ t158 t169 _ ?side1 ?side2 A19.out).mono ?_); (case side1 => repeat (first | exact (Kd.S_reads' HO_0.out).2.2 | (with_reducible refine Kd.C_alloc ?_ _) | (with_reducible refine Kd.C_drewN ?_ _) | (with_reducible refine Kd.C_drew ?_))); (case side2 => exact (Kd.S_reads' HO_0.out).2.1); rintro e w' ⟨rfl, ⟨nd, rfl⟩⟩; (try first | exact ⟨rfl, _, World.drewN_drewN _ _ _⟩ | exact ⟨rfl, _, Eq.trans (World.drewN_drewN _ _ _) (congrArg (World.drewN _) (Nat.add_assoc _ _ _))⟩))))
     go_loopg [9] kj4 (fun kq v9 w' => ∃ (x8_2 : List ByteArray) (x9_2 : Int), v9 = .int .i64 x9_2 ∧ Aside0 (cellarerlaw07_PagerVersions.l0 kq t158 l1 t161 x8_2 x9_2 = some r) ∧ Aside0 (kq ≤ kj4) ∧ Aside0 (Kd.S k50 50 w' w.heap.size (fun _ => True) (.slice Ao7 t158.length co7) t158) ∧ Aside0 (Kd.V k65 65 w' w.heap.size (fun k_ => some k_ ≠ ((.slice Ao7 t158.length co7) : Value).ownBlock ∧ k_ ≠ wc.heap.size) (.slice Ao21 t161.length co21) t161) ∧ Aside0 (PgMapV.MV w' w.heap.size (wc.heap.size) x8_2) ∧ Aside0 (Below w.heap.size w w'))
     case atStart => exact ⟨(([] : List ByteArray)), (0), (by first | rfl | (simp; done) | (simp [*]; done)), H', ⟨Nat.le_refl _⟩, ⟨by (with_reducible repeat (first | apply Kd.S_alloc | apply Kd.S_drewN | apply Kd.S_drew)); exact HO_0.out⟩, ⟨Kd.V_alloc (Kd.V_elderB (by (with_reducible repeat (first | apply Kd.V_alloc | apply Kd.V_drewN | apply Kd.V_drew)); exact HO_5.out) _ (Nat.le_refl _)) _⟩, ⟨PgMapV.made _ (below_size (by repeat (first | (with_reducible first | exact HB.out | apply below_alloc | apply pw_below_drewN | apply below_drew1) | exact HB.out)))⟩, ⟨by repeat (first | (with_reducible first | exact HB.out | apply below_alloc | apply pw_below_drewN | apply below_drew1) | exact HB.out)⟩⟩
     case round =>
      clear H'
      try clear c1
      try clear c2
      try clear p2
      try clear c9
      try clear c9b0
      try clear c9b1
      try clear c10
      try clear c11
      try clear c11b0
      try clear c11b1
      try clear c14
      try clear c16
      try clear c16b0
      try clear c20
      try clear c20b0
      try clear c20b1
      try clear p2
      obtain ⟨x8_2, x9_2, rfl, HA, HK2, HO_0, HO_5, HO_8, HB⟩ := hrel
      cases gk with
      | zero => exact absurd HA.out (by simp [cellarerlaw07_PagerVersions.l0])
      | succ k2 =>
       have H := HA.out
       clear HA
       simp only [cellarerlaw07_PagerVersions.l0] at H
       by_cases c22 : x9_2 < (t161.length : Int)
       ·rw [if_pos c22] at H
        have c22b0 : decide (x9_2 < (t161.length : Int)) = true := decide_eq_true c22
        clear c22
        by_cases c23 : 0 ≤ x9_2
        ·rw [if_pos c23] at H
         have c23b0 : decide (0 ≤ x9_2) = true := decide_eq_true c23
         clear c23
         obtain ⟨bq24, hbq24⟩ : ∃ b_ : Bool, b_ = ((rd_T65 t161 x9_2).f2) := ⟨_, rfl⟩
         replace H : (if bq24 = true then (if (x8_2.length < 8796093022208 ∧ ((rd_T65 t161 x9_2).f0).size ≤ 1000000) then (cellarerlaw07_PagerVersions.l0 k2 t158 l1 t161 (x8_2 ++ [(rd_T65 t161 x9_2).f0]) (wrap64 (x9_2 + 1))) else (none)) else (cellarerlaw07_PagerVersions.l0 k2 t158 l1 t161 x8_2 (wrap64 (x9_2 + 1)))) = some r := by rw [← hbq24] at H; exact H
         have Nbq24 := Aside0.mk hbq24
         clear hbq24
         by_cases c25 : bq24 = true
         ·subst c25
          have H1 : (if (x8_2.length < 8796093022208 ∧ ((rd_T65 t161 x9_2).f0).size ≤ 1000000) then (cellarerlaw07_PagerVersions.l0 k2 t158 l1 t161 (x8_2 ++ [(rd_T65 t161 x9_2).f0]) (wrap64 (x9_2 + 1))) else (none)) = some r := by rw [if_pos rfl] at H; exact H
          clear H
          have H := H1
          clear H1
          by_cases c26 : (x8_2.length < 8796093022208 ∧ ((rd_T65 t161 x9_2).f0).size ≤ 1000000)
          ·rw [if_pos c26] at H
           have LMc26 := Aside0.mk c26
           clear c26
           obtain ⟨y172, hy172⟩ : ∃ y_ : List ByteArray, y_ = (x8_2 ++ [(rd_T65 t161 x9_2).f0]) := ⟨_, rfl⟩
           replace H : (cellarerlaw07_PagerVersions.l0 k2 t158 l1 t161 y172 (wrap64 (x9_2 + 1))) = some r := by first | (rw [hy172]; with_reducible exact H) | (have H2_ := (Option.bind_some _ _).symm.trans H; rw [hy172]; with_reducible exact H2_) | (have H2_ := (Option.bind_some _ _).symm.trans H; with_reducible exact H2_) | with_reducible exact H | (rw [hy172]; exact H) | exact H
           have Ny172 := Aside0.mk hy172
           clear hy172
           have H' := Aside0.mk H
           clear H
           have p170 : 0 ≤ (x9_2 : Int) := of_decide_eq_true (by first | (with_reducible assumption) | assumption)
           have q170 : x9_2 < (t161.length : Int) := of_decide_eq_true (by first | (with_reducible assumption) | assumption)
           obtain ⟨ad170, e170, hx170_0, hx170_1, hx170_2, hx170_3, hx170_4⟩ := at_T65 (Kd.V_reads' HO_5.out).2.2 x9_2 p170 q170
           (try rw [← Nbq24.out] at hx170_2)
           (try rw [← Nbq24.out] at hx170_3)
           cases e170
           replace p170 := eq_true p170
           replace q170 := eq_true q170
           have p171 : 0 ≤ (x9_2 : Int) := of_decide_eq_true (by first | (with_reducible assumption) | assumption)
           have q171 : x9_2 < (t161.length : Int) := of_decide_eq_true (by first | (with_reducible assumption) | assumption)
           obtain ⟨ad171, e171, hx171_0, hx171_1, hx171_2, hx171_3, hx171_4⟩ := at_T65 (Kd.V_reads' HO_5.out).2.2 x9_2 p171 q171
           (try rw [← Nbq24.out] at hx171_2)
           (try rw [← Nbq24.out] at hx171_3)
           obtain rfl : ad170 = ad171 := (by injection e171)
           replace p171 := eq_true p171
           replace q171 := eq_true q171
           go_wp2_with (first | (at_lookup; refine PgMapV.look (base := w.heap.size) (mb := wc.heap.size) (xs := x8_2) (s := ((rd_T65 t161 x9_2).f0)) rfl _ _ rfl rfl ?ms rfl (Nat.le_trans LMc26.out.2 (by decide)) ?_; (case ms => exact (by (with_reducible repeat (first | apply PgMapV.MV_alloc | apply PgMapV.MV_drewN | apply PgMapV.MV_drew)); exact HO_8.out)); intro c_) | (at_mapUpdate; refine PgMapV.update (base := w.heap.size) (mb := wc.heap.size) (xs := x8_2) (s := ((rd_T65 t161 x9_2).f0)) rfl _ _ _ rfl rfl ?ms rfl (Nat.le_trans LMc26.out.2 (by decide)) rfl (plainElem_int Try.underlying3 (wrap64_wf _)) ?len ?_; (case ms => exact (by (with_reducible repeat (first | apply PgMapV.MV_alloc | apply PgMapV.MV_drewN | apply PgMapV.MV_drew)); exact HO_8.out)); (case len => have := LMc26.out.1; unfold maxLen; omega); intro w27 ho ht_; rw [← Ny172.out] at ho; have n0_ := Aside0.mk (PgMapV.S_turn (by (with_reducible repeat (first | apply Kd.S_alloc | apply Kd.S_drewN | apply Kd.S_drew)); exact HO_0.out) ht_); have n1_ := Aside0.mk (PgMapV.V_turn (by (with_reducible repeat (first | apply Kd.V_alloc | apply Kd.V_drewN | apply Kd.V_drew)); exact HO_5.out) ht_); have n2_ := Aside0.mk (PgMapV.below_turn (by repeat (first | (with_reducible first | exact HB.out | apply below_alloc | apply pw_below_drewN | apply below_drew1) | exact HB.out)) ht_); have n3_ := Aside0.mk ho; clear HO_0 HO_5 HB HO_8; have HO_0 := n0_; have HO_5 := n1_; have HB := n2_; have HO174 := n3_; clear n0_ n1_ n2_ n3_ ho ht_))
           go_roundg k2
           case measure => have := HJ4.out; have := HK2.out; omega
           case rel => exact ⟨(y172), (wrap64 (x9_2 + 1)), (by first | rfl | (simp; done) | (simp [*]; done)), H', ⟨by have := HJ4.out; have := HK2.out; omega⟩, ⟨by (with_reducible repeat (first | apply Kd.S_alloc | apply Kd.S_drewN | apply Kd.S_drew)); exact HO_0.out⟩, ⟨by (with_reducible repeat (first | apply Kd.V_alloc | apply Kd.V_drewN | apply Kd.V_drew)); exact HO_5.out⟩, ⟨by (with_reducible repeat (first | apply PgMapV.MV_alloc | apply PgMapV.MV_drewN | apply PgMapV.MV_drew)); exact HO174.out⟩, ⟨by repeat (first | (with_reducible first | exact HB.out | apply below_alloc | apply pw_below_drewN | apply below_drew1) | exact HB.out)⟩⟩
          ·rw [if_neg c26] at H
           exact absurd H (by simp)
         ·replace c25 := Bool.eq_false_iff.mpr c25
          subst c25
          have H1 : (cellarerlaw07_PagerVersions.l0 k2 t158 l1 t161 x8_2 (wrap64 (x9_2 + 1))) = some r := by rw [if_neg (show ¬ (false = true) by decide)] at H; exact H
          clear H
          have H := H1
          clear H1
          have H' := Aside0.mk H
          clear H
          have p170 : 0 ≤ (x9_2 : Int) := of_decide_eq_true (by first | (with_reducible assumption) | assumption)
          have q170 : x9_2 < (t161.length : Int) := of_decide_eq_true (by first | (with_reducible assumption) | assumption)
          obtain ⟨ad170, e170, hx170_0, hx170_1, hx170_2, hx170_3, hx170_4⟩ := at_T65 (Kd.V_reads' HO_5.out).2.2 x9_2 p170 q170
          (try rw [← Nbq24.out] at hx170_2)
          (try rw [← Nbq24.out] at hx170_3)
          cases e170
          replace p170 := eq_true p170
          replace q170 := eq_true q170
          go_wp2
          repeat (go_quiet (fail); try go_wp2)
          go_roundg k2
          case measure => have := HJ4.out; have := HK2.out; omega
          case rel => exact ⟨(x8_2), (wrap64 (x9_2 + 1)), (by first | rfl | (simp; done) | (simp [*]; done)), H', ⟨by have := HJ4.out; have := HK2.out; omega⟩, ⟨by (with_reducible repeat (first | apply Kd.S_alloc | apply Kd.S_drewN | apply Kd.S_drew)); exact HO_0.out⟩, ⟨by (with_reducible repeat (first | apply Kd.V_alloc | apply Kd.V_drewN | apply Kd.V_drew)); exact HO_5.out⟩, ⟨by (with_reducible repeat (first | apply PgMapV.MV_alloc | apply PgMapV.MV_drewN | apply PgMapV.MV_drew)); exact HO_8.out⟩, ⟨by repeat (first | (with_reducible first | exact HB.out | apply below_alloc | apply pw_below_drewN | apply below_drew1) | exact HB.out)⟩⟩
        ·rw [if_neg c23] at H
         exact absurd H (by simp)
       ·rw [if_neg c22] at H
        have c22b0 : decide (x9_2 < (t161.length : Int)) = false := decide_eq_false c22
        clear c22
        replace H := Option.bind_eq_some_iff.mp H
        obtain ⟨t175, A280, H⟩ := H
        replace H : (if t175 = (t158.length : Int) then (cellarerlaw07_PagerVersions.l1 k2 t158 l1 t161 (⟨#[]⟩ : ByteArray) 0 0 0) else (some false)) = some r := H
        have A28 := Aside0.mk A280
        clear A280
        by_cases c29 : t175 = (t158.length : Int)
        ·rw [if_pos c29] at H
         have c29b0 : (t175 == (t158.length : Int)) = true := beq_iff_eq.mpr c29
         have c29b1 : (t175 != (t158.length : Int)) = false := bne_eq_false_iff_eq.mpr c29
         clear c29
         have H' := Aside0.mk H
         clear H
         go_wp2_with (first | (at_len; refine PgMapV.len_ (base := w.heap.size) (mb := wc.heap.size) (xs := x8_2) rfl _ rfl rfl ?ms A28.out ?_; (case ms => exact (by (with_reducible repeat (first | apply PgMapV.MV_alloc | apply PgMapV.MV_drewN | apply PgMapV.MV_drew)); exact HO_8.out))))
         go_loopg [10, 11, 12, 13] k2 (fun kq v10 v11 v12 v13 w' => ∃ (x10_3 : ByteArray) (x11_3 : Int) (x12_3 : Int) (x13_3 : Int), v10 = .string x10_3 ∧ v11 = .int .u64 x11_3 ∧ v12 = .int .i64 x12_3 ∧ v13 = .int .i64 x13_3 ∧ Aside0 (cellarerlaw07_PagerVersions.l1 kq t158 l1 t161 x10_3 x11_3 x12_3 x13_3 = some r) ∧ Aside0 (kq ≤ k2) ∧ Aside0 (Kd.S k50 50 w' w.heap.size (fun _ => True) (.slice Ao7 t158.length co7) t158) ∧ Aside0 (Kd.V k65 65 w' w.heap.size (fun k_ => some k_ ≠ ((.slice Ao7 t158.length co7) : Value).ownBlock) (.slice Ao21 t161.length co21) t161) ∧ Aside0 (Below w.heap.size w w'))
         case atStart => exact ⟨((⟨#[]⟩ : ByteArray)), (0), (0), (0), (by first | rfl | (simp; done) | (simp [*]; done)), (by first | rfl | (simp; done) | (simp [*]; done)), (by first | rfl | (simp; done) | (simp [*]; done)), (by first | rfl | (simp; done) | (simp [*]; done)), H', ⟨Nat.le_refl _⟩, ⟨by (with_reducible repeat (first | apply Kd.S_alloc | apply Kd.S_drewN | apply Kd.S_drew)); exact HO_0.out⟩, ⟨by (with_reducible repeat (first | apply Kd.V_alloc | apply Kd.V_drewN | apply Kd.V_drew)); exact Kd.V_mono HO_5.out (fun _ hk => hk.1)⟩, ⟨by repeat (first | (with_reducible first | exact HB.out | apply below_alloc | apply pw_below_drewN | apply below_drew1) | exact HB.out)⟩⟩
         case round =>
          clear H'
          try clear c1
          try clear p1
          try clear q1
          try clear hx1
          try clear c2
          try clear p2
          try clear q2
          try clear p6
          try clear c9
          try clear c9b0
          try clear c9b1
          try clear c10
          try clear c11
          try clear c11b0
          try clear c11b1
          try clear c14
          try clear c16
          try clear c16b0
          try clear p17
          try clear q17
          try clear hx17
          try clear c20
          try clear c20b0
          try clear c20b1
          try clear c22
          try clear c22b0
          try clear c23
          try clear c23b0
          try clear q24
          try clear c25
          try clear c26
          try clear c29
          try clear c29b0
          try clear c29b1
          try clear hx170_0
          try clear hx170_1
          try clear hx170_2
          try clear hx170_3
          try clear hx170_4
          try clear hx171_0
          try clear hx171_1
          try clear hx171_2
          try clear hx171_3
          try clear hx171_4
          try clear p170
          try clear p171
          try clear p2
          try clear q170
          try clear q171
          obtain ⟨x10_3, x11_3, x12_3, x13_3, rfl, rfl, rfl, rfl, HA, HK3, HO_0, HO_5, HB⟩ := hrel
          cases gk with
          | zero => exact absurd HA.out (by simp [cellarerlaw07_PagerVersions.l1])
          | succ k3 =>
           have H := HA.out
           clear HA
           simp only [cellarerlaw07_PagerVersions.l1] at H
           have HC32 := Aside0.mk H
           clear H
           go_upto_region 18 with (fail)
           repeat (go_quiet (fail); go_upto_region 18 with (fail))
           go_cut [81] (fun v81 wc => ∃ (kq : Nat) (x81_31 : Bool), v81 = .bool x81_31 ∧ Aside0 (cellarerlaw07_PagerVersions.j3 kq t158 l1 t161 x10_3 x11_3 x12_3 x13_3 x81_31 = some r) ∧ Aside0 (kq ≤ k3) ∧ Aside0 (Kd.S k50 50 wc w.heap.size (fun _ => True) (.slice Ao7 t158.length co7) t158) ∧ Aside0 (Kd.V k65 65 wc w.heap.size (fun k_ => some k_ ≠ ((.slice Ao7 t158.length co7) : Value).ownBlock) (.slice Ao21 t161.length co21) t161) ∧ Aside0 (Below w.heap.size w wc))
           case first =>
            have H := HC32.out
            clear HC32
            by_cases c33 : x13_3 ≤ (t161.length : Int)
            ·rw [if_pos c33] at H
             have c33b0 : decide (x13_3 ≤ (t161.length : Int)) = true := decide_eq_true c33
             clear c33
             (first | rw [c33b0] | (simp only [i64_w, i32_w]; rw [c33b0]) | skip)
             have H' := Aside0.mk H
             clear H
             go_wp2
             repeat (go_quiet (fail); try go_wp2)
             go_meet
             case rel => exact ⟨_, (decide (x13_3 < 40)), (by first | rfl | (simp; done) | (simp [*]; done)), H', ⟨by have := HJ4.out; have := HK2.out; have := HK3.out; first | omega | exact Nat.le_refl _⟩, ⟨by (with_reducible repeat (first | apply Kd.S_alloc | apply Kd.S_drewN | apply Kd.S_drew)); exact HO_0.out⟩, ⟨by (with_reducible repeat (first | apply Kd.V_alloc | apply Kd.V_drewN | apply Kd.V_drew)); exact HO_5.out⟩, ⟨by repeat (first | (with_reducible first | exact HB.out | apply below_alloc | apply pw_below_drewN | apply below_drew1) | exact HB.out)⟩⟩
            ·rw [if_neg c33] at H
             have c33b0 : decide (x13_3 ≤ (t161.length : Int)) = false := decide_eq_false c33
             clear c33
             (first | rw [c33b0] | (simp only [i64_w, i32_w]; rw [c33b0]) | skip)
             have H' := Aside0.mk H
             clear H
             go_wp2
             repeat (go_quiet (fail); try go_wp2)
             go_meet
             case rel => exact ⟨_, (false), (by first | rfl | (simp; done) | (simp [*]; done)), H', ⟨by have := HJ4.out; have := HK2.out; have := HK3.out; first | omega | exact Nat.le_refl _⟩, ⟨by (with_reducible repeat (first | apply Kd.S_alloc | apply Kd.S_drewN | apply Kd.S_drew)); exact HO_0.out⟩, ⟨by (with_reducible repeat (first | apply Kd.V_alloc | apply Kd.V_drewN | apply Kd.V_drew)); exact HO_5.out⟩, ⟨by repeat (first | (with_reducible first | exact HB.out | apply below_alloc | apply pw_below_drewN | apply below_drew1) | exact HB.out)⟩⟩
           case rest =>
            clear HC32
            try clear c1
            try clear p1
            try clear q1
            try clear hx1
            try clear c2
            try clear p2
            try clear q2
            try clear c3
            try clear p6
            try clear c9
            try clear c9b0
            try clear c9b1
            try clear c10
            try clear c11
            try clear c11b0
            try clear c11b1
            try clear c14
            try clear c16
            try clear c16b0
            try clear p17
            try clear q17
            try clear hx17
            try clear c20
            try clear c20b0
            try clear c20b1
            try clear c22
            try clear c22b0
            try clear c23
            try clear c23b0
            try clear q24
            try clear c25
            try clear c26
            try clear c29
            try clear c29b0
            try clear c29b1
            try clear c33
            try clear c33b0
            try clear hx170_0
            try clear hx170_1
            try clear hx170_2
            try clear hx170_3
            try clear hx170_4
            try clear hx171_0
            try clear hx171_1
            try clear hx171_2
            try clear hx171_3
            try clear hx171_4
            try clear p1
            try clear p17
            try clear p170
            try clear p171
            try clear p2
            try clear p6
            try clear q1
            try clear q17
            try clear q170
            try clear q171
            try clear q2
            try clear q24
            obtain ⟨kq, x81_31, rfl, HA, HJ31, HO_0, HO_5, HB⟩ := hcut
            cases kq with
            | zero => exact absurd HA.out (by simp [cellarerlaw07_PagerVersions.j3])
            | succ kj31 =>
             have H := HA.out
             clear HA
             simp only [cellarerlaw07_PagerVersions.j3] at H
             by_cases c34 : x81_31 = true
             ·subst c34
              have H1 : (if x13_3 < (l1.length : Int) then (if 0 ≤ x13_3 then (cellarerlaw07_PagerVersions.j4 kj31 t158 l1 t161 x10_3 x11_3 x12_3 x13_3 (wrap64 (1 + (wrap64 (Int.tmod (rd l1 x13_3) 5))))) else (none)) else (cellarerlaw07_PagerVersions.j4 kj31 t158 l1 t161 x10_3 x11_3 x12_3 x13_3 1)) = some r := by rw [if_pos rfl] at H; exact H
              clear H
              have H := H1
              clear H1
              have HC35 := Aside0.mk H
              clear H
              go_upto_if 87 with (fail)
              repeat (go_quiet (fail); go_upto_if 87 with (fail))
              go_cut [14] (fun v14 wc => ∃ (kq : Nat) (x14_34 : Int), v14 = .int .i64 x14_34 ∧ Aside0 (cellarerlaw07_PagerVersions.j4 kq t158 l1 t161 x10_3 x11_3 x12_3 x13_3 x14_34 = some r) ∧ Aside0 (kq ≤ kj31) ∧ Aside0 (Kd.S k50 50 wc w.heap.size (fun _ => True) (.slice Ao7 t158.length co7) t158) ∧ Aside0 (Kd.V k65 65 wc w.heap.size (fun k_ => some k_ ≠ ((.slice Ao7 t158.length co7) : Value).ownBlock) (.slice Ao21 t161.length co21) t161) ∧ Aside0 (Below w.heap.size w wc))
              case first =>
               have H := HC35.out
               clear HC35
               by_cases c36 : x13_3 < (l1.length : Int)
               ·rw [if_pos c36] at H
                have c36b0 : decide (x13_3 < (l1.length : Int)) = true := decide_eq_true c36
                clear c36
                (first | rw [c36b0] | (simp only [i64_w, i32_w]; rw [c36b0]) | skip)
                by_cases c37 : 0 ≤ x13_3
                ·rw [if_pos c37] at H
                 have c37b0 : decide (0 ≤ x13_3) = true := decide_eq_true c37
                 clear c37
                 have H' := Aside0.mk H
                 clear H
                 have p177 : 0 ≤ (x13_3 : Int) := of_decide_eq_true (by first | (with_reducible assumption) | assumption)
                 have q177 : x13_3 < (l1.length : Int) := of_decide_eq_true (by first | (with_reducible assumption) | assumption)
                 obtain ⟨ad177, e177, hx177_0⟩ := Kd.at_int HR1.out x13_3 p177 q177
                 cases e177
                 replace hx177_0 := (HB.out.cell (World.block_lt_of_cell? w _ hx177_0)).trans hx177_0
                 replace p177 := eq_true p177
                 replace q177 := eq_true q177
                 go_wp2
                 repeat (go_quiet (fail); try go_wp2)
                 go_meet
                 case rel => exact ⟨_, (wrap64 (1 + (wrap64 (Int.tmod (rd l1 x13_3) 5)))), (by first | rfl | (simp; done) | (simp [*]; done)), H', ⟨by have := HJ4.out; have := HK2.out; have := HK3.out; have := HJ31.out; first | omega | exact Nat.le_refl _⟩, ⟨by (with_reducible repeat (first | apply Kd.S_alloc | apply Kd.S_drewN | apply Kd.S_drew)); exact HO_0.out⟩, ⟨by (with_reducible repeat (first | apply Kd.V_alloc | apply Kd.V_drewN | apply Kd.V_drew)); exact HO_5.out⟩, ⟨by repeat (first | (with_reducible first | exact HB.out | apply below_alloc | apply pw_below_drewN | apply below_drew1) | exact HB.out)⟩⟩
                ·rw [if_neg c37] at H
                 exact absurd H (by simp)
               ·rw [if_neg c36] at H
                have c36b0 : decide (x13_3 < (l1.length : Int)) = false := decide_eq_false c36
                clear c36
                (first | rw [c36b0] | (simp only [i64_w, i32_w]; rw [c36b0]) | skip)
                have H' := Aside0.mk H
                clear H
                go_wp2
                repeat (go_quiet (fail); try go_wp2)
                go_meet
                case rel => exact ⟨_, (1), (by first | rfl | (simp; done) | (simp [*]; done)), H', ⟨by have := HJ4.out; have := HK2.out; have := HK3.out; have := HJ31.out; first | omega | exact Nat.le_refl _⟩, ⟨by (with_reducible repeat (first | apply Kd.S_alloc | apply Kd.S_drewN | apply Kd.S_drew)); exact HO_0.out⟩, ⟨by (with_reducible repeat (first | apply Kd.V_alloc | apply Kd.V_drewN | apply Kd.V_drew)); exact HO_5.out⟩, ⟨by repeat (first | (with_reducible first | exact HB.out | apply below_alloc | apply pw_below_drewN | apply below_drew1) | exact HB.out)⟩⟩
              case rest =>
               clear HC35
               try clear c1
               try clear p1
               try clear q1
               try clear hx1
               try clear c2
               try clear p2
               try clear q2
               try clear c3
               try clear p6
               try clear c9
               try clear c9b0
               try clear c9b1
               try clear c10
               try clear c11
               try clear c11b0
               try clear c11b1
               try clear c14
               try clear c16
               try clear c16b0
               try clear p17
               try clear q17
               try clear hx17
               try clear c20
               try clear c20b0
               try clear c20b1
               try clear c22
               try clear c22b0
               try clear c23
               try clear c23b0
               try clear q24
               try clear c25
               try clear c26
               try clear c29
               try clear c29b0
               try clear c29b1
               try clear c33
               try clear c33b0
               try clear c34
               try clear c36
               try clear c36b0
               try clear c37
               try clear c37b0
               try clear hx170_0
               try clear hx170_1
               try clear hx170_2
               try clear hx170_3
               try clear hx170_4
               try clear hx171_0
               try clear hx171_1
               try clear hx171_2
               try clear hx171_3
               try clear hx171_4
               try clear hx177_0
               try clear p1
               try clear p17
               try clear p170
               try clear p171
               try clear p177
               try clear p2
               try clear p6
               try clear q1
               try clear q17
               try clear q170
               try clear q171
               try clear q177
               try clear q2
               try clear q24
               obtain ⟨kq, x14_34, rfl, HA, HJ34, HO_0, HO_5, HB⟩ := hcut
               cases kq with
               | zero => exact absurd HA.out (by simp [cellarerlaw07_PagerVersions.j4])
               | succ kj34 =>
                have H := HA.out
                clear HA
                simp only [cellarerlaw07_PagerVersions.j4] at H
                replace H := Option.bind_eq_some_iff.mp H
                obtain ⟨⟨t178, t181, t182⟩, A380, H⟩ := H
                replace H : (if t182 = 0 then (if (wrap64 (x12_3 + (t178.length : Int))) > (t161.length : Int) then (cellarerlaw07_PagerVersions.j5 kj34 t158 l1 t161 x12_3 x13_3 t178 t181 true) else (if (t181 != (decide ((wrap64 (x12_3 + (t178.length : Int))) < (t161.length : Int)))) = true then (cellarerlaw07_PagerVersions.j5 kj34 t158 l1 t161 x12_3 x13_3 t178 t181 true) else (if 0 ≤ x12_3 then (if x12_3 ≤ (wrap64 (x12_3 + (t178.length : Int))) then (if (wrap64 (x12_3 + (t178.length : Int))) ≤ (t161.length : Int) then ((cellarerref07_Same.f kj34 t178 ((t161.take ((wrap64 (x12_3 + (t178.length : Int))) : Int).toNat).drop (x12_3 : Int).toNat)).bind fun t188 => (cellarerlaw07_PagerVersions.j5 kj34 t158 l1 t161 x12_3 x13_3 t178 t181 (!t188))) else (none)) else (none)) else (none)))) else (cellarerlaw07_PagerVersions.j5 kj34 t158 l1 t161 x12_3 x13_3 t178 t181 true)) = some r := H
                have A38 := Aside0.mk A380
                clear A380
                have HC39 := Aside0.mk H
                clear H
                go_upto_region 24 with (first | (go_at_call 22; (with_reducible refine (pager_Rows.calls kj34 _ _ t158 (⟨#[]⟩ : ByteArray) x10_3 x11_3 x14_34 t178 t181 t182 _ ?side1 ?side2 A38.out).mono ?_); (case side1 => repeat (first | exact (Kd.S_reads' HO_0.out).2.2 | (with_reducible refine Kd.C_alloc ?_ _) | (with_reducible refine Kd.C_drewN ?_ _) | (with_reducible refine Kd.C_drew ?_))); (case side2 => exact (Kd.S_reads' HO_0.out).2.1); rintro e w40 ⟨v179, rfl, ho0, hb⟩; have n0_ := Aside0.mk (Kd.S_below (by (with_reducible repeat (first | apply Kd.S_alloc | apply Kd.S_drewN | apply Kd.S_drew)); exact HO_0.out) hb); have n1_ := Aside0.mk (Kd.V_below (by (with_reducible repeat (first | apply Kd.V_alloc | apply Kd.V_drewN | apply Kd.V_drew)); exact HO_5.out) hb); have n2_ := Aside0.mk (Kd.V_lower (Kd.V_mono (ok' := fun k_ => some k_ ≠ (.slice Ao7 t158.length co7 : Value).ownBlock) ho0 (fun k_ hk_ => (Kd.fresh' (Kd.S_lt (by (with_reducible repeat (first | apply Kd.S_alloc | apply Kd.S_drewN | apply Kd.S_drew)); exact HO_0.out)) k_ hk_))) (below_size (by repeat (first | (with_reducible first | exact HB.out | apply below_alloc | apply pw_below_drewN | apply below_drew1) | exact HB.out)))); have n3_ := Aside0.mk (below_step (by repeat (first | (with_reducible first | exact HB.out | apply below_alloc | apply pw_below_drewN | apply below_drew1) | exact HB.out)) hb); clear HO_0; clear HO_5; clear HB; have HO_0 := n0_; have HO_5 := n1_; have HO180 := n2_; have HB := n3_; clear n0_ n1_ n2_ n3_; (try clear hb); (try clear hb2); (try clear hk); (try clear hi); (try clear ho0)))
                repeat (go_quiet (first | (go_at_call 22; (with_reducible refine (pager_Rows.calls kj34 _ _ t158 (⟨#[]⟩ : ByteArray) x10_3 x11_3 x14_34 t178 t181 t182 _ ?side1 ?side2 A38.out).mono ?_); (case side1 => repeat (first | exact (Kd.S_reads' HO_0.out).2.2 | (with_reducible refine Kd.C_alloc ?_ _) | (with_reducible refine Kd.C_drewN ?_ _) | (with_reducible refine Kd.C_drew ?_))); (case side2 => exact (Kd.S_reads' HO_0.out).2.1); rintro e w40 ⟨v179, rfl, ho0, hb⟩; have n0_ := Aside0.mk (Kd.S_below (by (with_reducible repeat (first | apply Kd.S_alloc | apply Kd.S_drewN | apply Kd.S_drew)); exact HO_0.out) hb); have n1_ := Aside0.mk (Kd.V_below (by (with_reducible repeat (first | apply Kd.V_alloc | apply Kd.V_drewN | apply Kd.V_drew)); exact HO_5.out) hb); have n2_ := Aside0.mk (Kd.V_lower (Kd.V_mono (ok' := fun k_ => some k_ ≠ (.slice Ao7 t158.length co7 : Value).ownBlock) ho0 (fun k_ hk_ => (Kd.fresh' (Kd.S_lt (by (with_reducible repeat (first | apply Kd.S_alloc | apply Kd.S_drewN | apply Kd.S_drew)); exact HO_0.out)) k_ hk_))) (below_size (by repeat (first | (with_reducible first | exact HB.out | apply below_alloc | apply pw_below_drewN | apply below_drew1) | exact HB.out)))); have n3_ := Aside0.mk (below_step (by repeat (first | (with_reducible first | exact HB.out | apply below_alloc | apply pw_below_drewN | apply below_drew1) | exact HB.out)) hb); clear HO_0; clear HO_5; clear HB; have HO_0 := n0_; have HO_5 := n1_; have HO180 := n2_; have HB := n3_; clear n0_ n1_ n2_ n3_; (try clear hb); (try clear hb2); (try clear hk); (try clear hi); (try clear ho0))); go_upto_region 24 with (first | (go_at_call 22; (with_reducible refine (pager_Rows.calls kj34 _ _ t158 (⟨#[]⟩ : ByteArray) x10_3 x11_3 x14_34 t178 t181 t182 _ ?side1 ?side2 A38.out).mono ?_); (case side1 => repeat (first | exact (Kd.S_reads' HO_0.out).2.2 | (with_reducible refine Kd.C_alloc ?_ _) | (with_reducible refine Kd.C_drewN ?_ _) | (with_reducible refine Kd.C_drew ?_))); (case side2 => exact (Kd.S_reads' HO_0.out).2.1); rintro e w40 ⟨v179, rfl, ho0, hb⟩; have n0_ := Aside0.mk (Kd.S_below (by (with_reducible repeat (first | apply Kd.S_alloc | apply Kd.S_drewN | apply Kd.S_drew)); exact HO_0.out) hb); have n1_ := Aside0.mk (Kd.V_below (by (with_reducible repeat (first | apply Kd.V_alloc | apply Kd.V_drewN | apply Kd.V_drew)); exact HO_5.out) hb); have n2_ := Aside0.mk (Kd.V_lower (Kd.V_mono (ok' := fun k_ => some k_ ≠ (.slice Ao7 t158.length co7 : Value).ownBlock) ho0 (fun k_ hk_ => (Kd.fresh' (Kd.S_lt (by (with_reducible repeat (first | apply Kd.S_alloc | apply Kd.S_drewN | apply Kd.S_drew)); exact HO_0.out)) k_ hk_))) (below_size (by repeat (first | (with_reducible first | exact HB.out | apply below_alloc | apply pw_below_drewN | apply below_drew1) | exact HB.out)))); have n3_ := Aside0.mk (below_step (by repeat (first | (with_reducible first | exact HB.out | apply below_alloc | apply pw_below_drewN | apply below_drew1) | exact HB.out)) hb); clear HO_0; clear HO_5; clear HB; have HO_0 := n0_; have HO_5 := n1_; have HO180 := n2_; have HB := n3_; clear n0_ n1_ n2_ n3_; (try clear hb); (try clear hb2); (try clear hk); (try clear hi); (try clear ho0))))
                (try simp only [Act.put, List.setIfInBounds_toArray, List.set_cons_zero, List.set_cons_succ])
                go_cut [137] (fun v137 wc => ∃ (kq : Nat) (x137_38 : Bool), v137 = .bool x137_38 ∧ Aside0 (cellarerlaw07_PagerVersions.j5 kq t158 l1 t161 x12_3 x13_3 t178 t181 x137_38 = some r) ∧ Aside0 (kq ≤ kj34) ∧ Aside0 (Kd.S k50 50 wc w.heap.size (fun _ => True) (.slice Ao7 t158.length co7) t158) ∧ Aside0 (Kd.V k65 65 wc w.heap.size (fun k_ => some k_ ≠ ((.slice Ao7 t158.length co7) : Value).ownBlock) (.slice Ao21 t161.length co21) t161) ∧ Aside0 (Kd.V k65 65 wc w.heap.size (fun k_ => some k_ ≠ ((.slice Ao7 t158.length co7) : Value).ownBlock) v179 t178) ∧ Aside0 (Below w.heap.size w wc))
                case first =>
                 have H := HC39.out
                 clear HC39
                 by_cases c41 : t182 = 0
                 ·rw [if_pos c41] at H
                  have c41b0 : (t182 == 0) = true := beq_iff_eq.mpr c41
                  have c41b1 : (t182 != 0) = false := bne_eq_false_iff_eq.mpr c41
                  clear c41
                  (first | rw [c41b0] | rw [c41b1] | (simp only [i64_w, i32_w]; rw [c41b0]) | skip)
                  by_cases c42 : (wrap64 (x12_3 + (t178.length : Int))) > (t161.length : Int)
                  ·rw [if_pos c42] at H
                   have c42b0 : decide ((t161.length : Int) < (wrap64 (x12_3 + (t178.length : Int)))) = true := decide_eq_true c42
                   clear c42
                   have H' := Aside0.mk H
                   clear H
                   obtain ⟨Ao43, co43, eo43⟩ := Kd.V_slice HO180.out
                   subst eo43
                   go_wp2
                   repeat (go_quiet (fail); try go_wp2)
                   go_meet
                   case rel => exact ⟨_, (true), (by first | rfl | (simp; done) | (simp [*]; done)), H', ⟨by have := HJ4.out; have := HK2.out; have := HK3.out; have := HJ31.out; have := HJ34.out; first | omega | exact Nat.le_refl _⟩, ⟨by (with_reducible repeat (first | apply Kd.S_alloc | apply Kd.S_drewN | apply Kd.S_drew)); exact HO_0.out⟩, ⟨by (with_reducible repeat (first | apply Kd.V_alloc | apply Kd.V_drewN | apply Kd.V_drew)); exact HO_5.out⟩, ⟨by (with_reducible repeat (first | apply Kd.V_alloc | apply Kd.V_drewN | apply Kd.V_drew)); exact HO180.out⟩, ⟨by repeat (first | (with_reducible first | exact HB.out | apply below_alloc | apply pw_below_drewN | apply below_drew1) | exact HB.out)⟩⟩
                  ·rw [if_neg c42] at H
                   have c42b0 : decide ((t161.length : Int) < (wrap64 (x12_3 + (t178.length : Int)))) = false := decide_eq_false c42
                   clear c42
                   by_cases c44 : (t181 != (decide ((wrap64 (x12_3 + (t178.length : Int))) < (t161.length : Int)))) = true
                   ·rw [if_pos c44] at H
                    have c44b0 : (t181 != (decide ((wrap64 (x12_3 + (t178.length : Int))) < (t161.length : Int)))) = true := c44
                    (try (have c44b1 : decide (t181 = (decide ((wrap64 (x12_3 + (t178.length : Int))) < (t161.length : Int)))) = false := by simpa using c44))
                    (try (have c44b2 : (t181 == (decide ((wrap64 (x12_3 + (t178.length : Int))) < (t161.length : Int)))) = false := by simpa using c44))
                    (try (have c44b3 : ¬ (t181 = (decide ((wrap64 (x12_3 + (t178.length : Int))) < (t161.length : Int)))) := by simpa using c44))
                    clear c44
                    have H' := Aside0.mk H
                    clear H
                    obtain ⟨Ao45, co45, eo45⟩ := Kd.V_slice HO180.out
                    subst eo45
                    go_wp2
                    repeat (go_quiet (fail); try go_wp2)
                    go_meet
                    case rel => exact ⟨_, (true), (by first | rfl | (simp; done) | (simp [*]; done)), H', ⟨by have := HJ4.out; have := HK2.out; have := HK3.out; have := HJ31.out; have := HJ34.out; first | omega | exact Nat.le_refl _⟩, ⟨by (with_reducible repeat (first | apply Kd.S_alloc | apply Kd.S_drewN | apply Kd.S_drew)); exact HO_0.out⟩, ⟨by (with_reducible repeat (first | apply Kd.V_alloc | apply Kd.V_drewN | apply Kd.V_drew)); exact HO_5.out⟩, ⟨by (with_reducible repeat (first | apply Kd.V_alloc | apply Kd.V_drewN | apply Kd.V_drew)); exact HO180.out⟩, ⟨by repeat (first | (with_reducible first | exact HB.out | apply below_alloc | apply pw_below_drewN | apply below_drew1) | exact HB.out)⟩⟩
                   ·rw [if_neg c44] at H
                    have c44b0 : (t181 != (decide ((wrap64 (x12_3 + (t178.length : Int))) < (t161.length : Int)))) = false := by simpa using c44
                    (try (have c44b1 : decide (t181 = (decide ((wrap64 (x12_3 + (t178.length : Int))) < (t161.length : Int)))) = true := by simpa using c44))
                    (try (have c44b2 : (t181 == (decide ((wrap64 (x12_3 + (t178.length : Int))) < (t161.length : Int)))) = true := by simpa using c44))
                    clear c44
                    by_cases c46 : 0 ≤ x12_3
                    ·rw [if_pos c46] at H
                     have c46b0 := eq_true c46
                     have c46b1 : decide (0 ≤ x12_3) = true := decide_eq_true c46
                     clear c46
                     by_cases c47 : x12_3 ≤ (wrap64 (x12_3 + (t178.length : Int)))
                     ·rw [if_pos c47] at H
                      have c47b0 := eq_true c47
                      have c47b1 : decide (x12_3 ≤ (wrap64 (x12_3 + (t178.length : Int)))) = true := decide_eq_true c47
                      by_cases c48 : (wrap64 (x12_3 + (t178.length : Int))) ≤ (t161.length : Int)
                      ·rw [if_pos c48] at H
                       have c48b0 := eq_true c48
                       have c48b1 : decide ((wrap64 (x12_3 + (t178.length : Int))) ≤ (t161.length : Int)) = true := decide_eq_true c48
                       obtain ⟨y183, hy183⟩ : ∃ y_ : List (S65), y_ = ((t161.take ((wrap64 (x12_3 + (t178.length : Int))) : Int).toNat).drop (x12_3 : Int).toNat) := ⟨_, rfl⟩
                       replace H : ((cellarerref07_Same.f kj34 t178 y183).bind fun t188 => (cellarerlaw07_PagerVersions.j5 kj34 t158 l1 t161 x12_3 x13_3 t178 t181 (!t188))) = some r := by first | (rw [hy183]; with_reducible exact H) | (have H2_ := (Option.bind_some _ _).symm.trans H; rw [hy183]; with_reducible exact H2_) | (have H2_ := (Option.bind_some _ _).symm.trans H; with_reducible exact H2_) | with_reducible exact H | (rw [hy183]; exact H) | exact H
                       have Ny183 := Aside0.mk hy183
                       clear hy183
                       replace H := Option.bind_eq_some_iff.mp H
                       obtain ⟨t188, A490, H⟩ := H
                       replace H : (cellarerlaw07_PagerVersions.j5 kj34 t158 l1 t161 x12_3 x13_3 t178 t181 (!t188)) = some r := H
                       have A49 := Aside0.mk A490
                       clear A490
                       have H' := Aside0.mk H
                       clear H
                       obtain ⟨Ao50, co50, eo50⟩ := Kd.V_slice HO180.out
                       subst eo50
                       have q51 : ((wrap64 (x12_3 + (t178.length : Int))) : Int) ≤ ((t161.length : Int) : Int) := of_decide_eq_true (by first | (with_reducible assumption) | assumption)
                       obtain ⟨i051, hi051, _, hsz51, _⟩ := info_parts info65
                       have hroom51 : t161.length ≤ co21 := (Kd.V_reads' HO_5.out).2.1
                       have hC51 : Kd.F k65 _ _ Ao21 t161.length t161 := (Kd.V_at (base := w.heap.size) HO_5.out).2.2
                       have ql51 : (x12_3 : Int) ≤ ((wrap64 (x12_3 + (t178.length : Int))) : Int) := of_decide_eq_true (by first | (with_reducible assumption) | assumption)
                       have q051 : (0 : Int) ≤ (x12_3 : Int) := of_decide_eq_true (by first | (with_reducible assumption) | assumption)
                       have hcut51 := cut_mid (P := Try.prog) 56 65 .i64 .i64 Try.underlying56 hi051 5 hsz51 Ao21 t161.length co21 x12_3 (wrap64 (x12_3 + (t178.length : Int))) q051 ql51 q51 hroom51
                       have hr51 := Kd.F_mid (lo := (x12_3 : Int).toNat) (hi := ((wrap64 (x12_3 + (t178.length : Int))) : Int).toNat) (c := co21) hC51 (by omega) (by omega) hroom51
                       obtain ⟨A51, hA51⟩ : ∃ A1, A1 = (if co21 = (x12_3 : Int).toNat then Ao21 else (Ao21 : Option Addr).map (·.add ((x12_3 : Int).toNat * 5))) := ⟨_, rfl⟩
                       obtain ⟨c51, hc51⟩ : ∃ c1, c1 = co21 - (x12_3 : Int).toNat := ⟨_, rfl⟩
                       have hy51 : y183.length = ((wrap64 (x12_3 + (t178.length : Int))) : Int).toNat - (x12_3 : Int).toNat := (by rw [Ny183.out, List.length_drop, List.length_take] <;> omega)
                       rw [show ((t161).take ((wrap64 (x12_3 + (t178.length : Int))) : Int).toNat).drop (x12_3 : Int).toNat = y183 from Ny183.out.symm] at hr51
                       replace hr51 : Kd.F k65 _ _ A51 y183.length y183 := (by rw [hA51]; exact hr51)
                       rw [← hy51, ← hA51, ← hc51] at hcut51
                       have HO187 := Aside0.mk (show Kd.V k65 65 _ w.heap.size _ (.slice A51 y183.length c51) y183 from Kd.V_mk (by rw [hy51, hc51]; exact Nat.sub_le_sub_right (Nat.le_trans (by omega) hroom51) _) hr51)
                       have HC187 := Aside0.mk (show y183.length ≤ c51 from by rw [hy51, hc51]; exact Nat.sub_le_sub_right (Nat.le_trans (by omega) hroom51) _)
                       clear hr51 hC51 hroom51 hi051 hsz51 hc51
                       have KY51 := Aside0.mk hy51
                       have KA51 := Aside0.mk hA51
                       clear hy51 hA51
                       replace q51 := eq_true q51
                       go_wp2_with (first | (go_at_call 24; (with_reducible refine (cellarerref07_Same.calls kj34 _ _ t178 _ _ y183 t188 _ ?side1 ?side2 ?side3 ?side4 A49.out).mono ?_); (case side1 => repeat (first | exact (Kd.V_reads' HO180.out).2.2 | (with_reducible refine Kd.C_alloc ?_ _) | (with_reducible refine Kd.C_drewN ?_ _) | (with_reducible refine Kd.C_drew ?_))); (case side2 => exact (Kd.V_reads' HO180.out).2.1); (case side3 => repeat (first | exact (Kd.V_reads' HO187.out).2.2 | (with_reducible refine Kd.C_alloc ?_ _) | (with_reducible refine Kd.C_drewN ?_ _) | (with_reducible refine Kd.C_drew ?_))); (case side4 => exact (Kd.V_reads' HO187.out).2.1); rintro e w' ⟨rfl, ⟨nd, rfl⟩⟩; (try first | exact ⟨rfl, _, World.drewN_drewN _ _ _⟩ | exact ⟨rfl, _, Eq.trans (World.drewN_drewN _ _ _) (congrArg (World.drewN _) (Nat.add_assoc _ _ _))⟩)))
                       repeat (go_quiet (first | (go_at_call 24; (with_reducible refine (cellarerref07_Same.calls kj34 _ _ t178 _ _ y183 t188 _ ?side1 ?side2 ?side3 ?side4 A49.out).mono ?_); (case side1 => repeat (first | exact (Kd.V_reads' HO180.out).2.2 | (with_reducible refine Kd.C_alloc ?_ _) | (with_reducible refine Kd.C_drewN ?_ _) | (with_reducible refine Kd.C_drew ?_))); (case side2 => exact (Kd.V_reads' HO180.out).2.1); (case side3 => repeat (first | exact (Kd.V_reads' HO187.out).2.2 | (with_reducible refine Kd.C_alloc ?_ _) | (with_reducible refine Kd.C_drewN ?_ _) | (with_reducible refine Kd.C_drew ?_))); (case side4 => exact (Kd.V_reads' HO187.out).2.1); rintro e w' ⟨rfl, ⟨nd, rfl⟩⟩; (try first | exact ⟨rfl, _, World.drewN_drewN _ _ _⟩ | exact ⟨rfl, _, Eq.trans (World.drewN_drewN _ _ _) (congrArg (World.drewN _) (Nat.add_assoc _ _ _))⟩))); try go_wp2_with (first | (go_at_call 24; (with_reducible refine (cellarerref07_Same.calls kj34 _ _ t178 _ _ y183 t188 _ ?side1 ?side2 ?side3 ?side4 A49.out).mono ?_); (case side1 => repeat (first | exact (Kd.V_reads' HO180.out).2.2 | (with_reducible refine Kd.C_alloc ?_ _) | (with_reducible refine Kd.C_drewN ?_ _) | (with_reducible refine Kd.C_drew ?_))); (case side2 => exact (Kd.V_reads' HO180.out).2.1); (case side3 => repeat (first | exact (Kd.V_reads' HO187.out).2.2 | (with_reducible refine Kd.C_alloc ?_ _) | (with_reducible refine Kd.C_drewN ?_ _) | (with_reducible refine Kd.C_drew ?_))); (case side4 => exact (Kd.V_reads' HO187.out).2.1); rintro e w' ⟨rfl, ⟨nd, rfl⟩⟩; (try first | exact ⟨rfl, _, World.drewN_drewN _ _ _⟩ | exact ⟨rfl, _, Eq.trans (World.drewN_drewN _ _ _) (congrArg (World.drewN _) (Nat.add_assoc _ _ _))⟩))))
                       go_meet
                       case rel => exact ⟨_, (!t188), (by first | rfl | (simp; done) | (simp [*]; done)), H', ⟨by have := HJ4.out; have := HK2.out; have := HK3.out; have := HJ31.out; have := HJ34.out; first | omega | exact Nat.le_refl _⟩, ⟨by (with_reducible repeat (first | apply Kd.S_alloc | apply Kd.S_drewN | apply Kd.S_drew)); exact HO_0.out⟩, ⟨by (with_reducible repeat (first | apply Kd.V_alloc | apply Kd.V_drewN | apply Kd.V_drew)); exact HO_5.out⟩, ⟨by (with_reducible repeat (first | apply Kd.V_alloc | apply Kd.V_drewN | apply Kd.V_drew)); exact HO180.out⟩, ⟨by repeat (first | (with_reducible first | exact HB.out | apply below_alloc | apply pw_below_drewN | apply below_drew1) | exact HB.out)⟩⟩
                      ·rw [if_neg c48] at H
                       exact absurd H (by simp)
                     ·rw [if_neg c47] at H
                      exact absurd H (by simp)
                    ·rw [if_neg c46] at H
                     exact absurd H (by simp)
                 ·rw [if_neg c41] at H
                  have c41b0 : (t182 == 0) = false := beq_eq_false_iff_ne.mpr c41
                  have c41b1 : (t182 != 0) = true := bne_iff_ne.mpr c41
                  (first | rw [c41b0] | rw [c41b1] | (simp only [i64_w, i32_w]; rw [c41b0]) | skip)
                  have H' := Aside0.mk H
                  clear H
                  go_wp2
                  repeat (go_quiet (fail); try go_wp2)
                  go_meet
                  case rel => exact ⟨_, (true), (by first | rfl | (simp; done) | (simp [*]; done)), H', ⟨by have := HJ4.out; have := HK2.out; have := HK3.out; have := HJ31.out; have := HJ34.out; first | omega | exact Nat.le_refl _⟩, ⟨by (with_reducible repeat (first | apply Kd.S_alloc | apply Kd.S_drewN | apply Kd.S_drew)); exact HO_0.out⟩, ⟨by (with_reducible repeat (first | apply Kd.V_alloc | apply Kd.V_drewN | apply Kd.V_drew)); exact HO_5.out⟩, ⟨by (with_reducible repeat (first | apply Kd.V_alloc | apply Kd.V_drewN | apply Kd.V_drew)); exact HO180.out⟩, ⟨by repeat (first | (with_reducible first | exact HB.out | apply below_alloc | apply pw_below_drewN | apply below_drew1) | exact HB.out)⟩⟩
                case rest =>
                 clear HC39
                 try clear c1
                 try clear p1
                 try clear q1
                 try clear hx1
                 try clear c2
                 try clear p2
                 try clear q2
                 try clear c3
                 try clear c4
                 try clear c5
                 try clear q5
                 try clear p6
                 try clear c9
                 try clear c9b0
                 try clear c9b1
                 try clear c10
                 try clear c11
                 try clear c11b0
                 try clear c11b1
                 try clear c14
                 try clear c16
                 try clear c16b0
                 try clear p17
                 try clear q17
                 try clear hx17
                 try clear c20
                 try clear c20b0
                 try clear c20b1
                 try clear c22
                 try clear c22b0
                 try clear c23
                 try clear c23b0
                 try clear q24
                 try clear c25
                 try clear c26
                 try clear c29
                 try clear c29b0
                 try clear c29b1
                 try clear c33
                 try clear c33b0
                 try clear c34
                 try clear c36
                 try clear c36b0
                 try clear c37
                 try clear c37b0
                 try clear c41
                 try clear c41b0
                 try clear c41b1
                 try clear c42
                 try clear c42b0
                 try clear c44
                 try clear c44b0
                 try clear c44b1
                 try clear c44b2
                 try clear c46
                 try clear c46b0
                 try clear c46b1
                 try clear c47
                 try clear c47b0
                 try clear c47b1
                 try clear c48
                 try clear c48b0
                 try clear c48b1
                 try clear c51
                 try clear q51
                 try clear hx170_0
                 try clear hx170_1
                 try clear hx170_2
                 try clear hx170_3
                 try clear hx170_4
                 try clear hx171_0
                 try clear hx171_1
                 try clear hx171_2
                 try clear hx171_3
                 try clear hx171_4
                 try clear hx177_0
                 try clear p1
                 try clear p17
                 try clear p170
                 try clear p171
                 try clear p177
                 try clear p2
                 try clear p6
                 try clear q051
                 try clear q1
                 try clear q17
                 try clear q170
                 try clear q171
                 try clear q177
                 try clear q2
                 try clear q24
                 try clear q51
                 obtain ⟨kq, x137_38, rfl, HA, HJ38, HO_0, HO_5, HO_15, HB⟩ := hcut
                 cases kq with
                 | zero => exact absurd HA.out (by simp [cellarerlaw07_PagerVersions.j5])
                 | succ kj38 =>
                  have H := HA.out
                  clear HA
                  simp only [cellarerlaw07_PagerVersions.j5] at H
                  by_cases c52 : x137_38 = true
                  ·subst c52
                   have H1 : (some false) = some r := by rw [if_pos rfl] at H; exact H
                   clear H
                   have H := H1
                   clear H1
                   obtain rfl := Option.some.inj H
                   exact absurd HTR_.out (by decide)
                  ·replace c52 := Bool.eq_false_iff.mpr c52
                   subst c52
                   have H1 : (if t181 = true then (if (t178.length : Int) = 0 then (some false) else (if 0 ≤ (wrap64 ((t178.length : Int) - 1)) then (if (wrap64 ((t178.length : Int) - 1)) < (t178.length : Int) then (cellarerlaw07_PagerVersions.l1 kj38 t158 l1 t161 ((rd_T65 t178 (wrap64 ((t178.length : Int) - 1))).f0) ((rd_T65 t178 (wrap64 ((t178.length : Int) - 1))).f1) (wrap64 (x12_3 + (t178.length : Int))) (wrap64 (x13_3 + 1))) else (none)) else (none))) else (if (wrap64 (x12_3 + (t178.length : Int))) = (t161.length : Int) then ((cellarerlaw07_awake.f).bind fun t189 => (some t189)) else (some false))) = some r := by rw [if_neg (show ¬ (false = true) by decide)] at H; exact H
                   clear H
                   have H := H1
                   clear H1
                   by_cases c53 : t181 = true
                   ·subst c53
                    have H1 : (if (t178.length : Int) = 0 then (some false) else (if 0 ≤ (wrap64 ((t178.length : Int) - 1)) then (if (wrap64 ((t178.length : Int) - 1)) < (t178.length : Int) then (cellarerlaw07_PagerVersions.l1 kj38 t158 l1 t161 ((rd_T65 t178 (wrap64 ((t178.length : Int) - 1))).f0) ((rd_T65 t178 (wrap64 ((t178.length : Int) - 1))).f1) (wrap64 (x12_3 + (t178.length : Int))) (wrap64 (x13_3 + 1))) else (none)) else (none))) = some r := by rw [if_pos rfl] at H; exact H
                    clear H
                    have H := H1
                    clear H1
                    by_cases c54 : (t178.length : Int) = 0
                    ·rw [if_pos c54] at H
                     have c54b0 : ((t178.length : Int) == 0) = true := beq_iff_eq.mpr c54
                     have c54b1 : ((t178.length : Int) != 0) = false := bne_eq_false_iff_eq.mpr c54
                     clear c54
                     obtain rfl := Option.some.inj H
                     exact absurd HTR_.out (by decide)
                    ·rw [if_neg c54] at H
                     have c54b0 : ((t178.length : Int) == 0) = false := beq_eq_false_iff_ne.mpr c54
                     have c54b1 : ((t178.length : Int) != 0) = true := bne_iff_ne.mpr c54
                     have c54b2 : ¬ (t178 = []) := fun h_ => c54 (by rw [h_]; rfl)
                     obtain ⟨ji56, hji56⟩ : ∃ j_ : Int, (wrap64 ((t178.length : Int) - 1)) = j_ := ⟨_, rfl⟩
                     replace H : (if 0 ≤ (ji56) then (if (ji56) < (t178.length : Int) then (cellarerlaw07_PagerVersions.l1 kj38 t158 l1 t161 ((rd_T65 t178 (ji56)).f0) ((rd_T65 t178 (ji56)).f1) (wrap64 (x12_3 + (t178.length : Int))) (wrap64 (x13_3 + 1))) else (none)) else (none)) = some r := by first | (rw [hji56] at H; exact H) | (simp only [hji56] at H ⊢; exact H)
                     have hji56w : (IntKind.i64.wrap ((t178.length : Int) - 1)) = ji56 := (i64_w _).trans hji56
                     by_cases c57 : 0 ≤ (ji56)
                     ·rw [if_pos c57] at H
                      have c57b0 : decide (0 ≤ (ji56)) = true := decide_eq_true c57
                      clear c57
                      by_cases c58 : (ji56) < (t178.length : Int)
                      ·rw [if_pos c58] at H
                       have c58b0 : decide ((ji56) < (t178.length : Int)) = true := decide_eq_true c58
                       clear c58
                       have H' := Aside0.mk H
                       clear H
                       obtain ⟨Ao59, co59, eo59⟩ := Kd.V_slice HO_15.out
                       subst eo59
                       have p190 : 0 ≤ ((ji56) : Int) := of_decide_eq_true (by first | (with_reducible assumption) | assumption)
                       have q190 : (ji56) < (t178.length : Int) := of_decide_eq_true (by first | (with_reducible assumption) | assumption)
                       obtain ⟨ad190, e190, hx190_0, hx190_1, hx190_2, hx190_3, hx190_4⟩ := at_T65 (Kd.V_reads' HO_15.out).2.2 (ji56) p190 q190
                       cases e190
                       replace p190 := eq_true p190
                       replace q190 := eq_true q190
                       have p191 : 0 ≤ ((ji56) : Int) := of_decide_eq_true (by first | (with_reducible assumption) | assumption)
                       have q191 : (ji56) < (t178.length : Int) := of_decide_eq_true (by first | (with_reducible assumption) | assumption)
                       obtain ⟨ad191, e191, hx191_0, hx191_1, hx191_2, hx191_3, hx191_4⟩ := at_T65 (Kd.V_reads' HO_15.out).2.2 (ji56) p191 q191
                       obtain rfl : ad190 = ad191 := (by injection e191)
                       replace p191 := eq_true p191
                       replace q191 := eq_true q191
                       go_wp2
                       repeat (go_quiet (fail); try go_wp2)
                       go_roundg kj38
                       case measure => have := HJ4.out; have := HK2.out; have := HK3.out; have := HJ31.out; have := HJ34.out; have := HJ38.out; omega
                       case rel => exact ⟨((rd_T65 t178 (ji56)).f0), ((rd_T65 t178 (ji56)).f1), (wrap64 (x12_3 + (t178.length : Int))), (wrap64 (x13_3 + 1)), (by first | rfl | (simp; done) | (simp only [← hji56] <;> (first | rfl | simp)) | (simp [*]; done)), (by first | rfl | (simp; done) | (simp only [← hji56] <;> (first | rfl | simp)) | (simp [*]; done)), (by first | rfl | (simp; done) | (simp [*]; done)), (by first | rfl | (simp; done) | (simp [*]; done)), H', ⟨by have := HJ4.out; have := HK2.out; have := HK3.out; have := HJ31.out; have := HJ34.out; have := HJ38.out; omega⟩, ⟨by (with_reducible repeat (first | apply Kd.S_alloc | apply Kd.S_drewN | apply Kd.S_drew)); exact HO_0.out⟩, ⟨by (with_reducible repeat (first | apply Kd.V_alloc | apply Kd.V_drewN | apply Kd.V_drew)); exact HO_5.out⟩, ⟨by repeat (first | (with_reducible first | exact HB.out | apply below_alloc | apply pw_below_drewN | apply below_drew1) | exact HB.out)⟩⟩
                      ·rw [if_neg c58] at H
                       exact absurd H (by simp)
                     ·rw [if_neg c57] at H
                      exact absurd H (by simp)
                   ·replace c53 := Bool.eq_false_iff.mpr c53
                    subst c53
                    have H1 : (if (wrap64 (x12_3 + (t178.length : Int))) = (t161.length : Int) then ((cellarerlaw07_awake.f).bind fun t189 => (some t189)) else (some false)) = some r := by rw [if_neg (show ¬ (false = true) by decide)] at H; exact H
                    clear H
                    have H := H1
                    clear H1
                    by_cases c60 : (wrap64 (x12_3 + (t178.length : Int))) = (t161.length : Int)
                    ·rw [if_pos c60] at H
                     have c60b0 : ((wrap64 (x12_3 + (t178.length : Int))) == (t161.length : Int)) = true := beq_iff_eq.mpr c60
                     have c60b1 : ((wrap64 (x12_3 + (t178.length : Int))) != (t161.length : Int)) = false := bne_eq_false_iff_eq.mpr c60
                     clear c60
                     replace H := Option.bind_eq_some_iff.mp H
                     obtain ⟨t189, A610, H⟩ := H
                     replace H : (some t189) = some r := H
                     have A61 := Aside0.mk A610
                     clear A610
                     obtain rfl := Option.some.inj H
                     obtain ⟨Ao62, co62, eo62⟩ := Kd.V_slice HO_15.out
                     subst eo62
                     go_wp2_with (first | (go_at_call 14; (with_reducible refine (cellarerlaw07_awake.calls  t189 _ A61.out).mono ?_); rintro e w63 ⟨rfl, hb⟩; have n0_ := Aside0.mk (Kd.S_below (by (with_reducible repeat (first | apply Kd.S_alloc | apply Kd.S_drewN | apply Kd.S_drew)); exact HO_0.out) hb); have n1_ := Aside0.mk (Kd.V_below (by (with_reducible repeat (first | apply Kd.V_alloc | apply Kd.V_drewN | apply Kd.V_drew)); exact HO_5.out) hb); have n2_ := Aside0.mk (Kd.V_below (by (with_reducible repeat (first | apply Kd.V_alloc | apply Kd.V_drewN | apply Kd.V_drew)); exact HO_15.out) hb); have n3_ := Aside0.mk (below_step (by repeat (first | (with_reducible first | exact HB.out | apply below_alloc | apply pw_below_drewN | apply below_drew1) | exact HB.out)) hb); clear HO_0; clear HO_5; clear HO_15; clear HB; have HO_0 := n0_; have HO_5 := n1_; have HO_15 := n2_; have HB := n3_; clear n0_ n1_ n2_ n3_; (try clear hb); (try clear hb2); (try clear hk); (try clear hi)))
                     repeat (go_quiet (first | (go_at_call 14; (with_reducible refine (cellarerlaw07_awake.calls  t189 _ A61.out).mono ?_); rintro e w63 ⟨rfl, hb⟩; have n0_ := Aside0.mk (Kd.S_below (by (with_reducible repeat (first | apply Kd.S_alloc | apply Kd.S_drewN | apply Kd.S_drew)); exact HO_0.out) hb); have n1_ := Aside0.mk (Kd.V_below (by (with_reducible repeat (first | apply Kd.V_alloc | apply Kd.V_drewN | apply Kd.V_drew)); exact HO_5.out) hb); have n2_ := Aside0.mk (Kd.V_below (by (with_reducible repeat (first | apply Kd.V_alloc | apply Kd.V_drewN | apply Kd.V_drew)); exact HO_15.out) hb); have n3_ := Aside0.mk (below_step (by repeat (first | (with_reducible first | exact HB.out | apply below_alloc | apply pw_below_drewN | apply below_drew1) | exact HB.out)) hb); clear HO_0; clear HO_5; clear HO_15; clear HB; have HO_0 := n0_; have HO_5 := n1_; have HO_15 := n2_; have HB := n3_; clear n0_ n1_ n2_ n3_; (try clear hb); (try clear hb2); (try clear hk); (try clear hi))); try go_wp2_with (first | (go_at_call 14; (with_reducible refine (cellarerlaw07_awake.calls  t189 _ A61.out).mono ?_); rintro e w63 ⟨rfl, hb⟩; have n0_ := Aside0.mk (Kd.S_below (by (with_reducible repeat (first | apply Kd.S_alloc | apply Kd.S_drewN | apply Kd.S_drew)); exact HO_0.out) hb); have n1_ := Aside0.mk (Kd.V_below (by (with_reducible repeat (first | apply Kd.V_alloc | apply Kd.V_drewN | apply Kd.V_drew)); exact HO_5.out) hb); have n2_ := Aside0.mk (Kd.V_below (by (with_reducible repeat (first | apply Kd.V_alloc | apply Kd.V_drewN | apply Kd.V_drew)); exact HO_15.out) hb); have n3_ := Aside0.mk (below_step (by repeat (first | (with_reducible first | exact HB.out | apply below_alloc | apply pw_below_drewN | apply below_drew1) | exact HB.out)) hb); clear HO_0; clear HO_5; clear HO_15; clear HB; have HO_0 := n0_; have HO_5 := n1_; have HO_15 := n2_; have HB := n3_; clear n0_ n1_ n2_ n3_; (try clear hb); (try clear hb2); (try clear hk); (try clear hi))))
                     go_ret
                     exact ⟨by first | rfl | (simp [errW_none, errW_some] <;> rfl) | (simp [*, errW_none, errW_some] <;> rfl), by repeat (first | (with_reducible first | exact HB.out | apply below_alloc | apply pw_below_drewN | apply below_drew1) | exact HB.out)⟩
                    ·rw [if_neg c60] at H
                     have c60b0 : ((wrap64 (x12_3 + (t178.length : Int))) == (t161.length : Int)) = false := beq_eq_false_iff_ne.mpr c60
                     have c60b1 : ((wrap64 (x12_3 + (t178.length : Int))) != (t161.length : Int)) = true := bne_iff_ne.mpr c60
                     obtain rfl := Option.some.inj H
                     exact absurd HTR_.out (by decide)
             ·replace c34 := Bool.eq_false_iff.mpr c34
              subst c34
              have H1 : ((cellarerlaw07_awake.f).bind fun t176 => (some t176)) = some r := by rw [if_neg (show ¬ (false = true) by decide)] at H; exact H
              clear H
              have H := H1
              clear H1
              replace H := Option.bind_eq_some_iff.mp H
              obtain ⟨t176, A650, H⟩ := H
              replace H : (some t176) = some r := H
              have A65 := Aside0.mk A650
              clear A650
              obtain rfl := Option.some.inj H
              go_wp2_with (first | (go_at_call 14; (with_reducible refine (cellarerlaw07_awake.calls  t176 _ A65.out).mono ?_); rintro e w66 ⟨rfl, hb⟩; have n0_ := Aside0.mk (Kd.S_below (by (with_reducible repeat (first | apply Kd.S_alloc | apply Kd.S_drewN | apply Kd.S_drew)); exact HO_0.out) hb); have n1_ := Aside0.mk (Kd.V_below (by (with_reducible repeat (first | apply Kd.V_alloc | apply Kd.V_drewN | apply Kd.V_drew)); exact HO_5.out) hb); have n2_ := Aside0.mk (below_step (by repeat (first | (with_reducible first | exact HB.out | apply below_alloc | apply pw_below_drewN | apply below_drew1) | exact HB.out)) hb); clear HO_0; clear HO_5; clear HB; have HO_0 := n0_; have HO_5 := n1_; have HB := n2_; clear n0_ n1_ n2_; (try clear hb); (try clear hb2); (try clear hk); (try clear hi)))
              repeat (go_quiet (first | (go_at_call 14; (with_reducible refine (cellarerlaw07_awake.calls  t176 _ A65.out).mono ?_); rintro e w66 ⟨rfl, hb⟩; have n0_ := Aside0.mk (Kd.S_below (by (with_reducible repeat (first | apply Kd.S_alloc | apply Kd.S_drewN | apply Kd.S_drew)); exact HO_0.out) hb); have n1_ := Aside0.mk (Kd.V_below (by (with_reducible repeat (first | apply Kd.V_alloc | apply Kd.V_drewN | apply Kd.V_drew)); exact HO_5.out) hb); have n2_ := Aside0.mk (below_step (by repeat (first | (with_reducible first | exact HB.out | apply below_alloc | apply pw_below_drewN | apply below_drew1) | exact HB.out)) hb); clear HO_0; clear HO_5; clear HB; have HO_0 := n0_; have HO_5 := n1_; have HB := n2_; clear n0_ n1_ n2_; (try clear hb); (try clear hb2); (try clear hk); (try clear hi))); try go_wp2_with (first | (go_at_call 14; (with_reducible refine (cellarerlaw07_awake.calls  t176 _ A65.out).mono ?_); rintro e w66 ⟨rfl, hb⟩; have n0_ := Aside0.mk (Kd.S_below (by (with_reducible repeat (first | apply Kd.S_alloc | apply Kd.S_drewN | apply Kd.S_drew)); exact HO_0.out) hb); have n1_ := Aside0.mk (Kd.V_below (by (with_reducible repeat (first | apply Kd.V_alloc | apply Kd.V_drewN | apply Kd.V_drew)); exact HO_5.out) hb); have n2_ := Aside0.mk (below_step (by repeat (first | (with_reducible first | exact HB.out | apply below_alloc | apply pw_below_drewN | apply below_drew1) | exact HB.out)) hb); clear HO_0; clear HO_5; clear HB; have HO_0 := n0_; have HO_5 := n1_; have HB := n2_; clear n0_ n1_ n2_; (try clear hb); (try clear hb2); (try clear hk); (try clear hi))))
              go_ret
              exact ⟨by first | rfl | (simp [errW_none, errW_some] <;> rfl) | (simp [*, errW_none, errW_some] <;> rfl), by repeat (first | (with_reducible first | exact HB.out | apply below_alloc | apply pw_below_drewN | apply below_drew1) | exact HB.out)⟩
        ·rw [if_neg c29] at H
         have c29b0 : (t175 == (t158.length : Int)) = false := beq_eq_false_iff_ne.mpr c29
         have c29b1 : (t175 != (t158.length : Int)) = true := bne_iff_ne.mpr c29
         obtain rfl := Option.some.inj H
         exact absurd HTR_.out (by decide)
    ·rw [if_neg c20] at H
     have c20b0 : ((t161.length : Int) == t169) = false := beq_eq_false_iff_ne.mpr c20
     have c20b1 : ((t161.length : Int) != t169) = true := bne_iff_ne.mpr c20
     obtain rfl := Option.some.inj H
     exact absurd HTR_.out (by decide)
/-- THE ONE PURE STATEMENT of cellarerlaw07_PagerVersions. -/
-- GIVEN cellarerlaw07_PagerVersions.Pure
def cellarerlaw07_PagerVersions.Pure : Prop := ∀ (l0 : List (S50)) (l1 : List Int), (l0.length ≤ maxLen ∧ ∀ y1_ ∈ l0, okS50 y1_) → (l1.length ≤ maxLen ∧ ∀ y1_ ∈ l1, (Lit.int .u8 y1_).wf = true) → ∃ k, cellarerlaw07_PagerVersions.f k l0 l1 = some true
end Go.Proofs.Ytcnnijkgiioniaa.P
