/-
  cellarerlaw07.PagerWhole, told as far as it returns true: printed over a listing whose set is a row, the map put back.
-/
import Derived.Test.YtcnnijkgiioniaaPx4
import Derived.Test.YtcnnijkgiioniaaPx5
import Derived.Test.YtcnnijkgiioniaaPx6
import Derived.Test.YtcnnijkgiioniaaPx2
import Derived.Test.YtcnnijkgiioniaaPx9
import Derived.Test.YtcnnijkgiioniaaPgMapS
import Derived.Test.YtcnnijkgiioniaaPxOpens
set_option linter.unusedVariables false
set_option linter.unusedSimpArgs false
namespace Go.Proofs.Ytcnnijkgiioniaa.P
open Go.RowKit Go.Proofs.YtcnnijkgiioniaaW.PrintWords Go.Proofs.YtcnnijkgiioniaaW.PrintLast Go.Proofs.YtcnnijkgiioniaaW.PrintMore Go.Proofs.Ytcnnijkgiioniaa
attribute [local go_sem] max2_int min2_int max_two min_two max_three min_three max_four min_four

mutual
def cellarerlaw07_PagerWhole.l0 : Nat → List Int → List ByteArray → ByteArray → Int → Int → List (S50) → ByteArray → ByteArray → ByteArray → Int → Int → Option (Bool)
  | 0, _, _, _, _, _, _, _, _, _, _, _ => none
  | k + 1, x1, x5, x7, x8, x9, x165000, x165001, x165002, x165003, x165004, x165005 => if x9 ≤ (x5.length : Int) then (if x9 < (x1.length : Int) then (if 0 ≤ x9 then (cellarerlaw07_PagerWhole.j1 k x1 x5 x7 x8 x9 (wrap64 (1 + (wrap64 (Int.tmod (rd x1 x9) 5)))) x165000 x165001 x165002 x165003 x165004 x165005) else (none)) else (cellarerlaw07_PagerWhole.j1 k x1 x5 x7 x8 x9 1 x165000 x165001 x165002 x165003 x165004 x165005)) else (some false)
def cellarerlaw07_PagerWhole.j1 : Nat → List Int → List ByteArray → ByteArray → Int → Int → Int → List (S50) → ByteArray → ByteArray → ByteArray → Int → Int → Option (Bool)
  | 0, _, _, _, _, _, _, _, _, _, _, _, _ => none
  | k + 1, x1, x5, x7, x8, x9, x10, x165000, x165001, x165002, x165003, x165004, x165005 => (pager_Keys.f k x165000 x165001 x165002 x7 x10).bind fun bt179 => (if bt179.2.2.2.2 = 0 then (if (wrap64 (x8 + (wrap64 ((bt179.1.length : Int) + (bt179.2.1.length : Int))))) > (x5.length : Int) then (cellarerlaw07_PagerWhole.j2 k x1 x5 x8 x9 (wrap64 ((bt179.1.length : Int) + (bt179.2.1.length : Int))) true x165000 x165001 x165002 x165003 x165004 x165005 bt179.1 bt179.2.1 bt179.2.2.1 bt179.2.2.2.1) else (if (bt179.2.2.1 != (decide ((wrap64 (x8 + (wrap64 ((bt179.1.length : Int) + (bt179.2.1.length : Int))))) < (x5.length : Int)))) = true then (cellarerlaw07_PagerWhole.j2 k x1 x5 x8 x9 (wrap64 ((bt179.1.length : Int) + (bt179.2.1.length : Int))) true x165000 x165001 x165002 x165003 x165004 x165005 bt179.1 bt179.2.1 bt179.2.2.1 bt179.2.2.2.1) else (if bt179.2.2.1 = true then (cellarerlaw07_PagerWhole.j2 k x1 x5 x8 x9 (wrap64 ((bt179.1.length : Int) + (bt179.2.1.length : Int))) ((wrap64 ((bt179.1.length : Int) + (bt179.2.1.length : Int))) != x10) x165000 x165001 x165002 x165003 x165004 x165005 bt179.1 bt179.2.1 bt179.2.2.1 bt179.2.2.2.1) else (cellarerlaw07_PagerWhole.j2 k x1 x5 x8 x9 (wrap64 ((bt179.1.length : Int) + (bt179.2.1.length : Int))) false x165000 x165001 x165002 x165003 x165004 x165005 bt179.1 bt179.2.1 bt179.2.2.1 bt179.2.2.2.1)))) else (cellarerlaw07_PagerWhole.j2 k x1 x5 x8 x9 (wrap64 ((bt179.1.length : Int) + (bt179.2.1.length : Int))) true x165000 x165001 x165002 x165003 x165004 x165005 bt179.1 bt179.2.1 bt179.2.2.1 bt179.2.2.2.1))
def cellarerlaw07_PagerWhole.j2 : Nat → List Int → List ByteArray → Int → Int → Int → Bool → List (S50) → ByteArray → ByteArray → ByteArray → Int → Int → List ByteArray → List ByteArray → Bool → ByteArray → Option (Bool)
  | 0, _, _, _, _, _, _, _, _, _, _, _, _, _, _, _, _ => none
  | k + 1, x1, x5, x8, x9, x13, x98, x165000, x165001, x165002, x165003, x165004, x165005, x189000, x189001, x189002, x189003 => if x98 = true then (some false) else (cellarerlaw07_PagerWhole.l1 k x1 x5 x8 x9 x13 ([] : List ByteArray) 0 x165000 x165001 x165002 x165003 x165004 x165005 x189000 x189001 x189002 x189003)
def cellarerlaw07_PagerWhole.l1 : Nat → List Int → List ByteArray → Int → Int → Int → List ByteArray → Int → List (S50) → ByteArray → ByteArray → ByteArray → Int → Int → List ByteArray → List ByteArray → Bool → ByteArray → Option (Bool)
  | 0, _, _, _, _, _, _, _, _, _, _, _, _, _, _, _, _, _ => none
  | k + 1, x1, x5, x8, x9, x13, x14, x15, x165000, x165001, x165002, x165003, x165004, x165005, x189000, x189001, x189002, x189003 => if x15 < (x189000.length : Int) then (if 0 ≤ x15 then (if (x14.length < 8796093022208 ∧ (rdOf ByteArray.empty x189000 x15).size ≤ 1000000) then (cellarerlaw07_PagerWhole.l1 k x1 x5 x8 x9 x13 (x14 ++ [rdOf ByteArray.empty x189000 x15]) (wrap64 (x15 + 1)) x165000 x165001 x165002 x165003 x165004 x165005 x189000 x189001 x189002 x189003) else (none)) else (none)) else (cellarerlaw07_PagerWhole.l2 k x1 x5 x8 x9 x13 x14 0 x165000 x165001 x165002 x165003 x165004 x165005 x189000 x189001 x189002 x189003)
def cellarerlaw07_PagerWhole.l2 : Nat → List Int → List ByteArray → Int → Int → Int → List ByteArray → Int → List (S50) → ByteArray → ByteArray → ByteArray → Int → Int → List ByteArray → List ByteArray → Bool → ByteArray → Option (Bool)
  | 0, _, _, _, _, _, _, _, _, _, _, _, _, _, _, _, _, _ => none
  | k + 1, x1, x5, x8, x9, x13, x14, x16, x165000, x165001, x165002, x165003, x165004, x165005, x189000, x189001, x189002, x189003 => if x16 < (x189001.length : Int) then (if 0 ≤ x16 then (if (x14.length < 8796093022208 ∧ (rdOf ByteArray.empty x189001 x16).size ≤ 1000000) then (cellarerlaw07_PagerWhole.l2 k x1 x5 x8 x9 x13 (x14 ++ [rdOf ByteArray.empty x189001 x16]) (wrap64 (x16 + 1)) x165000 x165001 x165002 x165003 x165004 x165005 x189000 x189001 x189002 x189003) else (none)) else (none)) else (cellarerlaw07_PagerWhole.l3 k x1 x5 x8 x9 x13 x14 0 x165000 x165001 x165002 x165003 x165004 x165005 x189000 x189001 x189002 x189003)
def cellarerlaw07_PagerWhole.l3 : Nat → List Int → List ByteArray → Int → Int → Int → List ByteArray → Int → List (S50) → ByteArray → ByteArray → ByteArray → Int → Int → List ByteArray → List ByteArray → Bool → ByteArray → Option (Bool)
  | 0, _, _, _, _, _, _, _, _, _, _, _, _, _, _, _, _, _ => none
  | k + 1, x1, x5, x8, x9, x13, x14, x17, x165000, x165001, x165002, x165003, x165004, x165005, x189000, x189001, x189002, x189003 => if x17 < x13 then (if 0 ≤ (wrap64 (x8 + x17)) then (if (wrap64 (x8 + x17)) < (x5.length : Int) then ((PgMapS.hasAt x14 (rdOf ByteArray.empty x5 (wrap64 (x8 + x17)))).bind fun t198 => (if t198 = true then (cellarerlaw07_PagerWhole.l3 k x1 x5 x8 x9 x13 x14 (wrap64 (x17 + 1)) x165000 x165001 x165002 x165003 x165004 x165005 x189000 x189001 x189002 x189003) else (some false))) else (none)) else (none)) else (if x189002 = true then (if 0 ≤ (wrap64 ((wrap64 (x8 + x13)) - 1)) then (if (wrap64 ((wrap64 (x8 + x13)) - 1)) < (x5.length : Int) then (if x189003.toList = (rdOf ByteArray.empty x5 (wrap64 ((wrap64 (x8 + x13)) - 1))).toList then ((cellarerref01_Key.f k x189003).bind fun t201 => (if t201 = true then (cellarerlaw07_PagerWhole.l0 k x1 x5 x189003 (wrap64 (x8 + x13)) (wrap64 (x9 + 1)) x165000 x165001 x165002 x165003 x165004 x165005) else (some false))) else (some false)) else (none)) else (none)) else (if (wrap64 (x8 + x13)) = (x5.length : Int) then ((cellarerlaw07_awake.f).bind fun t199 => (some t199)) else (some false)))
end
def cellarerlaw07_PagerWhole.f (k : Nat) (l0_0 : List (S50)) (a0_1 : ByteArray) (a0_2 : ByteArray) (a0_3 : ByteArray) (a0_4 : Int) (a0_5 : Int) (l1 : List Int) : Option (Bool) := (cellarerlaw07_cut.f k l0_0 a0_1 a0_2 a0_3 a0_4 a0_5).bind fun bt165 => ((pager_Things.f k bt165.1 bt165.2.1 bt165.2.2.1).bind fun bt173 => (if bt173.2 = 0 then (cellarerlaw07_PagerWhole.l0 k l1 bt173.1 (⟨#[]⟩ : ByteArray) 0 0 bt165.1 bt165.2.1 bt165.2.2.1 bt165.2.2.2.1 bt165.2.2.2.2.1 bt165.2.2.2.2.2) else ((cellarerlaw07_awake.f).bind fun t177 => (some t177))))
theorem cellarerlaw07_PagerWhole.mono_l : ∀ k, (∀ y0 y1 y2 y3 y4 y5 y6 y7 y8 y9 y10, LeO (cellarerlaw07_PagerWhole.l0 k y0 y1 y2 y3 y4 y5 y6 y7 y8 y9 y10) (cellarerlaw07_PagerWhole.l0 (k + 1) y0 y1 y2 y3 y4 y5 y6 y7 y8 y9 y10)) ∧ (∀ y0 y1 y2 y3 y4 y5 y6 y7 y8 y9 y10 y11, LeO (cellarerlaw07_PagerWhole.j1 k y0 y1 y2 y3 y4 y5 y6 y7 y8 y9 y10 y11) (cellarerlaw07_PagerWhole.j1 (k + 1) y0 y1 y2 y3 y4 y5 y6 y7 y8 y9 y10 y11)) ∧ (∀ y0 y1 y2 y3 y4 y5 y6 y7 y8 y9 y10 y11 y12 y13 y14 y15, LeO (cellarerlaw07_PagerWhole.j2 k y0 y1 y2 y3 y4 y5 y6 y7 y8 y9 y10 y11 y12 y13 y14 y15) (cellarerlaw07_PagerWhole.j2 (k + 1) y0 y1 y2 y3 y4 y5 y6 y7 y8 y9 y10 y11 y12 y13 y14 y15)) ∧ (∀ y0 y1 y2 y3 y4 y5 y6 y7 y8 y9 y10 y11 y12 y13 y14 y15 y16, LeO (cellarerlaw07_PagerWhole.l1 k y0 y1 y2 y3 y4 y5 y6 y7 y8 y9 y10 y11 y12 y13 y14 y15 y16) (cellarerlaw07_PagerWhole.l1 (k + 1) y0 y1 y2 y3 y4 y5 y6 y7 y8 y9 y10 y11 y12 y13 y14 y15 y16)) ∧ (∀ y0 y1 y2 y3 y4 y5 y6 y7 y8 y9 y10 y11 y12 y13 y14 y15 y16, LeO (cellarerlaw07_PagerWhole.l2 k y0 y1 y2 y3 y4 y5 y6 y7 y8 y9 y10 y11 y12 y13 y14 y15 y16) (cellarerlaw07_PagerWhole.l2 (k + 1) y0 y1 y2 y3 y4 y5 y6 y7 y8 y9 y10 y11 y12 y13 y14 y15 y16)) ∧ (∀ y0 y1 y2 y3 y4 y5 y6 y7 y8 y9 y10 y11 y12 y13 y14 y15 y16, LeO (cellarerlaw07_PagerWhole.l3 k y0 y1 y2 y3 y4 y5 y6 y7 y8 y9 y10 y11 y12 y13 y14 y15 y16) (cellarerlaw07_PagerWhole.l3 (k + 1) y0 y1 y2 y3 y4 y5 y6 y7 y8 y9 y10 y11 y12 y13 y14 y15 y16))
  | 0 => ⟨fun _ _ _ _ _ _ _ _ _ _ _ r h => by simp [cellarerlaw07_PagerWhole.l0] at h, fun _ _ _ _ _ _ _ _ _ _ _ _ r h => by simp [cellarerlaw07_PagerWhole.j1] at h, fun _ _ _ _ _ _ _ _ _ _ _ _ _ _ _ _ r h => by simp [cellarerlaw07_PagerWhole.j2] at h, fun _ _ _ _ _ _ _ _ _ _ _ _ _ _ _ _ _ r h => by simp [cellarerlaw07_PagerWhole.l1] at h, fun _ _ _ _ _ _ _ _ _ _ _ _ _ _ _ _ _ r h => by simp [cellarerlaw07_PagerWhole.l2] at h, fun _ _ _ _ _ _ _ _ _ _ _ _ _ _ _ _ _ r h => by simp [cellarerlaw07_PagerWhole.l3] at h⟩
  | k + 1 => by
    obtain ⟨ih0, ih1, ih2, ih3, ih4, ih5⟩ := cellarerlaw07_PagerWhole.mono_l k
    refine ⟨?_, ?_, ?_, ?_, ?_, ?_⟩
    · intro y0 y1 y2 y3 y4 y5 y6 y7 y8 y9 y10
      unfold cellarerlaw07_PagerWhole.l0
      repeat' first
      | (with_reducible exact ih0 _ _ _ _ _ _ _ _ _ _ _)
      | (with_reducible exact ih1 _ _ _ _ _ _ _ _ _ _ _ _)
      | (with_reducible exact ih2 _ _ _ _ _ _ _ _ _ _ _ _ _ _ _ _)
      | (with_reducible exact ih3 _ _ _ _ _ _ _ _ _ _ _ _ _ _ _ _ _)
      | (with_reducible exact ih4 _ _ _ _ _ _ _ _ _ _ _ _ _ _ _ _ _)
      | (with_reducible exact ih5 _ _ _ _ _ _ _ _ _ _ _ _ _ _ _ _ _)
      | (with_reducible exact cellarerlaw07_cut.mono _ _ _ _ _ _ _)
      | (with_reducible exact cellarerref01_Key.mono _ _)
      | (with_reducible exact pager_Keys.mono _ _ _ _ _ _)
      | (with_reducible exact pager_Things.mono _ _ _ _)
      | (with_reducible exact LeO.refl _)
      | (with_reducible exact LeO.none _)
      | (with_reducible refine LeO.ite ?_ ?_)
      | (with_reducible refine LeO.bind ?_ (fun _ => ?_))
      | exact ih0 _ _ _ _ _ _ _ _ _ _ _
      | exact ih1 _ _ _ _ _ _ _ _ _ _ _ _
      | exact ih2 _ _ _ _ _ _ _ _ _ _ _ _ _ _ _ _
      | exact ih3 _ _ _ _ _ _ _ _ _ _ _ _ _ _ _ _ _
      | exact ih4 _ _ _ _ _ _ _ _ _ _ _ _ _ _ _ _ _
      | exact ih5 _ _ _ _ _ _ _ _ _ _ _ _ _ _ _ _ _
      | exact cellarerlaw07_cut.mono _ _ _ _ _ _ _
      | exact cellarerref01_Key.mono _ _
      | exact pager_Keys.mono _ _ _ _ _ _
      | exact pager_Things.mono _ _ _ _
      | exact LeO.none _
      | refine LeO.ite ?_ ?_
      | refine LeO.bind ?_ (fun _ => ?_)
    · intro y0 y1 y2 y3 y4 y5 y6 y7 y8 y9 y10 y11
      unfold cellarerlaw07_PagerWhole.j1
      repeat' first
      | (with_reducible exact ih0 _ _ _ _ _ _ _ _ _ _ _)
      | (with_reducible exact ih1 _ _ _ _ _ _ _ _ _ _ _ _)
      | (with_reducible exact ih2 _ _ _ _ _ _ _ _ _ _ _ _ _ _ _ _)
      | (with_reducible exact ih3 _ _ _ _ _ _ _ _ _ _ _ _ _ _ _ _ _)
      | (with_reducible exact ih4 _ _ _ _ _ _ _ _ _ _ _ _ _ _ _ _ _)
      | (with_reducible exact ih5 _ _ _ _ _ _ _ _ _ _ _ _ _ _ _ _ _)
      | (with_reducible exact cellarerlaw07_cut.mono _ _ _ _ _ _ _)
      | (with_reducible exact cellarerref01_Key.mono _ _)
      | (with_reducible exact pager_Keys.mono _ _ _ _ _ _)
      | (with_reducible exact pager_Things.mono _ _ _ _)
      | (with_reducible exact LeO.refl _)
      | (with_reducible exact LeO.none _)
      | (with_reducible refine LeO.ite ?_ ?_)
      | (with_reducible refine LeO.bind ?_ (fun _ => ?_))
      | exact ih0 _ _ _ _ _ _ _ _ _ _ _
      | exact ih1 _ _ _ _ _ _ _ _ _ _ _ _
      | exact ih2 _ _ _ _ _ _ _ _ _ _ _ _ _ _ _ _
      | exact ih3 _ _ _ _ _ _ _ _ _ _ _ _ _ _ _ _ _
      | exact ih4 _ _ _ _ _ _ _ _ _ _ _ _ _ _ _ _ _
      | exact ih5 _ _ _ _ _ _ _ _ _ _ _ _ _ _ _ _ _
      | exact cellarerlaw07_cut.mono _ _ _ _ _ _ _
      | exact cellarerref01_Key.mono _ _
      | exact pager_Keys.mono _ _ _ _ _ _
      | exact pager_Things.mono _ _ _ _
      | exact LeO.none _
      | refine LeO.ite ?_ ?_
      | refine LeO.bind ?_ (fun _ => ?_)
    · intro y0 y1 y2 y3 y4 y5 y6 y7 y8 y9 y10 y11 y12 y13 y14 y15
      unfold cellarerlaw07_PagerWhole.j2
      repeat' first
      | (with_reducible exact ih0 _ _ _ _ _ _ _ _ _ _ _)
      | (with_reducible exact ih1 _ _ _ _ _ _ _ _ _ _ _ _)
      | (with_reducible exact ih2 _ _ _ _ _ _ _ _ _ _ _ _ _ _ _ _)
      | (with_reducible exact ih3 _ _ _ _ _ _ _ _ _ _ _ _ _ _ _ _ _)
      | (with_reducible exact ih4 _ _ _ _ _ _ _ _ _ _ _ _ _ _ _ _ _)
      | (with_reducible exact ih5 _ _ _ _ _ _ _ _ _ _ _ _ _ _ _ _ _)
      | (with_reducible exact cellarerlaw07_cut.mono _ _ _ _ _ _ _)
      | (with_reducible exact cellarerref01_Key.mono _ _)
      | (with_reducible exact pager_Keys.mono _ _ _ _ _ _)
      | (with_reducible exact pager_Things.mono _ _ _ _)
      | (with_reducible exact LeO.refl _)
      | (with_reducible exact LeO.none _)
      | (with_reducible refine LeO.ite ?_ ?_)
      | (with_reducible refine LeO.bind ?_ (fun _ => ?_))
      | exact ih0 _ _ _ _ _ _ _ _ _ _ _
      | exact ih1 _ _ _ _ _ _ _ _ _ _ _ _
      | exact ih2 _ _ _ _ _ _ _ _ _ _ _ _ _ _ _ _
      | exact ih3 _ _ _ _ _ _ _ _ _ _ _ _ _ _ _ _ _
      | exact ih4 _ _ _ _ _ _ _ _ _ _ _ _ _ _ _ _ _
      | exact ih5 _ _ _ _ _ _ _ _ _ _ _ _ _ _ _ _ _
      | exact cellarerlaw07_cut.mono _ _ _ _ _ _ _
      | exact cellarerref01_Key.mono _ _
      | exact pager_Keys.mono _ _ _ _ _ _
      | exact pager_Things.mono _ _ _ _
      | exact LeO.none _
      | refine LeO.ite ?_ ?_
      | refine LeO.bind ?_ (fun _ => ?_)
    · intro y0 y1 y2 y3 y4 y5 y6 y7 y8 y9 y10 y11 y12 y13 y14 y15 y16
      unfold cellarerlaw07_PagerWhole.l1
      repeat' first
      | (with_reducible exact ih0 _ _ _ _ _ _ _ _ _ _ _)
      | (with_reducible exact ih1 _ _ _ _ _ _ _ _ _ _ _ _)
      | (with_reducible exact ih2 _ _ _ _ _ _ _ _ _ _ _ _ _ _ _ _)
      | (with_reducible exact ih3 _ _ _ _ _ _ _ _ _ _ _ _ _ _ _ _ _)
      | (with_reducible exact ih4 _ _ _ _ _ _ _ _ _ _ _ _ _ _ _ _ _)
      | (with_reducible exact ih5 _ _ _ _ _ _ _ _ _ _ _ _ _ _ _ _ _)
      | (with_reducible exact cellarerlaw07_cut.mono _ _ _ _ _ _ _)
      | (with_reducible exact cellarerref01_Key.mono _ _)
      | (with_reducible exact pager_Keys.mono _ _ _ _ _ _)
      | (with_reducible exact pager_Things.mono _ _ _ _)
      | (with_reducible exact LeO.refl _)
      | (with_reducible exact LeO.none _)
      | (with_reducible refine LeO.ite ?_ ?_)
      | (with_reducible refine LeO.bind ?_ (fun _ => ?_))
      | exact ih0 _ _ _ _ _ _ _ _ _ _ _
      | exact ih1 _ _ _ _ _ _ _ _ _ _ _ _
      | exact ih2 _ _ _ _ _ _ _ _ _ _ _ _ _ _ _ _
      | exact ih3 _ _ _ _ _ _ _ _ _ _ _ _ _ _ _ _ _
      | exact ih4 _ _ _ _ _ _ _ _ _ _ _ _ _ _ _ _ _
      | exact ih5 _ _ _ _ _ _ _ _ _ _ _ _ _ _ _ _ _
      | exact cellarerlaw07_cut.mono _ _ _ _ _ _ _
      | exact cellarerref01_Key.mono _ _
      | exact pager_Keys.mono _ _ _ _ _ _
      | exact pager_Things.mono _ _ _ _
      | exact LeO.none _
      | refine LeO.ite ?_ ?_
      | refine LeO.bind ?_ (fun _ => ?_)
    · intro y0 y1 y2 y3 y4 y5 y6 y7 y8 y9 y10 y11 y12 y13 y14 y15 y16
      unfold cellarerlaw07_PagerWhole.l2
      repeat' first
      | (with_reducible exact ih0 _ _ _ _ _ _ _ _ _ _ _)
      | (with_reducible exact ih1 _ _ _ _ _ _ _ _ _ _ _ _)
      | (with_reducible exact ih2 _ _ _ _ _ _ _ _ _ _ _ _ _ _ _ _)
      | (with_reducible exact ih3 _ _ _ _ _ _ _ _ _ _ _ _ _ _ _ _ _)
      | (with_reducible exact ih4 _ _ _ _ _ _ _ _ _ _ _ _ _ _ _ _ _)
      | (with_reducible exact ih5 _ _ _ _ _ _ _ _ _ _ _ _ _ _ _ _ _)
      | (with_reducible exact cellarerlaw07_cut.mono _ _ _ _ _ _ _)
      | (with_reducible exact cellarerref01_Key.mono _ _)
      | (with_reducible exact pager_Keys.mono _ _ _ _ _ _)
      | (with_reducible exact pager_Things.mono _ _ _ _)
      | (with_reducible exact LeO.refl _)
      | (with_reducible exact LeO.none _)
      | (with_reducible refine LeO.ite ?_ ?_)
      | (with_reducible refine LeO.bind ?_ (fun _ => ?_))
      | exact ih0 _ _ _ _ _ _ _ _ _ _ _
      | exact ih1 _ _ _ _ _ _ _ _ _ _ _ _
      | exact ih2 _ _ _ _ _ _ _ _ _ _ _ _ _ _ _ _
      | exact ih3 _ _ _ _ _ _ _ _ _ _ _ _ _ _ _ _ _
      | exact ih4 _ _ _ _ _ _ _ _ _ _ _ _ _ _ _ _ _
      | exact ih5 _ _ _ _ _ _ _ _ _ _ _ _ _ _ _ _ _
      | exact cellarerlaw07_cut.mono _ _ _ _ _ _ _
      | exact cellarerref01_Key.mono _ _
      | exact pager_Keys.mono _ _ _ _ _ _
      | exact pager_Things.mono _ _ _ _
      | exact LeO.none _
      | refine LeO.ite ?_ ?_
      | refine LeO.bind ?_ (fun _ => ?_)
    · intro y0 y1 y2 y3 y4 y5 y6 y7 y8 y9 y10 y11 y12 y13 y14 y15 y16
      unfold cellarerlaw07_PagerWhole.l3
      repeat' first
      | (with_reducible exact ih0 _ _ _ _ _ _ _ _ _ _ _)
      | (with_reducible exact ih1 _ _ _ _ _ _ _ _ _ _ _ _)
      | (with_reducible exact ih2 _ _ _ _ _ _ _ _ _ _ _ _ _ _ _ _)
      | (with_reducible exact ih3 _ _ _ _ _ _ _ _ _ _ _ _ _ _ _ _ _)
      | (with_reducible exact ih4 _ _ _ _ _ _ _ _ _ _ _ _ _ _ _ _ _)
      | (with_reducible exact ih5 _ _ _ _ _ _ _ _ _ _ _ _ _ _ _ _ _)
      | (with_reducible exact cellarerlaw07_cut.mono _ _ _ _ _ _ _)
      | (with_reducible exact cellarerref01_Key.mono _ _)
      | (with_reducible exact pager_Keys.mono _ _ _ _ _ _)
      | (with_reducible exact pager_Things.mono _ _ _ _)
      | (with_reducible exact LeO.refl _)
      | (with_reducible exact LeO.none _)
      | (with_reducible refine LeO.ite ?_ ?_)
      | (with_reducible refine LeO.bind ?_ (fun _ => ?_))
      | exact ih0 _ _ _ _ _ _ _ _ _ _ _
      | exact ih1 _ _ _ _ _ _ _ _ _ _ _ _
      | exact ih2 _ _ _ _ _ _ _ _ _ _ _ _ _ _ _ _
      | exact ih3 _ _ _ _ _ _ _ _ _ _ _ _ _ _ _ _ _
      | exact ih4 _ _ _ _ _ _ _ _ _ _ _ _ _ _ _ _ _
      | exact ih5 _ _ _ _ _ _ _ _ _ _ _ _ _ _ _ _ _
      | exact cellarerlaw07_cut.mono _ _ _ _ _ _ _
      | exact cellarerref01_Key.mono _ _
      | exact pager_Keys.mono _ _ _ _ _ _
      | exact pager_Things.mono _ _ _ _
      | exact LeO.none _
      | refine LeO.ite ?_ ?_
      | refine LeO.bind ?_ (fun _ => ?_)
theorem cellarerlaw07_PagerWhole.mono : ∀ a0 a1 a2 a3 a4 a5 a6 k, LeO (cellarerlaw07_PagerWhole.f k a0 a1 a2 a3 a4 a5 a6) (cellarerlaw07_PagerWhole.f (k + 1) a0 a1 a2 a3 a4 a5 a6) := by
  intro a0 a1 a2 a3 a4 a5 a6 k
  obtain ⟨ih0, ih1, ih2, ih3, ih4, ih5⟩ := cellarerlaw07_PagerWhole.mono_l k
  unfold cellarerlaw07_PagerWhole.f
  repeat' first
      | (with_reducible exact ih0 _ _ _ _ _ _ _ _ _ _ _)
      | (with_reducible exact ih1 _ _ _ _ _ _ _ _ _ _ _ _)
      | (with_reducible exact ih2 _ _ _ _ _ _ _ _ _ _ _ _ _ _ _ _)
      | (with_reducible exact ih3 _ _ _ _ _ _ _ _ _ _ _ _ _ _ _ _ _)
      | (with_reducible exact ih4 _ _ _ _ _ _ _ _ _ _ _ _ _ _ _ _ _)
      | (with_reducible exact ih5 _ _ _ _ _ _ _ _ _ _ _ _ _ _ _ _ _)
      | (with_reducible exact cellarerlaw07_cut.mono _ _ _ _ _ _ _)
      | (with_reducible exact cellarerref01_Key.mono _ _)
      | (with_reducible exact pager_Keys.mono _ _ _ _ _ _)
      | (with_reducible exact pager_Things.mono _ _ _ _)
      | (with_reducible exact LeO.refl _)
      | (with_reducible exact LeO.none _)
      | (with_reducible refine LeO.ite ?_ ?_)
      | (with_reducible refine LeO.bind ?_ (fun _ => ?_))
      | exact ih0 _ _ _ _ _ _ _ _ _ _ _
      | exact ih1 _ _ _ _ _ _ _ _ _ _ _ _
      | exact ih2 _ _ _ _ _ _ _ _ _ _ _ _ _ _ _ _
      | exact ih3 _ _ _ _ _ _ _ _ _ _ _ _ _ _ _ _ _
      | exact ih4 _ _ _ _ _ _ _ _ _ _ _ _ _ _ _ _ _
      | exact ih5 _ _ _ _ _ _ _ _ _ _ _ _ _ _ _ _ _
      | exact cellarerlaw07_cut.mono _ _ _ _ _ _ _
      | exact cellarerref01_Key.mono _ _
      | exact pager_Keys.mono _ _ _ _ _ _
      | exact pager_Things.mono _ _ _ _
      | exact LeO.none _
      | refine LeO.ite ?_ ?_
      | refine LeO.bind ?_ (fun _ => ?_)
set_option maxHeartbeats 16000000 in
set_option maxRecDepth 100000 in
theorem cellarerlaw07_PagerWhole.calls (k : Nat) (A0_0 : Option Addr) (c0_0 : Nat) (l0_0 : List (S50)) (a0_1 : ByteArray) (a0_2 : ByteArray) (a0_3 : ByteArray) (a0_4 : Int) (a0_5 : Int) (A1 : Option Addr) (c1 : Nat) (l1 : List Int) (r : Bool) (w : World) (hr0_0 : Kd.C k50 w A0_0 l0_0.length l0_0) (hc0_0 : l0_0.length ≤ c0_0) (hr1 : Kd.C (Kd.int .u8) w A1 l1.length l1) (hc1 : l1.length ≤ c1) (h : cellarerlaw07_PagerWhole.f k l0_0 a0_1 a0_2 a0_3 a0_4 a0_5 l1 = some r) (hTR_ : r = true) :
  Calls Try.prog 4 #[.agg #[.slice A0_0 l0_0.length c0_0, .string a0_1, .string a0_2, .string a0_3, .int .u64 a0_4, .int .i64 a0_5], .slice A1 l1.length c1] w fun e w' => e = .returned (.bool r) ∧ Below w.heap.size w w' := by
 have hu25 := Try.underlying25
 have hu29 := Try.underlying29
 have HR0_0 := Aside0.mk hr0_0
 have HC0_0 := Aside0.mk hc0_0
 clear hr0_0 hc0_0
 have HR1 := Aside0.mk hr1
 have HC1 := Aside0.mk hc1
 clear hr1 hc1
 have HB := Aside0.mk (Below.refl w.heap.size w)
 have HTR_ := Aside0.mk hTR_
 clear hTR_
 have H : ((cellarerlaw07_cut.f k l0_0 a0_1 a0_2 a0_3 a0_4 a0_5).bind fun bt165 => ((pager_Things.f k bt165.1 bt165.2.1 bt165.2.2.1).bind fun bt173 => (if bt173.2 = 0 then (cellarerlaw07_PagerWhole.l0 k l1 bt173.1 (⟨#[]⟩ : ByteArray) 0 0 bt165.1 bt165.2.1 bt165.2.2.1 bt165.2.2.2.1 bt165.2.2.2.2.1 bt165.2.2.2.2.2) else ((cellarerlaw07_awake.f).bind fun t177 => (some t177))))) = some r := h
 clear h
 replace H := Option.bind_eq_some_iff.mp H
 obtain ⟨⟨t165, t168, t169, t170, t171, t172⟩, A30, H⟩ := H
 replace H : ((pager_Things.f k t165 t168 t169).bind fun bt173 => (if bt173.2 = 0 then (cellarerlaw07_PagerWhole.l0 k l1 bt173.1 (⟨#[]⟩ : ByteArray) 0 0 t165 t168 t169 t170 t171 t172) else ((cellarerlaw07_awake.f).bind fun t177 => (some t177)))) = some r := H
 have A3 := Aside0.mk A30
 clear A30
 replace H := Option.bind_eq_some_iff.mp H
 obtain ⟨⟨t173, t174⟩, A40, H⟩ := H
 replace H : (if t174 = 0 then (cellarerlaw07_PagerWhole.l0 k l1 t173 (⟨#[]⟩ : ByteArray) 0 0 t165 t168 t169 t170 t171 t172) else ((cellarerlaw07_awake.f).bind fun t177 => (some t177))) = some r := H
 have A4 := Aside0.mk A40
 clear A40
 by_cases c5 : t174 = 0
 ·rw [if_pos c5] at H
  have c5b0 : (t174 == 0) = true := beq_iff_eq.mpr c5
  have c5b1 : (t174 != 0) = false := bne_eq_false_iff_eq.mpr c5
  clear c5
  have H' := Aside0.mk H
  clear H
  have hmm := @run_makeMap Try.prog
  go_enter Try.func4, Try.ntmps4
  go_wp2_with (first | ((with_reducible refine gate_dst (N := 2) rfl ?_); (try (refine gate_guard (by rfl) ?_; dsimp only)); refine box_event ?hg (N := 2) ?hd (cs := #[.slice A0_0 l0_0.length c0_0, .string a0_1, .string a0_2, .string a0_3, .int .u64 a0_4, .int .i64 a0_5]) (t := 25) ?hr ?_; (case hd => rfl); (case hg => rfl); (case hr => first | (go_simp; done) | (go_simp; rfl)); intro gb164 hg w6 hbox hb; have n0_ := Aside0.mk (below_step (by repeat (first | (with_reducible first | exact HB.out | apply below_alloc | apply pw_below_drewN | apply below_drew1) | exact HB.out)) hb); have n1_ := Aside0.mk (hbox); have n2_ := Aside0.mk ((by rw [hg]; exact (below_size (by repeat (first | (with_reducible first | exact HB.out | apply below_alloc | apply pw_below_drewN | apply below_drew1) | exact HB.out))) : w.heap.size ≤ gb164)); have n3_ := Aside0.mk ((by rw [hg]; exact (below_size (by repeat (first | (with_reducible first | exact HB.out | apply below_alloc | apply pw_below_drewN | apply below_drew1) | exact HB.out))) : w.heap.size ≤ gb164)); clear HB; have HB := n0_; have BK164 := n1_; have GW164 := n2_; have GE164 := n3_; clear n0_ n1_ n2_ n3_; clear hb hbox hg; have hcz7_0 : w6.cell? ⟨gb164, 0, none⟩ = some (.slice A0_0 l0_0.length c0_0) := (blk_cell BK164.out 0).trans rfl; have hcz7_1 : w6.cell? ⟨gb164, 1, none⟩ = some (.string a0_1) := (blk_cell BK164.out 1).trans rfl; have hcz7_2 : w6.cell? ⟨gb164, 2, none⟩ = some (.string a0_2) := (blk_cell BK164.out 2).trans rfl; have hcz7_3 : w6.cell? ⟨gb164, 3, none⟩ = some (.string a0_3) := (blk_cell BK164.out 3).trans rfl; have hcz7_4 : w6.cell? ⟨gb164, 4, none⟩ = some (.int .u64 a0_4) := (blk_cell BK164.out 4).trans rfl; have hcz7_5 : w6.cell? ⟨gb164, 5, none⟩ = some (.int .i64 a0_5) := (blk_cell BK164.out 5).trans rfl; have hfz7_0 := blk_frozen BK164.out 0; have hfz7_1 := blk_frozen BK164.out 1; have hfz7_2 := blk_frozen BK164.out 2; have hfz7_3 := blk_frozen BK164.out 3; have hfz7_4 := blk_frozen BK164.out 4; have hfz7_5 := blk_frozen BK164.out 5) | (go_at_call 10; (with_reducible refine (cellarerlaw07_cut.calls k _ _ l0_0 a0_1 a0_2 a0_3 a0_4 a0_5 t165 t168 t169 t170 t171 t172 _ ?side1 ?side2 A3.out).mono ?_); (case side1 => repeat (first | exact (Kd.C_below HR0_0.out HB.out) | (with_reducible refine Kd.C_alloc ?_ _) | (with_reducible refine Kd.C_drewN ?_ _) | (with_reducible refine Kd.C_drew ?_))); (case side2 => exact HC0_0.out); rintro e w8 ⟨v166, rfl, ho0, hb⟩; have n0_ := Aside0.mk (Kd.S_lower ho0 (below_size (by repeat (first | (with_reducible first | exact HB.out | apply below_alloc | apply pw_below_drewN | apply below_drew1 | refine below_set ?_ GE164.out) | exact HB.out)))); have n1_ := Aside0.mk (blk_below (g := gb164) (o := .cells #[.slice A0_0 l0_0.length c0_0, .string a0_1, .string a0_2, .string a0_3, .int .u64 a0_4, .int .i64 a0_5] 25 (0, 0)) (by (with_reducible repeat (first | refine blk_drewN ?_ _ | refine blk_drew ?_ | refine blk_alloc ?_ _)); exact BK164.out) hb); have n2_ := Aside0.mk (below_step (by repeat (first | (with_reducible first | exact HB.out | apply below_alloc | apply pw_below_drewN | apply below_drew1 | refine below_set ?_ GE164.out) | exact HB.out)) hb); clear BK164; clear HB; have HO167 := n0_; have BK164 := n1_; have HB := n2_; clear n0_ n1_ n2_; (try clear hb); (try clear hb2); (try clear hk); (try clear hi); (try clear ho0); obtain ⟨Ao9, co9, eo9⟩ := Kd.S_slice HO167.out; subst eo9; have hcz10_0 : w8.cell? ⟨gb164, 0, none⟩ = some (.slice A0_0 l0_0.length c0_0) := (blk_cell BK164.out 0).trans rfl; have hcz10_1 : w8.cell? ⟨gb164, 1, none⟩ = some (.string a0_1) := (blk_cell BK164.out 1).trans rfl; have hcz10_2 : w8.cell? ⟨gb164, 2, none⟩ = some (.string a0_2) := (blk_cell BK164.out 2).trans rfl; have hcz10_3 : w8.cell? ⟨gb164, 3, none⟩ = some (.string a0_3) := (blk_cell BK164.out 3).trans rfl; have hcz10_4 : w8.cell? ⟨gb164, 4, none⟩ = some (.int .u64 a0_4) := (blk_cell BK164.out 4).trans rfl; have hcz10_5 : w8.cell? ⟨gb164, 5, none⟩ = some (.int .i64 a0_5) := (blk_cell BK164.out 5).trans rfl; have hfz10_0 := blk_frozen BK164.out 0; have hfz10_1 := blk_frozen BK164.out 1; have hfz10_2 := blk_frozen BK164.out 2; have hfz10_3 := blk_frozen BK164.out 3; have hfz10_4 := blk_frozen BK164.out 4; have hfz10_5 := blk_frozen BK164.out 5) | (go_at_call 12; (with_reducible refine (pager_Things.calls k _ _ t165 t168 t169 t173 t174 _ ?side1 ?side2 A4.out).mono ?_); (case side1 => refine (Kd.S_reads' (e := 50) (base := w.heap.size) (ok := fun k_ => True) (n := t165.length) (c := co9) ?_).2.2; exact (by (with_reducible repeat (first | apply Kd.S_alloc | apply Kd.S_drewN | apply Kd.S_drew)); exact (Kd.S_mono (Kd.S_far (p := ⟨gb164, 5, none⟩) (Kd.S_far (p := ⟨gb164, 4, none⟩) (Kd.S_far (p := ⟨gb164, 3, none⟩) (Kd.S_far (p := ⟨gb164, 2, none⟩) (Kd.S_far (p := ⟨gb164, 1, none⟩) (Kd.S_far (p := ⟨gb164, 0, none⟩) (Kd.S_types HO167.out BK164.out (by decide)) (fun _ hk => hk.2) (.slice Ao9 t165.length co9)) (fun _ hk => hk.2) (.string t168)) (fun _ hk => hk.2) (.string t169)) (fun _ hk => hk.2) (.string t170)) (fun _ hk => hk.2) (.int .u64 t171)) (fun _ hk => hk.2) (.int .i64 t172)) (fun _ h_ => h_.1)))); (case side2 => exact (Kd.S_reads' HO167.out).2.1); rintro e w11 ⟨v175, rfl, ho0, hb⟩; have n0_ := Aside0.mk (Kd.S_below (by (with_reducible repeat (first | apply Kd.S_alloc | apply Kd.S_drewN | apply Kd.S_drew)); exact (Kd.S_mono (Kd.S_far (p := ⟨gb164, 5, none⟩) (Kd.S_far (p := ⟨gb164, 4, none⟩) (Kd.S_far (p := ⟨gb164, 3, none⟩) (Kd.S_far (p := ⟨gb164, 2, none⟩) (Kd.S_far (p := ⟨gb164, 1, none⟩) (Kd.S_far (p := ⟨gb164, 0, none⟩) (Kd.S_types HO167.out BK164.out (by decide)) (fun _ hk => hk.2) (.slice Ao9 t165.length co9)) (fun _ hk => hk.2) (.string t168)) (fun _ hk => hk.2) (.string t169)) (fun _ hk => hk.2) (.string t170)) (fun _ hk => hk.2) (.int .u64 t171)) (fun _ hk => hk.2) (.int .i64 t172)) (fun _ h_ => h_.1))) hb); have n1_ := Aside0.mk (Kd.R_lower ho0 (below_size (by repeat (first | (with_reducible first | exact HB.out | apply below_alloc | apply pw_below_drewN | apply below_drew1 | refine below_set ?_ GE164.out) | exact HB.out)))); have n2_ := Aside0.mk (blk_below (g := gb164) (o := .cells #[.slice Ao9 t165.length co9, .string t168, .string t169, .string t170, .int .u64 t171, .int .i64 t172] 25 (0, 0)) (by (with_reducible repeat (first | refine blk_drewN ?_ _ | refine blk_drew ?_ | refine blk_alloc ?_ _)); refine blk_put (cs := #[.slice Ao9 t165.length co9, .string t168, .string t169, .string t170, .int .u64 t171, .int .i64 a0_5]) ?_ 5 _ rfl; (with_reducible repeat (first | refine blk_drewN ?_ _ | refine blk_drew ?_ | refine blk_alloc ?_ _)); refine blk_put (cs := #[.slice Ao9 t165.length co9, .string t168, .string t169, .string t170, .int .u64 a0_4, .int .i64 a0_5]) ?_ 4 _ rfl; (with_reducible repeat (first | refine blk_drewN ?_ _ | refine blk_drew ?_ | refine blk_alloc ?_ _)); refine blk_put (cs := #[.slice Ao9 t165.length co9, .string t168, .string t169, .string a0_3, .int .u64 a0_4, .int .i64 a0_5]) ?_ 3 _ rfl; (with_reducible repeat (first | refine blk_drewN ?_ _ | refine blk_drew ?_ | refine blk_alloc ?_ _)); refine blk_put (cs := #[.slice Ao9 t165.length co9, .string t168, .string a0_2, .string a0_3, .int .u64 a0_4, .int .i64 a0_5]) ?_ 2 _ rfl; (with_reducible repeat (first | refine blk_drewN ?_ _ | refine blk_drew ?_ | refine blk_alloc ?_ _)); refine blk_put (cs := #[.slice Ao9 t165.length co9, .string a0_1, .string a0_2, .string a0_3, .int .u64 a0_4, .int .i64 a0_5]) ?_ 1 _ rfl; (with_reducible repeat (first | refine blk_drewN ?_ _ | refine blk_drew ?_ | refine blk_alloc ?_ _)); refine blk_put (cs := #[.slice A0_0 l0_0.length c0_0, .string a0_1, .string a0_2, .string a0_3, .int .u64 a0_4, .int .i64 a0_5]) ?_ 0 _ rfl; (with_reducible repeat (first | refine blk_drewN ?_ _ | refine blk_drew ?_ | refine blk_alloc ?_ _)); exact BK164.out) hb); have n3_ := Aside0.mk (below_step (by repeat (first | (with_reducible first | exact HB.out | apply below_alloc | apply pw_below_drewN | apply below_drew1 | refine below_set ?_ GE164.out) | exact HB.out)) hb); clear HO167; clear BK164; clear HB; have HO167 := n0_; have HO176 := n1_; have BK164 := n2_; have HB := n3_; clear n0_ n1_ n2_ n3_; (try clear hb); (try clear hb2); (try clear hk); (try clear hi); (try clear ho0)))
  repeat (go_quiet (first | ((with_reducible refine gate_dst (N := 2) rfl ?_); (try (refine gate_guard (by rfl) ?_; dsimp only)); refine box_event ?hg (N := 2) ?hd (cs := #[.slice A0_0 l0_0.length c0_0, .string a0_1, .string a0_2, .string a0_3, .int .u64 a0_4, .int .i64 a0_5]) (t := 25) ?hr ?_; (case hd => rfl); (case hg => rfl); (case hr => first | (go_simp; done) | (go_simp; rfl)); intro gb164 hg w6 hbox hb; have n0_ := Aside0.mk (below_step (by repeat (first | (with_reducible first | exact HB.out | apply below_alloc | apply pw_below_drewN | apply below_drew1) | exact HB.out)) hb); have n1_ := Aside0.mk (hbox); have n2_ := Aside0.mk ((by rw [hg]; exact (below_size (by repeat (first | (with_reducible first | exact HB.out | apply below_alloc | apply pw_below_drewN | apply below_drew1) | exact HB.out))) : w.heap.size ≤ gb164)); have n3_ := Aside0.mk ((by rw [hg]; exact (below_size (by repeat (first | (with_reducible first | exact HB.out | apply below_alloc | apply pw_below_drewN | apply below_drew1) | exact HB.out))) : w.heap.size ≤ gb164)); clear HB; have HB := n0_; have BK164 := n1_; have GW164 := n2_; have GE164 := n3_; clear n0_ n1_ n2_ n3_; clear hb hbox hg; have hcz7_0 : w6.cell? ⟨gb164, 0, none⟩ = some (.slice A0_0 l0_0.length c0_0) := (blk_cell BK164.out 0).trans rfl; have hcz7_1 : w6.cell? ⟨gb164, 1, none⟩ = some (.string a0_1) := (blk_cell BK164.out 1).trans rfl; have hcz7_2 : w6.cell? ⟨gb164, 2, none⟩ = some (.string a0_2) := (blk_cell BK164.out 2).trans rfl; have hcz7_3 : w6.cell? ⟨gb164, 3, none⟩ = some (.string a0_3) := (blk_cell BK164.out 3).trans rfl; have hcz7_4 : w6.cell? ⟨gb164, 4, none⟩ = some (.int .u64 a0_4) := (blk_cell BK164.out 4).trans rfl; have hcz7_5 : w6.cell? ⟨gb164, 5, none⟩ = some (.int .i64 a0_5) := (blk_cell BK164.out 5).trans rfl; have hfz7_0 := blk_frozen BK164.out 0; have hfz7_1 := blk_frozen BK164.out 1; have hfz7_2 := blk_frozen BK164.out 2; have hfz7_3 := blk_frozen BK164.out 3; have hfz7_4 := blk_frozen BK164.out 4; have hfz7_5 := blk_frozen BK164.out 5) | (go_at_call 10; (with_reducible refine (cellarerlaw07_cut.calls k _ _ l0_0 a0_1 a0_2 a0_3 a0_4 a0_5 t165 t168 t169 t170 t171 t172 _ ?side1 ?side2 A3.out).mono ?_); (case side1 => repeat (first | exact (Kd.C_below HR0_0.out HB.out) | (with_reducible refine Kd.C_alloc ?_ _) | (with_reducible refine Kd.C_drewN ?_ _) | (with_reducible refine Kd.C_drew ?_))); (case side2 => exact HC0_0.out); rintro e w8 ⟨v166, rfl, ho0, hb⟩; have n0_ := Aside0.mk (Kd.S_lower ho0 (below_size (by repeat (first | (with_reducible first | exact HB.out | apply below_alloc | apply pw_below_drewN | apply below_drew1 | refine below_set ?_ GE164.out) | exact HB.out)))); have n1_ := Aside0.mk (blk_below (g := gb164) (o := .cells #[.slice A0_0 l0_0.length c0_0, .string a0_1, .string a0_2, .string a0_3, .int .u64 a0_4, .int .i64 a0_5] 25 (0, 0)) (by (with_reducible repeat (first | refine blk_drewN ?_ _ | refine blk_drew ?_ | refine blk_alloc ?_ _)); exact BK164.out) hb); have n2_ := Aside0.mk (below_step (by repeat (first | (with_reducible first | exact HB.out | apply below_alloc | apply pw_below_drewN | apply below_drew1 | refine below_set ?_ GE164.out) | exact HB.out)) hb); clear BK164; clear HB; have HO167 := n0_; have BK164 := n1_; have HB := n2_; clear n0_ n1_ n2_; (try clear hb); (try clear hb2); (try clear hk); (try clear hi); (try clear ho0); obtain ⟨Ao9, co9, eo9⟩ := Kd.S_slice HO167.out; subst eo9; have hcz10_0 : w8.cell? ⟨gb164, 0, none⟩ = some (.slice A0_0 l0_0.length c0_0) := (blk_cell BK164.out 0).trans rfl; have hcz10_1 : w8.cell? ⟨gb164, 1, none⟩ = some (.string a0_1) := (blk_cell BK164.out 1).trans rfl; have hcz10_2 : w8.cell? ⟨gb164, 2, none⟩ = some (.string a0_2) := (blk_cell BK164.out 2).trans rfl; have hcz10_3 : w8.cell? ⟨gb164, 3, none⟩ = some (.string a0_3) := (blk_cell BK164.out 3).trans rfl; have hcz10_4 : w8.cell? ⟨gb164, 4, none⟩ = some (.int .u64 a0_4) := (blk_cell BK164.out 4).trans rfl; have hcz10_5 : w8.cell? ⟨gb164, 5, none⟩ = some (.int .i64 a0_5) := (blk_cell BK164.out 5).trans rfl; have hfz10_0 := blk_frozen BK164.out 0; have hfz10_1 := blk_frozen BK164.out 1; have hfz10_2 := blk_frozen BK164.out 2; have hfz10_3 := blk_frozen BK164.out 3; have hfz10_4 := blk_frozen BK164.out 4; have hfz10_5 := blk_frozen BK164.out 5) | (go_at_call 12; (with_reducible refine (pager_Things.calls k _ _ t165 t168 t169 t173 t174 _ ?side1 ?side2 A4.out).mono ?_); (case side1 => refine (Kd.S_reads' (e := 50) (base := w.heap.size) (ok := fun k_ => True) (n := t165.length) (c := co9) ?_).2.2; exact (by (with_reducible repeat (first | apply Kd.S_alloc | apply Kd.S_drewN | apply Kd.S_drew)); exact (Kd.S_mono (Kd.S_far (p := ⟨gb164, 5, none⟩) (Kd.S_far (p := ⟨gb164, 4, none⟩) (Kd.S_far (p := ⟨gb164, 3, none⟩) (Kd.S_far (p := ⟨gb164, 2, none⟩) (Kd.S_far (p := ⟨gb164, 1, none⟩) (Kd.S_far (p := ⟨gb164, 0, none⟩) (Kd.S_types HO167.out BK164.out (by decide)) (fun _ hk => hk.2) (.slice Ao9 t165.length co9)) (fun _ hk => hk.2) (.string t168)) (fun _ hk => hk.2) (.string t169)) (fun _ hk => hk.2) (.string t170)) (fun _ hk => hk.2) (.int .u64 t171)) (fun _ hk => hk.2) (.int .i64 t172)) (fun _ h_ => h_.1)))); (case side2 => exact (Kd.S_reads' HO167.out).2.1); rintro e w11 ⟨v175, rfl, ho0, hb⟩; have n0_ := Aside0.mk (Kd.S_below (by (with_reducible repeat (first | apply Kd.S_alloc | apply Kd.S_drewN | apply Kd.S_drew)); exact (Kd.S_mono (Kd.S_far (p := ⟨gb164, 5, none⟩) (Kd.S_far (p := ⟨gb164, 4, none⟩) (Kd.S_far (p := ⟨gb164, 3, none⟩) (Kd.S_far (p := ⟨gb164, 2, none⟩) (Kd.S_far (p := ⟨gb164, 1, none⟩) (Kd.S_far (p := ⟨gb164, 0, none⟩) (Kd.S_types HO167.out BK164.out (by decide)) (fun _ hk => hk.2) (.slice Ao9 t165.length co9)) (fun _ hk => hk.2) (.string t168)) (fun _ hk => hk.2) (.string t169)) (fun _ hk => hk.2) (.string t170)) (fun _ hk => hk.2) (.int .u64 t171)) (fun _ hk => hk.2) (.int .i64 t172)) (fun _ h_ => h_.1))) hb); have n1_ := Aside0.mk (Kd.R_lower ho0 (below_size (by repeat (first | (with_reducible first | exact HB.out | apply below_alloc | apply pw_below_drewN | apply below_drew1 | refine below_set ?_ GE164.out) | exact HB.out)))); have n2_ := Aside0.mk (blk_below (g := gb164) (o := .cells #[.slice Ao9 t165.length co9, .string t168, .string t169, .string t170, .int .u64 t171, .int .i64 t172] 25 (0, 0)) (by (with_reducible repeat (first | refine blk_drewN ?_ _ | refine blk_drew ?_ | refine blk_alloc ?_ _)); refine blk_put (cs := #[.slice Ao9 t165.length co9, .string t168, .string t169, .string t170, .int .u64 t171, .int .i64 a0_5]) ?_ 5 _ rfl; (with_reducible repeat (first | refine blk_drewN ?_ _ | refine blk_drew ?_ | refine blk_alloc ?_ _)); refine blk_put (cs := #[.slice Ao9 t165.length co9, .string t168, .string t169, .string t170, .int .u64 a0_4, .int .i64 a0_5]) ?_ 4 _ rfl; (with_reducible repeat (first | refine blk_drewN ?_ _ | refine blk_drew ?_ | refine blk_alloc ?_ _)); refine blk_put (cs := #[.slice Ao9 t165.length co9, .string t168, .string t169, .string a0_3, .int .u64 a0_4, .int .i64 a0_5]) ?_ 3 _ rfl; (with_reducible repeat (first | refine blk_drewN ?_ _ | refine blk_drew ?_ | refine blk_alloc ?_ _)); refine blk_put (cs := #[.slice Ao9 t165.length co9, .string t168, .string a0_2, .string a0_3, .int .u64 a0_4, .int .i64 a0_5]) ?_ 2 _ rfl; (with_reducible repeat (first | refine blk_drewN ?_ _ | refine blk_drew ?_ | refine blk_alloc ?_ _)); refine blk_put (cs := #[.slice Ao9 t165.length co9, .string a0_1, .string a0_2, .string a0_3, .int .u64 a0_4, .int .i64 a0_5]) ?_ 1 _ rfl; (with_reducible repeat (first | refine blk_drewN ?_ _ | refine blk_drew ?_ | refine blk_alloc ?_ _)); refine blk_put (cs := #[.slice A0_0 l0_0.length c0_0, .string a0_1, .string a0_2, .string a0_3, .int .u64 a0_4, .int .i64 a0_5]) ?_ 0 _ rfl; (with_reducible repeat (first | refine blk_drewN ?_ _ | refine blk_drew ?_ | refine blk_alloc ?_ _)); exact BK164.out) hb); have n3_ := Aside0.mk (below_step (by repeat (first | (with_reducible first | exact HB.out | apply below_alloc | apply pw_below_drewN | apply below_drew1 | refine below_set ?_ GE164.out) | exact HB.out)) hb); clear HO167; clear BK164; clear HB; have HO167 := n0_; have HO176 := n1_; have BK164 := n2_; have HB := n3_; clear n0_ n1_ n2_ n3_; (try clear hb); (try clear hb2); (try clear hk); (try clear hi); (try clear ho0))); try go_wp2_with (first | ((with_reducible refine gate_dst (N := 2) rfl ?_); (try (refine gate_guard (by rfl) ?_; dsimp only)); refine box_event ?hg (N := 2) ?hd (cs := #[.slice A0_0 l0_0.length c0_0, .string a0_1, .string a0_2, .string a0_3, .int .u64 a0_4, .int .i64 a0_5]) (t := 25) ?hr ?_; (case hd => rfl); (case hg => rfl); (case hr => first | (go_simp; done) | (go_simp; rfl)); intro gb164 hg w6 hbox hb; have n0_ := Aside0.mk (below_step (by repeat (first | (with_reducible first | exact HB.out | apply below_alloc | apply pw_below_drewN | apply below_drew1) | exact HB.out)) hb); have n1_ := Aside0.mk (hbox); have n2_ := Aside0.mk ((by rw [hg]; exact (below_size (by repeat (first | (with_reducible first | exact HB.out | apply below_alloc | apply pw_below_drewN | apply below_drew1) | exact HB.out))) : w.heap.size ≤ gb164)); have n3_ := Aside0.mk ((by rw [hg]; exact (below_size (by repeat (first | (with_reducible first | exact HB.out | apply below_alloc | apply pw_below_drewN | apply below_drew1) | exact HB.out))) : w.heap.size ≤ gb164)); clear HB; have HB := n0_; have BK164 := n1_; have GW164 := n2_; have GE164 := n3_; clear n0_ n1_ n2_ n3_; clear hb hbox hg; have hcz7_0 : w6.cell? ⟨gb164, 0, none⟩ = some (.slice A0_0 l0_0.length c0_0) := (blk_cell BK164.out 0).trans rfl; have hcz7_1 : w6.cell? ⟨gb164, 1, none⟩ = some (.string a0_1) := (blk_cell BK164.out 1).trans rfl; have hcz7_2 : w6.cell? ⟨gb164, 2, none⟩ = some (.string a0_2) := (blk_cell BK164.out 2).trans rfl; have hcz7_3 : w6.cell? ⟨gb164, 3, none⟩ = some (.string a0_3) := (blk_cell BK164.out 3).trans rfl; have hcz7_4 : w6.cell? ⟨gb164, 4, none⟩ = some (.int .u64 a0_4) := (blk_cell BK164.out 4).trans rfl; have hcz7_5 : w6.cell? ⟨gb164, 5, none⟩ = some (.int .i64 a0_5) := (blk_cell BK164.out 5).trans rfl; have hfz7_0 := blk_frozen BK164.out 0; have hfz7_1 := blk_frozen BK164.out 1; have hfz7_2 := blk_frozen BK164.out 2; have hfz7_3 := blk_frozen BK164.out 3; have hfz7_4 := blk_frozen BK164.out 4; have hfz7_5 := blk_frozen BK164.out 5) | (go_at_call 10; (with_reducible refine (cellarerlaw07_cut.calls k _ _ l0_0 a0_1 a0_2 a0_3 a0_4 a0_5 t165 t168 t169 t170 t171 t172 _ ?side1 ?side2 A3.out).mono ?_); (case side1 => repeat (first | exact (Kd.C_below HR0_0.out HB.out) | (with_reducible refine Kd.C_alloc ?_ _) | (with_reducible refine Kd.C_drewN ?_ _) | (with_reducible refine Kd.C_drew ?_))); (case side2 => exact HC0_0.out); rintro e w8 ⟨v166, rfl, ho0, hb⟩; have n0_ := Aside0.mk (Kd.S_lower ho0 (below_size (by repeat (first | (with_reducible first | exact HB.out | apply below_alloc | apply pw_below_drewN | apply below_drew1 | refine below_set ?_ GE164.out) | exact HB.out)))); have n1_ := Aside0.mk (blk_below (g := gb164) (o := .cells #[.slice A0_0 l0_0.length c0_0, .string a0_1, .string a0_2, .string a0_3, .int .u64 a0_4, .int .i64 a0_5] 25 (0, 0)) (by (with_reducible repeat (first | refine blk_drewN ?_ _ | refine blk_drew ?_ | refine blk_alloc ?_ _)); exact BK164.out) hb); have n2_ := Aside0.mk (below_step (by repeat (first | (with_reducible first | exact HB.out | apply below_alloc | apply pw_below_drewN | apply below_drew1 | refine below_set ?_ GE164.out) | exact HB.out)) hb); clear BK164; clear HB; have HO167 := n0_; have BK164 := n1_; have HB := n2_; clear n0_ n1_ n2_; (try clear hb); (try clear hb2); (try clear hk); (try clear hi); (try clear ho0); obtain ⟨Ao9, co9, eo9⟩ := Kd.S_slice HO167.out; subst eo9; have hcz10_0 : w8.cell? ⟨gb164, 0, none⟩ = some (.slice A0_0 l0_0.length c0_0) := (blk_cell BK164.out 0).trans rfl; have hcz10_1 : w8.cell? ⟨gb164, 1, none⟩ = some (.string a0_1) := (blk_cell BK164.out 1).trans rfl; have hcz10_2 : w8.cell? ⟨gb164, 2, none⟩ = some (.string a0_2) := (blk_cell BK164.out 2).trans rfl; have hcz10_3 : w8.cell? ⟨gb164, 3, none⟩ = some (.string a0_3) := (blk_cell BK164.out 3).trans rfl; have hcz10_4 : w8.cell? ⟨gb164, 4, none⟩ = some (.int .u64 a0_4) := (blk_cell BK164.out 4).trans rfl; have hcz10_5 : w8.cell? ⟨gb164, 5, none⟩ = some (.int .i64 a0_5) := (blk_cell BK164.out 5).trans rfl; have hfz10_0 := blk_frozen BK164.out 0; have hfz10_1 := blk_frozen BK164.out 1; have hfz10_2 := blk_frozen BK164.out 2; have hfz10_3 := blk_frozen BK164.out 3; have hfz10_4 := blk_frozen BK164.out 4; have hfz10_5 := blk_frozen BK164.out 5) | (go_at_call 12; (with_reducible refine (pager_Things.calls k _ _ t165 t168 t169 t173 t174 _ ?side1 ?side2 A4.out).mono ?_); (case side1 => refine (Kd.S_reads' (e := 50) (base := w.heap.size) (ok := fun k_ => True) (n := t165.length) (c := co9) ?_).2.2; exact (by (with_reducible repeat (first | apply Kd.S_alloc | apply Kd.S_drewN | apply Kd.S_drew)); exact (Kd.S_mono (Kd.S_far (p := ⟨gb164, 5, none⟩) (Kd.S_far (p := ⟨gb164, 4, none⟩) (Kd.S_far (p := ⟨gb164, 3, none⟩) (Kd.S_far (p := ⟨gb164, 2, none⟩) (Kd.S_far (p := ⟨gb164, 1, none⟩) (Kd.S_far (p := ⟨gb164, 0, none⟩) (Kd.S_types HO167.out BK164.out (by decide)) (fun _ hk => hk.2) (.slice Ao9 t165.length co9)) (fun _ hk => hk.2) (.string t168)) (fun _ hk => hk.2) (.string t169)) (fun _ hk => hk.2) (.string t170)) (fun _ hk => hk.2) (.int .u64 t171)) (fun _ hk => hk.2) (.int .i64 t172)) (fun _ h_ => h_.1)))); (case side2 => exact (Kd.S_reads' HO167.out).2.1); rintro e w11 ⟨v175, rfl, ho0, hb⟩; have n0_ := Aside0.mk (Kd.S_below (by (with_reducible repeat (first | apply Kd.S_alloc | apply Kd.S_drewN | apply Kd.S_drew)); exact (Kd.S_mono (Kd.S_far (p := ⟨gb164, 5, none⟩) (Kd.S_far (p := ⟨gb164, 4, none⟩) (Kd.S_far (p := ⟨gb164, 3, none⟩) (Kd.S_far (p := ⟨gb164, 2, none⟩) (Kd.S_far (p := ⟨gb164, 1, none⟩) (Kd.S_far (p := ⟨gb164, 0, none⟩) (Kd.S_types HO167.out BK164.out (by decide)) (fun _ hk => hk.2) (.slice Ao9 t165.length co9)) (fun _ hk => hk.2) (.string t168)) (fun _ hk => hk.2) (.string t169)) (fun _ hk => hk.2) (.string t170)) (fun _ hk => hk.2) (.int .u64 t171)) (fun _ hk => hk.2) (.int .i64 t172)) (fun _ h_ => h_.1))) hb); have n1_ := Aside0.mk (Kd.R_lower ho0 (below_size (by repeat (first | (with_reducible first | exact HB.out | apply below_alloc | apply pw_below_drewN | apply below_drew1 | refine below_set ?_ GE164.out) | exact HB.out)))); have n2_ := Aside0.mk (blk_below (g := gb164) (o := .cells #[.slice Ao9 t165.length co9, .string t168, .string t169, .string t170, .int .u64 t171, .int .i64 t172] 25 (0, 0)) (by (with_reducible repeat (first | refine blk_drewN ?_ _ | refine blk_drew ?_ | refine blk_alloc ?_ _)); refine blk_put (cs := #[.slice Ao9 t165.length co9, .string t168, .string t169, .string t170, .int .u64 t171, .int .i64 a0_5]) ?_ 5 _ rfl; (with_reducible repeat (first | refine blk_drewN ?_ _ | refine blk_drew ?_ | refine blk_alloc ?_ _)); refine blk_put (cs := #[.slice Ao9 t165.length co9, .string t168, .string t169, .string t170, .int .u64 a0_4, .int .i64 a0_5]) ?_ 4 _ rfl; (with_reducible repeat (first | refine blk_drewN ?_ _ | refine blk_drew ?_ | refine blk_alloc ?_ _)); refine blk_put (cs := #[.slice Ao9 t165.length co9, .string t168, .string t169, .string a0_3, .int .u64 a0_4, .int .i64 a0_5]) ?_ 3 _ rfl; (with_reducible repeat (first | refine blk_drewN ?_ _ | refine blk_drew ?_ | refine blk_alloc ?_ _)); refine blk_put (cs := #[.slice Ao9 t165.length co9, .string t168, .string a0_2, .string a0_3, .int .u64 a0_4, .int .i64 a0_5]) ?_ 2 _ rfl; (with_reducible repeat (first | refine blk_drewN ?_ _ | refine blk_drew ?_ | refine blk_alloc ?_ _)); refine blk_put (cs := #[.slice Ao9 t165.length co9, .string a0_1, .string a0_2, .string a0_3, .int .u64 a0_4, .int .i64 a0_5]) ?_ 1 _ rfl; (with_reducible repeat (first | refine blk_drewN ?_ _ | refine blk_drew ?_ | refine blk_alloc ?_ _)); refine blk_put (cs := #[.slice A0_0 l0_0.length c0_0, .string a0_1, .string a0_2, .string a0_3, .int .u64 a0_4, .int .i64 a0_5]) ?_ 0 _ rfl; (with_reducible repeat (first | refine blk_drewN ?_ _ | refine blk_drew ?_ | refine blk_alloc ?_ _)); exact BK164.out) hb); have n3_ := Aside0.mk (below_step (by repeat (first | (with_reducible first | exact HB.out | apply below_alloc | apply pw_below_drewN | apply below_drew1 | refine below_set ?_ GE164.out) | exact HB.out)) hb); clear HO167; clear BK164; clear HB; have HO167 := n0_; have HO176 := n1_; have BK164 := n2_; have HB := n3_; clear n0_ n1_ n2_ n3_; (try clear hb); (try clear hb2); (try clear hk); (try clear hi); (try clear ho0))))
  go_loopg [7, 8, 9] k (fun kq v7 v8 v9 w' => ∃ (x7_1 : ByteArray) (x8_1 : Int) (x9_1 : Int), v7 = .string x7_1 ∧ v8 = .int .i64 x8_1 ∧ v9 = .int .i64 x9_1 ∧ Aside0 (cellarerlaw07_PagerWhole.l0 kq l1 t173 x7_1 x8_1 x9_1 t165 t168 t169 t170 t171 t172 = some r) ∧ Aside0 (kq ≤ k) ∧ Aside0 (Kd.R Kd.string 9 w' w.heap.size (fun _ => True) v175 t173) ∧ Aside0 (Kd.S k50 50 w' w.heap.size (fun _ => True) (.slice Ao9 t165.length co9) t165) ∧ Aside0 (w'.heap[gb164]? = some (.cells #[(.slice Ao9 t165.length co9), .string t168, .string t169, .string t170, .int .u64 t171, .int .i64 t172] 25 (0, 0))) ∧ Aside0 (Below w.heap.size w w'))
  case atStart => exact ⟨((⟨#[]⟩ : ByteArray)), (0), (0), (by first | rfl | (simp; done) | (simp [*]; done)), (by first | rfl | (simp; done) | (simp [*]; done)), (by first | rfl | (simp; done) | (simp [*]; done)), H', ⟨Nat.le_refl _⟩, ⟨by (with_reducible repeat (first | apply Kd.R_alloc | apply Kd.R_drewN | apply Kd.R_drew)); exact HO176.out⟩, ⟨by (with_reducible repeat (first | apply Kd.S_alloc | apply Kd.S_drewN | apply Kd.S_drew)); exact HO167.out⟩, ⟨by (with_reducible repeat (first | refine blk_drewN ?_ _ | refine blk_drew ?_ | refine blk_alloc ?_ _)); exact BK164.out⟩, ⟨by repeat (first | (with_reducible first | exact HB.out | apply below_alloc | apply pw_below_drewN | apply below_drew1 | refine below_set ?_ GE164.out) | exact HB.out)⟩⟩
  case round =>
   clear H'
   try clear c1
   try clear p2
   try clear c4
   try clear c5
   try clear c5b0
   try clear c5b1
   try clear hcz10_0
   try clear hcz10_1
   try clear hcz10_2
   try clear hcz10_3
   try clear hcz10_4
   try clear hcz10_5
   try clear hcz7_0
   try clear hcz7_1
   try clear hcz7_2
   try clear hcz7_3
   try clear hcz7_4
   try clear hcz7_5
   try clear hfz10_0
   try clear hfz10_1
   try clear hfz10_2
   try clear hfz10_3
   try clear hfz10_4
   try clear hfz10_5
   try clear hfz7_0
   try clear hfz7_1
   try clear hfz7_2
   try clear hfz7_3
   try clear hfz7_4
   try clear hfz7_5
   obtain ⟨x7_1, x8_1, x9_1, rfl, rfl, rfl, HA, HK1, HO_5, HO_165000, BK164, HB⟩ := hrel
   cases gk with
   | zero => exact absurd HA.out (by simp [cellarerlaw07_PagerWhole.l0])
   | succ k1 =>
    have H := HA.out
    clear HA
    simp only [cellarerlaw07_PagerWhole.l0] at H
    by_cases c12 : x9_1 ≤ (t173.length : Int)
    ·rw [if_pos c12] at H
     have c12b0 : decide (x9_1 ≤ (t173.length : Int)) = true := decide_eq_true c12
     clear c12
     have HC13 := Aside0.mk H
     clear H
     obtain ⟨Ao14, co14, eo14⟩ := Kd.R_slice HO_5.out
     subst eo14
     go_upto_if 42 with (fail)
     repeat (go_quiet (fail); go_upto_if 42 with (fail))
     go_cut [10] (fun v10 wc => ∃ (kq : Nat) (x10_12 : Int), v10 = .int .i64 x10_12 ∧ Aside0 (cellarerlaw07_PagerWhole.j1 kq l1 t173 x7_1 x8_1 x9_1 x10_12 t165 t168 t169 t170 t171 t172 = some r) ∧ Aside0 (kq ≤ k1) ∧ Aside0 (Kd.R Kd.string 9 wc w.heap.size (fun _ => True) (.slice Ao14 t173.length co14) t173) ∧ Aside0 (Kd.S k50 50 wc w.heap.size (fun _ => True) (.slice Ao9 t165.length co9) t165) ∧ Aside0 (wc.heap[gb164]? = some (.cells #[(.slice Ao9 t165.length co9), .string t168, .string t169, .string t170, .int .u64 t171, .int .i64 t172] 25 (0, 0))) ∧ Aside0 (Below w.heap.size w wc))
     case first =>
      have H := HC13.out
      clear HC13
      by_cases c15 : x9_1 < (l1.length : Int)
      ·rw [if_pos c15] at H
       have c15b0 : decide (x9_1 < (l1.length : Int)) = true := decide_eq_true c15
       clear c15
       (first | rw [c15b0] | (simp only [i64_w, i32_w]; rw [c15b0]) | skip)
       by_cases c16 : 0 ≤ x9_1
       ·rw [if_pos c16] at H
        have c16b0 : decide (0 ≤ x9_1) = true := decide_eq_true c16
        clear c16
        have H' := Aside0.mk H
        clear H
        have p178 : 0 ≤ (x9_1 : Int) := of_decide_eq_true (by first | (with_reducible assumption) | assumption)
        have q178 : x9_1 < (l1.length : Int) := of_decide_eq_true (by first | (with_reducible assumption) | assumption)
        obtain ⟨ad178, e178, hx178_0⟩ := Kd.at_int HR1.out x9_1 p178 q178
        cases e178
        replace hx178_0 := (HB.out.cell (World.block_lt_of_cell? w _ hx178_0)).trans hx178_0
        replace p178 := eq_true p178
        replace q178 := eq_true q178
        go_wp2
        repeat (go_quiet (fail); try go_wp2)
        go_meet
        case rel => exact ⟨_, (wrap64 (1 + (wrap64 (Int.tmod (rd l1 x9_1) 5)))), (by first | rfl | (simp; done) | (simp [*]; done)), H', ⟨by have := HK1.out; first | omega | exact Nat.le_refl _⟩, ⟨by (with_reducible repeat (first | apply Kd.R_alloc | apply Kd.R_drewN | apply Kd.R_drew)); exact HO_5.out⟩, ⟨by (with_reducible repeat (first | apply Kd.S_alloc | apply Kd.S_drewN | apply Kd.S_drew)); exact HO_165000.out⟩, ⟨by (with_reducible repeat (first | refine blk_drewN ?_ _ | refine blk_drew ?_ | refine blk_alloc ?_ _)); exact BK164.out⟩, ⟨by repeat (first | (with_reducible first | exact HB.out | apply below_alloc | apply pw_below_drewN | apply below_drew1 | refine below_set ?_ GE164.out) | exact HB.out)⟩⟩
       ·rw [if_neg c16] at H
        exact absurd H (by simp)
      ·rw [if_neg c15] at H
       have c15b0 : decide (x9_1 < (l1.length : Int)) = false := decide_eq_false c15
       clear c15
       (first | rw [c15b0] | (simp only [i64_w, i32_w]; rw [c15b0]) | skip)
       have H' := Aside0.mk H
       clear H
       go_wp2
       repeat (go_quiet (fail); try go_wp2)
       go_meet
       case rel => exact ⟨_, (1), (by first | rfl | (simp; done) | (simp [*]; done)), H', ⟨by have := HK1.out; first | omega | exact Nat.le_refl _⟩, ⟨by (with_reducible repeat (first | apply Kd.R_alloc | apply Kd.R_drewN | apply Kd.R_drew)); exact HO_5.out⟩, ⟨by (with_reducible repeat (first | apply Kd.S_alloc | apply Kd.S_drewN | apply Kd.S_drew)); exact HO_165000.out⟩, ⟨by (with_reducible repeat (first | refine blk_drewN ?_ _ | refine blk_drew ?_ | refine blk_alloc ?_ _)); exact BK164.out⟩, ⟨by repeat (first | (with_reducible first | exact HB.out | apply below_alloc | apply pw_below_drewN | apply below_drew1 | refine below_set ?_ GE164.out) | exact HB.out)⟩⟩
     case rest =>
      clear HC13
      try clear c1
      try clear p1
      try clear q1
      try clear hx1
      try clear p2
      try clear c4
      try clear c5
      try clear c5b0
      try clear c5b1
      try clear p6
      try clear c12
      try clear c12b0
      try clear c15
      try clear c15b0
      try clear c16
      try clear c16b0
      try clear hcz10_0
      try clear hcz10_1
      try clear hcz10_2
      try clear hcz10_3
      try clear hcz10_4
      try clear hcz10_5
      try clear hcz7_0
      try clear hcz7_1
      try clear hcz7_2
      try clear hcz7_3
      try clear hcz7_4
      try clear hcz7_5
      try clear hfz10_0
      try clear hfz10_1
      try clear hfz10_2
      try clear hfz10_3
      try clear hfz10_4
      try clear hfz10_5
      try clear hfz7_0
      try clear hfz7_1
      try clear hfz7_2
      try clear hfz7_3
      try clear hfz7_4
      try clear hfz7_5
      try clear hx178_0
      try clear p178
      try clear p2
      try clear q178
      obtain ⟨kq, x10_12, rfl, HA, HJ12, HO_5, HO_165000, BK164, HB⟩ := hcut
      cases kq with
      | zero => exact absurd HA.out (by simp [cellarerlaw07_PagerWhole.j1])
      | succ kj12 =>
       have H := HA.out
       clear HA
       simp only [cellarerlaw07_PagerWhole.j1] at H
       replace H := Option.bind_eq_some_iff.mp H
       obtain ⟨⟨t179, t182, t185, t186, t187⟩, A170, H⟩ := H
       replace H : (if t187 = 0 then (if (wrap64 (x8_1 + (wrap64 ((t179.length : Int) + (t182.length : Int))))) > (t173.length : Int) then (cellarerlaw07_PagerWhole.j2 kj12 l1 t173 x8_1 x9_1 (wrap64 ((t179.length : Int) + (t182.length : Int))) true t165 t168 t169 t170 t171 t172 t179 t182 t185 t186) else (if (t185 != (decide ((wrap64 (x8_1 + (wrap64 ((t179.length : Int) + (t182.length : Int))))) < (t173.length : Int)))) = true then (cellarerlaw07_PagerWhole.j2 kj12 l1 t173 x8_1 x9_1 (wrap64 ((t179.length : Int) + (t182.length : Int))) true t165 t168 t169 t170 t171 t172 t179 t182 t185 t186) else (if t185 = true then (cellarerlaw07_PagerWhole.j2 kj12 l1 t173 x8_1 x9_1 (wrap64 ((t179.length : Int) + (t182.length : Int))) ((wrap64 ((t179.length : Int) + (t182.length : Int))) != x10_12) t165 t168 t169 t170 t171 t172 t179 t182 t185 t186) else (cellarerlaw07_PagerWhole.j2 kj12 l1 t173 x8_1 x9_1 (wrap64 ((t179.length : Int) + (t182.length : Int))) false t165 t168 t169 t170 t171 t172 t179 t182 t185 t186)))) else (cellarerlaw07_PagerWhole.j2 kj12 l1 t173 x8_1 x9_1 (wrap64 ((t179.length : Int) + (t182.length : Int))) true t165 t168 t169 t170 t171 t172 t179 t182 t185 t186)) = some r := H
       have A17 := Aside0.mk A170
       clear A170
       have HC18 := Aside0.mk H
       clear H
       have hcz19_0 : wc.cell? ⟨gb164, 0, none⟩ = some (.slice Ao9 t165.length co9) := (blk_cell BK164.out 0).trans rfl
       have hcz19_1 : wc.cell? ⟨gb164, 1, none⟩ = some (.string t168) := (blk_cell BK164.out 1).trans rfl
       have hcz19_2 : wc.cell? ⟨gb164, 2, none⟩ = some (.string t169) := (blk_cell BK164.out 2).trans rfl
       have hcz19_3 : wc.cell? ⟨gb164, 3, none⟩ = some (.string t170) := (blk_cell BK164.out 3).trans rfl
       have hcz19_4 : wc.cell? ⟨gb164, 4, none⟩ = some (.int .u64 t171) := (blk_cell BK164.out 4).trans rfl
       have hcz19_5 : wc.cell? ⟨gb164, 5, none⟩ = some (.int .i64 t172) := (blk_cell BK164.out 5).trans rfl
       have hfz19_0 := blk_frozen BK164.out 0
       have hfz19_1 := blk_frozen BK164.out 1
       have hfz19_2 := blk_frozen BK164.out 2
       have hfz19_3 := blk_frozen BK164.out 3
       have hfz19_4 := blk_frozen BK164.out 4
       have hfz19_5 := blk_frozen BK164.out 5
       go_upto_region 15 with (first | (go_at_call 11; (with_reducible refine (pager_Keys.calls kj12 _ _ t165 t168 t169 x7_1 x10_12 t179 t182 t185 t186 t187 _ ?side1 ?side2 A17.out).mono ?_); (case side1 => repeat (first | exact (Kd.S_reads' HO_165000.out).2.2 | (with_reducible refine Kd.C_alloc ?_ _) | (with_reducible refine Kd.C_drewN ?_ _) | (with_reducible refine Kd.C_drew ?_))); (case side2 => exact (Kd.S_reads' HO_165000.out).2.1); rintro e w20 ⟨v180, v183, rfl, ho0, ho1, hb⟩; have n0_ := Aside0.mk (Kd.R_mono (Kd.R_told (Kd.R_told (Kd.R_old (by (with_reducible repeat (first | apply Kd.R_alloc | apply Kd.R_drewN | apply Kd.R_drew)); exact HO_5.out) hb) (Kd.R_base ho0)) (Kd.R_base ho1)) (fun _ h_ => h_.1)); have n1_ := Aside0.mk (Kd.S_below (by (with_reducible repeat (first | apply Kd.S_alloc | apply Kd.S_drewN | apply Kd.S_drew)); exact HO_165000.out) hb); have n2_ := Aside0.mk (Kd.R_lower (Kd.R_new' ho0 (Kd.R_lt (by (with_reducible repeat (first | apply Kd.R_alloc | apply Kd.R_drewN | apply Kd.R_drew)); exact HO_5.out))) (below_size (by repeat (first | (with_reducible first | exact HB.out | apply below_alloc | apply pw_below_drewN | apply below_drew1 | refine below_set ?_ GE164.out) | exact HB.out)))); have n3_ := Aside0.mk (Kd.R_lower (Kd.R_new' ho1 (Kd.R_lt (by (with_reducible repeat (first | apply Kd.R_alloc | apply Kd.R_drewN | apply Kd.R_drew)); exact HO_5.out))) (below_size (by repeat (first | (with_reducible first | exact HB.out | apply below_alloc | apply pw_below_drewN | apply below_drew1 | refine below_set ?_ GE164.out) | exact HB.out)))); have n4_ := Aside0.mk (blk_below (g := gb164) (o := .cells #[.slice Ao9 t165.length co9, .string t168, .string t169, .string t170, .int .u64 t171, .int .i64 t172] 25 (0, 0)) (by (with_reducible repeat (first | refine blk_drewN ?_ _ | refine blk_drew ?_ | refine blk_alloc ?_ _)); exact BK164.out) hb); have n5_ := Aside0.mk (below_step (by repeat (first | (with_reducible first | exact HB.out | apply below_alloc | apply pw_below_drewN | apply below_drew1 | refine below_set ?_ GE164.out) | exact HB.out)) hb); clear HO_5; clear HO_165000; clear BK164; clear HB; have HO_5 := n0_; have HO_165000 := n1_; have HO181 := n2_; have HO184 := n3_; have BK164 := n4_; have HB := n5_; clear n0_ n1_ n2_ n3_ n4_ n5_; (try clear hb); (try clear hb2); (try clear hk); (try clear hi); (try clear ho0); (try clear ho1)) | ((with_reducible refine gate_dst (N := 11) rfl ?_); (try (refine gate_guard (by rfl) ?_; dsimp only)); refine box_event ?hg (N := 11) ?hd (cs := #[.slice none 0 0, .slice none 0 0, .bool false, .string (⟨#[]⟩ : ByteArray)]) (t := 29) ?hr ?_; (case hd => rfl); (case hg => rfl); (case hr => first | (go_simp; done) | (go_simp; rfl)); intro gb188 hg w21 hbox hb; have n0_ := Aside0.mk (Kd.R_below (by (with_reducible repeat (first | apply Kd.R_alloc | apply Kd.R_drewN | apply Kd.R_drew)); exact HO_5.out) hb); have n1_ := Aside0.mk (Kd.S_below (by (with_reducible repeat (first | apply Kd.S_alloc | apply Kd.S_drewN | apply Kd.S_drew)); exact HO_165000.out) hb); have n2_ := Aside0.mk (Kd.R_below (by (with_reducible repeat (first | apply Kd.R_alloc | apply Kd.R_drewN | apply Kd.R_drew)); exact HO181.out) hb); have n3_ := Aside0.mk (Kd.R_below (by (with_reducible repeat (first | apply Kd.R_alloc | apply Kd.R_drewN | apply Kd.R_drew)); exact HO184.out) hb); have n4_ := Aside0.mk (blk_below (g := gb164) (o := .cells #[.slice Ao9 t165.length co9, .string t168, .string t169, .string t170, .int .u64 t171, .int .i64 t172] 25 (0, 0)) (by (with_reducible repeat (first | refine blk_drewN ?_ _ | refine blk_drew ?_ | refine blk_alloc ?_ _)); exact BK164.out) hb); have n5_ := Aside0.mk (below_step (by repeat (first | (with_reducible first | exact HB.out | apply below_alloc | apply pw_below_drewN | apply below_drew1 | refine below_set ?_ GE164.out) | exact HB.out)) hb); have n6_ := Aside0.mk (hbox); have n7_ := Aside0.mk ((by rw [hg]; exact (below_size (by repeat (first | (with_reducible first | exact HB.out | apply below_alloc | apply pw_below_drewN | apply below_drew1 | refine below_set ?_ GE164.out) | exact HB.out))) : w.heap.size ≤ gb188)); have n8_ := Aside0.mk ((by rw [hg]; exact (below_size (by repeat (first | (with_reducible first | exact HB.out | apply below_alloc | apply pw_below_drewN | apply below_drew1 | refine below_set ?_ GE164.out) | exact HB.out))) : w.heap.size ≤ gb188)); have n9_ := Aside0.mk ((by rw [hg]; exact Nat.ne_of_lt (blk_lt (g := gb164) (o := .cells #[.slice Ao9 t165.length co9, .string t168, .string t169, .string t170, .int .u64 t171, .int .i64 t172] 25 (0, 0)) (by (with_reducible repeat (first | refine blk_drewN ?_ _ | refine blk_drew ?_ | refine blk_alloc ?_ _)); exact BK164.out)) : gb164 ≠ gb188)); have n10_ := Aside0.mk ((by rw [hg]; exact Nat.ne_of_gt (blk_lt (g := gb164) (o := .cells #[.slice Ao9 t165.length co9, .string t168, .string t169, .string t170, .int .u64 t171, .int .i64 t172] 25 (0, 0)) (by (with_reducible repeat (first | refine blk_drewN ?_ _ | refine blk_drew ?_ | refine blk_alloc ?_ _)); exact BK164.out)) : gb188 ≠ gb164)); clear HO_5; clear HO_165000; clear HO181; clear HO184; clear BK164; clear HB; have HO_5 := n0_; have HO_165000 := n1_; have HO181 := n2_; have HO184 := n3_; have BK164 := n4_; have HB := n5_; have BK188 := n6_; have GW188 := n7_; have GE188 := n8_; have NB164_188 := n9_; have NB188_164 := n10_; clear n0_ n1_ n2_ n3_ n4_ n5_ n6_ n7_ n8_ n9_ n10_; clear hb hbox hg; obtain ⟨Ao22, co22, eo22⟩ := Kd.R_slice HO181.out; subst eo22; have hnb23 := NB188_164.out; have hnc23 := NB164_188.out; have hcz24_0 : w21.cell? ⟨gb188, 0, none⟩ = some (.slice none 0 0) := (blk_cell BK188.out 0).trans rfl; have hcz24_1 : w21.cell? ⟨gb188, 1, none⟩ = some (.slice none 0 0) := (blk_cell BK188.out 1).trans rfl; have hcz24_2 : w21.cell? ⟨gb188, 2, none⟩ = some (.bool false) := (blk_cell BK188.out 2).trans rfl; have hcz24_3 : w21.cell? ⟨gb188, 3, none⟩ = some (.string (⟨#[]⟩ : ByteArray)) := (blk_cell BK188.out 3).trans rfl; have hfz24_0 := blk_frozen BK188.out 0; have hfz24_1 := blk_frozen BK188.out 1; have hfz24_2 := blk_frozen BK188.out 2; have hfz24_3 := blk_frozen BK188.out 3; obtain ⟨Ao25, co25, eo25⟩ := Kd.R_slice HO184.out; subst eo25))
       repeat (go_quiet (first | (go_at_call 11; (with_reducible refine (pager_Keys.calls kj12 _ _ t165 t168 t169 x7_1 x10_12 t179 t182 t185 t186 t187 _ ?side1 ?side2 A17.out).mono ?_); (case side1 => repeat (first | exact (Kd.S_reads' HO_165000.out).2.2 | (with_reducible refine Kd.C_alloc ?_ _) | (with_reducible refine Kd.C_drewN ?_ _) | (with_reducible refine Kd.C_drew ?_))); (case side2 => exact (Kd.S_reads' HO_165000.out).2.1); rintro e w20 ⟨v180, v183, rfl, ho0, ho1, hb⟩; have n0_ := Aside0.mk (Kd.R_mono (Kd.R_told (Kd.R_told (Kd.R_old (by (with_reducible repeat (first | apply Kd.R_alloc | apply Kd.R_drewN | apply Kd.R_drew)); exact HO_5.out) hb) (Kd.R_base ho0)) (Kd.R_base ho1)) (fun _ h_ => h_.1)); have n1_ := Aside0.mk (Kd.S_below (by (with_reducible repeat (first | apply Kd.S_alloc | apply Kd.S_drewN | apply Kd.S_drew)); exact HO_165000.out) hb); have n2_ := Aside0.mk (Kd.R_lower (Kd.R_new' ho0 (Kd.R_lt (by (with_reducible repeat (first | apply Kd.R_alloc | apply Kd.R_drewN | apply Kd.R_drew)); exact HO_5.out))) (below_size (by repeat (first | (with_reducible first | exact HB.out | apply below_alloc | apply pw_below_drewN | apply below_drew1 | refine below_set ?_ GE164.out) | exact HB.out)))); have n3_ := Aside0.mk (Kd.R_lower (Kd.R_new' ho1 (Kd.R_lt (by (with_reducible repeat (first | apply Kd.R_alloc | apply Kd.R_drewN | apply Kd.R_drew)); exact HO_5.out))) (below_size (by repeat (first | (with_reducible first | exact HB.out | apply below_alloc | apply pw_below_drewN | apply below_drew1 | refine below_set ?_ GE164.out) | exact HB.out)))); have n4_ := Aside0.mk (blk_below (g := gb164) (o := .cells #[.slice Ao9 t165.length co9, .string t168, .string t169, .string t170, .int .u64 t171, .int .i64 t172] 25 (0, 0)) (by (with_reducible repeat (first | refine blk_drewN ?_ _ | refine blk_drew ?_ | refine blk_alloc ?_ _)); exact BK164.out) hb); have n5_ := Aside0.mk (below_step (by repeat (first | (with_reducible first | exact HB.out | apply below_alloc | apply pw_below_drewN | apply below_drew1 | refine below_set ?_ GE164.out) | exact HB.out)) hb); clear HO_5; clear HO_165000; clear BK164; clear HB; have HO_5 := n0_; have HO_165000 := n1_; have HO181 := n2_; have HO184 := n3_; have BK164 := n4_; have HB := n5_; clear n0_ n1_ n2_ n3_ n4_ n5_; (try clear hb); (try clear hb2); (try clear hk); (try clear hi); (try clear ho0); (try clear ho1)) | ((with_reducible refine gate_dst (N := 11) rfl ?_); (try (refine gate_guard (by rfl) ?_; dsimp only)); refine box_event ?hg (N := 11) ?hd (cs := #[.slice none 0 0, .slice none 0 0, .bool false, .string (⟨#[]⟩ : ByteArray)]) (t := 29) ?hr ?_; (case hd => rfl); (case hg => rfl); (case hr => first | (go_simp; done) | (go_simp; rfl)); intro gb188 hg w21 hbox hb; have n0_ := Aside0.mk (Kd.R_below (by (with_reducible repeat (first | apply Kd.R_alloc | apply Kd.R_drewN | apply Kd.R_drew)); exact HO_5.out) hb); have n1_ := Aside0.mk (Kd.S_below (by (with_reducible repeat (first | apply Kd.S_alloc | apply Kd.S_drewN | apply Kd.S_drew)); exact HO_165000.out) hb); have n2_ := Aside0.mk (Kd.R_below (by (with_reducible repeat (first | apply Kd.R_alloc | apply Kd.R_drewN | apply Kd.R_drew)); exact HO181.out) hb); have n3_ := Aside0.mk (Kd.R_below (by (with_reducible repeat (first | apply Kd.R_alloc | apply Kd.R_drewN | apply Kd.R_drew)); exact HO184.out) hb); have n4_ := Aside0.mk (blk_below (g := gb164) (o := .cells #[.slice Ao9 t165.length co9, .string t168, .string t169, .string t170, .int .u64 t171, .int .i64 t172] 25 (0, 0)) (by (with_reducible repeat (first | refine blk_drewN ?_ _ | refine blk_drew ?_ | refine blk_alloc ?_ _)); exact BK164.out) hb); have n5_ := Aside0.mk (below_step (by repeat (first | (with_reducible first | exact HB.out | apply below_alloc | apply pw_below_drewN | apply below_drew1 | refine below_set ?_ GE164.out) | exact HB.out)) hb); have n6_ := Aside0.mk (hbox); have n7_ := Aside0.mk ((by rw [hg]; exact (below_size (by repeat (first | (with_reducible first | exact HB.out | apply below_alloc | apply pw_below_drewN | apply below_drew1 | refine below_set ?_ GE164.out) | exact HB.out))) : w.heap.size ≤ gb188)); have n8_ := Aside0.mk ((by rw [hg]; exact (below_size (by repeat (first | (with_reducible first | exact HB.out | apply below_alloc | apply pw_below_drewN | apply below_drew1 | refine below_set ?_ GE164.out) | exact HB.out))) : w.heap.size ≤ gb188)); have n9_ := Aside0.mk ((by rw [hg]; exact Nat.ne_of_lt (blk_lt (g := gb164) (o := .cells #[.slice Ao9 t165.length co9, .string t168, .string t169, .string t170, .int .u64 t171, .int .i64 t172] 25 (0, 0)) (by (with_reducible repeat (first | refine blk_drewN ?_ _ | refine blk_drew ?_ | refine blk_alloc ?_ _)); exact BK164.out)) : gb164 ≠ gb188)); have n10_ := Aside0.mk ((by rw [hg]; exact Nat.ne_of_gt (blk_lt (g := gb164) (o := .cells #[.slice Ao9 t165.length co9, .string t168, .string t169, .string t170, .int .u64 t171, .int .i64 t172] 25 (0, 0)) (by (with_reducible repeat (first | refine blk_drewN ?_ _ | refine blk_drew ?_ | refine blk_alloc ?_ _)); exact BK164.out)) : gb188 ≠ gb164)); clear HO_5; clear HO_165000; clear HO181; clear HO184; clear BK164; clear HB; have HO_5 := n0_; have HO_165000 := n1_; have HO181 := n2_; have HO184 := n3_; have BK164 := n4_; have HB := n5_; have BK188 := n6_; have GW188 := n7_; have GE188 := n8_; have NB164_188 := n9_; have NB188_164 := n10_; clear n0_ n1_ n2_ n3_ n4_ n5_ n6_ n7_ n8_ n9_ n10_; clear hb hbox hg; obtain ⟨Ao22, co22, eo22⟩ := Kd.R_slice HO181.out; subst eo22; have hnb23 := NB188_164.out; have hnc23 := NB164_188.out; have hcz24_0 : w21.cell? ⟨gb188, 0, none⟩ = some (.slice none 0 0) := (blk_cell BK188.out 0).trans rfl; have hcz24_1 : w21.cell? ⟨gb188, 1, none⟩ = some (.slice none 0 0) := (blk_cell BK188.out 1).trans rfl; have hcz24_2 : w21.cell? ⟨gb188, 2, none⟩ = some (.bool false) := (blk_cell BK188.out 2).trans rfl; have hcz24_3 : w21.cell? ⟨gb188, 3, none⟩ = some (.string (⟨#[]⟩ : ByteArray)) := (blk_cell BK188.out 3).trans rfl; have hfz24_0 := blk_frozen BK188.out 0; have hfz24_1 := blk_frozen BK188.out 1; have hfz24_2 := blk_frozen BK188.out 2; have hfz24_3 := blk_frozen BK188.out 3; obtain ⟨Ao25, co25, eo25⟩ := Kd.R_slice HO184.out; subst eo25)); go_upto_region 15 with (first | (go_at_call 11; (with_reducible refine (pager_Keys.calls kj12 _ _ t165 t168 t169 x7_1 x10_12 t179 t182 t185 t186 t187 _ ?side1 ?side2 A17.out).mono ?_); (case side1 => repeat (first | exact (Kd.S_reads' HO_165000.out).2.2 | (with_reducible refine Kd.C_alloc ?_ _) | (with_reducible refine Kd.C_drewN ?_ _) | (with_reducible refine Kd.C_drew ?_))); (case side2 => exact (Kd.S_reads' HO_165000.out).2.1); rintro e w20 ⟨v180, v183, rfl, ho0, ho1, hb⟩; have n0_ := Aside0.mk (Kd.R_mono (Kd.R_told (Kd.R_told (Kd.R_old (by (with_reducible repeat (first | apply Kd.R_alloc | apply Kd.R_drewN | apply Kd.R_drew)); exact HO_5.out) hb) (Kd.R_base ho0)) (Kd.R_base ho1)) (fun _ h_ => h_.1)); have n1_ := Aside0.mk (Kd.S_below (by (with_reducible repeat (first | apply Kd.S_alloc | apply Kd.S_drewN | apply Kd.S_drew)); exact HO_165000.out) hb); have n2_ := Aside0.mk (Kd.R_lower (Kd.R_new' ho0 (Kd.R_lt (by (with_reducible repeat (first | apply Kd.R_alloc | apply Kd.R_drewN | apply Kd.R_drew)); exact HO_5.out))) (below_size (by repeat (first | (with_reducible first | exact HB.out | apply below_alloc | apply pw_below_drewN | apply below_drew1 | refine below_set ?_ GE164.out) | exact HB.out)))); have n3_ := Aside0.mk (Kd.R_lower (Kd.R_new' ho1 (Kd.R_lt (by (with_reducible repeat (first | apply Kd.R_alloc | apply Kd.R_drewN | apply Kd.R_drew)); exact HO_5.out))) (below_size (by repeat (first | (with_reducible first | exact HB.out | apply below_alloc | apply pw_below_drewN | apply below_drew1 | refine below_set ?_ GE164.out) | exact HB.out)))); have n4_ := Aside0.mk (blk_below (g := gb164) (o := .cells #[.slice Ao9 t165.length co9, .string t168, .string t169, .string t170, .int .u64 t171, .int .i64 t172] 25 (0, 0)) (by (with_reducible repeat (first | refine blk_drewN ?_ _ | refine blk_drew ?_ | refine blk_alloc ?_ _)); exact BK164.out) hb); have n5_ := Aside0.mk (below_step (by repeat (first | (with_reducible first | exact HB.out | apply below_alloc | apply pw_below_drewN | apply below_drew1 | refine below_set ?_ GE164.out) | exact HB.out)) hb); clear HO_5; clear HO_165000; clear BK164; clear HB; have HO_5 := n0_; have HO_165000 := n1_; have HO181 := n2_; have HO184 := n3_; have BK164 := n4_; have HB := n5_; clear n0_ n1_ n2_ n3_ n4_ n5_; (try clear hb); (try clear hb2); (try clear hk); (try clear hi); (try clear ho0); (try clear ho1)) | ((with_reducible refine gate_dst (N := 11) rfl ?_); (try (refine gate_guard (by rfl) ?_; dsimp only)); refine box_event ?hg (N := 11) ?hd (cs := #[.slice none 0 0, .slice none 0 0, .bool false, .string (⟨#[]⟩ : ByteArray)]) (t := 29) ?hr ?_; (case hd => rfl); (case hg => rfl); (case hr => first | (go_simp; done) | (go_simp; rfl)); intro gb188 hg w21 hbox hb; have n0_ := Aside0.mk (Kd.R_below (by (with_reducible repeat (first | apply Kd.R_alloc | apply Kd.R_drewN | apply Kd.R_drew)); exact HO_5.out) hb); have n1_ := Aside0.mk (Kd.S_below (by (with_reducible repeat (first | apply Kd.S_alloc | apply Kd.S_drewN | apply Kd.S_drew)); exact HO_165000.out) hb); have n2_ := Aside0.mk (Kd.R_below (by (with_reducible repeat (first | apply Kd.R_alloc | apply Kd.R_drewN | apply Kd.R_drew)); exact HO181.out) hb); have n3_ := Aside0.mk (Kd.R_below (by (with_reducible repeat (first | apply Kd.R_alloc | apply Kd.R_drewN | apply Kd.R_drew)); exact HO184.out) hb); have n4_ := Aside0.mk (blk_below (g := gb164) (o := .cells #[.slice Ao9 t165.length co9, .string t168, .string t169, .string t170, .int .u64 t171, .int .i64 t172] 25 (0, 0)) (by (with_reducible repeat (first | refine blk_drewN ?_ _ | refine blk_drew ?_ | refine blk_alloc ?_ _)); exact BK164.out) hb); have n5_ := Aside0.mk (below_step (by repeat (first | (with_reducible first | exact HB.out | apply below_alloc | apply pw_below_drewN | apply below_drew1 | refine below_set ?_ GE164.out) | exact HB.out)) hb); have n6_ := Aside0.mk (hbox); have n7_ := Aside0.mk ((by rw [hg]; exact (below_size (by repeat (first | (with_reducible first | exact HB.out | apply below_alloc | apply pw_below_drewN | apply below_drew1 | refine below_set ?_ GE164.out) | exact HB.out))) : w.heap.size ≤ gb188)); have n8_ := Aside0.mk ((by rw [hg]; exact (below_size (by repeat (first | (with_reducible first | exact HB.out | apply below_alloc | apply pw_below_drewN | apply below_drew1 | refine below_set ?_ GE164.out) | exact HB.out))) : w.heap.size ≤ gb188)); have n9_ := Aside0.mk ((by rw [hg]; exact Nat.ne_of_lt (blk_lt (g := gb164) (o := .cells #[.slice Ao9 t165.length co9, .string t168, .string t169, .string t170, .int .u64 t171, .int .i64 t172] 25 (0, 0)) (by (with_reducible repeat (first | refine blk_drewN ?_ _ | refine blk_drew ?_ | refine blk_alloc ?_ _)); exact BK164.out)) : gb164 ≠ gb188)); have n10_ := Aside0.mk ((by rw [hg]; exact Nat.ne_of_gt (blk_lt (g := gb164) (o := .cells #[.slice Ao9 t165.length co9, .string t168, .string t169, .string t170, .int .u64 t171, .int .i64 t172] 25 (0, 0)) (by (with_reducible repeat (first | refine blk_drewN ?_ _ | refine blk_drew ?_ | refine blk_alloc ?_ _)); exact BK164.out)) : gb188 ≠ gb164)); clear HO_5; clear HO_165000; clear HO181; clear HO184; clear BK164; clear HB; have HO_5 := n0_; have HO_165000 := n1_; have HO181 := n2_; have HO184 := n3_; have BK164 := n4_; have HB := n5_; have BK188 := n6_; have GW188 := n7_; have GE188 := n8_; have NB164_188 := n9_; have NB188_164 := n10_; clear n0_ n1_ n2_ n3_ n4_ n5_ n6_ n7_ n8_ n9_ n10_; clear hb hbox hg; obtain ⟨Ao22, co22, eo22⟩ := Kd.R_slice HO181.out; subst eo22; have hnb23 := NB188_164.out; have hnc23 := NB164_188.out; have hcz24_0 : w21.cell? ⟨gb188, 0, none⟩ = some (.slice none 0 0) := (blk_cell BK188.out 0).trans rfl; have hcz24_1 : w21.cell? ⟨gb188, 1, none⟩ = some (.slice none 0 0) := (blk_cell BK188.out 1).trans rfl; have hcz24_2 : w21.cell? ⟨gb188, 2, none⟩ = some (.bool false) := (blk_cell BK188.out 2).trans rfl; have hcz24_3 : w21.cell? ⟨gb188, 3, none⟩ = some (.string (⟨#[]⟩ : ByteArray)) := (blk_cell BK188.out 3).trans rfl; have hfz24_0 := blk_frozen BK188.out 0; have hfz24_1 := blk_frozen BK188.out 1; have hfz24_2 := blk_frozen BK188.out 2; have hfz24_3 := blk_frozen BK188.out 3; obtain ⟨Ao25, co25, eo25⟩ := Kd.R_slice HO184.out; subst eo25)))
       (try simp only [Act.put, List.setIfInBounds_toArray, List.set_cons_zero, List.set_cons_succ])
       go_cut [98] (fun v98 wc => ∃ (kq : Nat) (x98_17 : Bool), v98 = .bool x98_17 ∧ Aside0 (cellarerlaw07_PagerWhole.j2 kq l1 t173 x8_1 x9_1 (wrap64 ((t179.length : Int) + (t182.length : Int))) x98_17 t165 t168 t169 t170 t171 t172 t179 t182 t185 t186 = some r) ∧ Aside0 (kq ≤ kj12) ∧ Aside0 (Kd.R Kd.string 9 wc w.heap.size (fun k_ => some k_ ≠ ((.slice Ao22 t179.length co22) : Value).ownBlock ∧ some k_ ≠ ((.slice Ao25 t182.length co25) : Value).ownBlock) (.slice Ao14 t173.length co14) t173) ∧ Aside0 (Kd.S k50 50 wc w.heap.size (fun _ => True) (.slice Ao9 t165.length co9) t165) ∧ Aside0 (Kd.R Kd.string 9 wc w.heap.size (fun k_ => some k_ ≠ ((.slice Ao14 t173.length co14) : Value).ownBlock ∧ some k_ ≠ ((.slice Ao25 t182.length co25) : Value).ownBlock) (.slice Ao22 t179.length co22) t179) ∧ Aside0 (Kd.R Kd.string 9 wc w.heap.size (fun k_ => some k_ ≠ ((.slice Ao14 t173.length co14) : Value).ownBlock ∧ some k_ ≠ ((.slice Ao22 t179.length co22) : Value).ownBlock) (.slice Ao25 t182.length co25) t182) ∧ Aside0 (wc.heap[gb164]? = some (.cells #[(.slice Ao9 t165.length co9), .string t168, .string t169, .string t170, .int .u64 t171, .int .i64 t172] 25 (0, 0))) ∧ Aside0 (wc.heap[gb188]? = some (.cells #[(.slice Ao22 t179.length co22), (.slice Ao25 t182.length co25), .bool t185, .string t186] 29 (0, 0))) ∧ Aside0 (Below w.heap.size w wc))
       case first =>
        have H := HC18.out
        clear HC18
        by_cases c26 : t187 = 0
        ·rw [if_pos c26] at H
         have c26b0 : (t187 == 0) = true := beq_iff_eq.mpr c26
         have c26b1 : (t187 != 0) = false := bne_eq_false_iff_eq.mpr c26
         clear c26
         (first | rw [c26b0] | rw [c26b1] | (simp only [i64_w, i32_w]; rw [c26b0]) | skip)
         by_cases c27 : (wrap64 (x8_1 + (wrap64 ((t179.length : Int) + (t182.length : Int))))) > (t173.length : Int)
         ·rw [if_pos c27] at H
          have c27b0 : decide ((t173.length : Int) < (wrap64 (x8_1 + (wrap64 ((t179.length : Int) + (t182.length : Int)))))) = true := decide_eq_true c27
          clear c27
          have H' := Aside0.mk H
          clear H
          go_wp2
          repeat (go_quiet (fail); try go_wp2)
          go_meet
          case rel => exact ⟨_, (true), (by first | rfl | (simp; done) | (simp [*]; done)), H', ⟨by have := HK1.out; have := HJ12.out; first | omega | exact Nat.le_refl _⟩, ⟨by (with_reducible repeat (first | apply Kd.R_alloc | apply Kd.R_drewN | apply Kd.R_drew)); exact Kd.R_mono (Kd.R_far (p := ⟨gb188, 3, none⟩) (Kd.R_far (p := ⟨gb188, 2, none⟩) (Kd.R_far (p := ⟨gb188, 1, none⟩) (Kd.R_far (p := ⟨gb188, 0, none⟩) (Kd.R_types HO_5.out BK188.out (by decide)) (fun _ hk => hk.2) (.slice Ao22 t179.length co22)) (fun _ hk => hk.2) (.slice Ao25 t182.length co25)) (fun _ hk => hk.2) (.bool t185)) (fun _ hk => hk.2) (.string t186)) (fun _ hk => ⟨hk.1.1.2, hk.1.2⟩)⟩, ⟨by (with_reducible repeat (first | apply Kd.S_alloc | apply Kd.S_drewN | apply Kd.S_drew)); exact Kd.S_mono (Kd.S_far (p := ⟨gb188, 3, none⟩) (Kd.S_far (p := ⟨gb188, 2, none⟩) (Kd.S_far (p := ⟨gb188, 1, none⟩) (Kd.S_far (p := ⟨gb188, 0, none⟩) (Kd.S_types HO_165000.out BK188.out (by decide)) (fun _ hk => hk.2) (.slice Ao22 t179.length co22)) (fun _ hk => hk.2) (.slice Ao25 t182.length co25)) (fun _ hk => hk.2) (.bool t185)) (fun _ hk => hk.2) (.string t186)) (fun _ hk => trivial)⟩, ⟨by (with_reducible repeat (first | apply Kd.R_alloc | apply Kd.R_drewN | apply Kd.R_drew)); exact Kd.R_mono (Kd.R_far (p := ⟨gb188, 3, none⟩) (Kd.R_far (p := ⟨gb188, 2, none⟩) (Kd.R_far (p := ⟨gb188, 1, none⟩) (Kd.R_far (p := ⟨gb188, 0, none⟩) (Kd.R_types HO181.out BK188.out (by decide)) (fun _ hk => hk.2) (.slice Ao22 t179.length co22)) (fun _ hk => hk.2) (.slice Ao25 t182.length co25)) (fun _ hk => hk.2) (.bool t185)) (fun _ hk => hk.2) (.string t186)) (fun _ hk => ⟨hk.1.2, hk.1.1⟩)⟩, ⟨by (with_reducible repeat (first | apply Kd.R_alloc | apply Kd.R_drewN | apply Kd.R_drew)); exact Kd.R_mono (Kd.R_far (p := ⟨gb188, 3, none⟩) (Kd.R_far (p := ⟨gb188, 2, none⟩) (Kd.R_far (p := ⟨gb188, 1, none⟩) (Kd.R_far (p := ⟨gb188, 0, none⟩) (Kd.R_types HO184.out BK188.out (by decide)) (fun _ hk => hk.2) (.slice Ao22 t179.length co22)) (fun _ hk => hk.2) (.slice Ao25 t182.length co25)) (fun _ hk => hk.2) (.bool t185)) (fun _ hk => hk.2) (.string t186)) (fun _ hk => ⟨hk.1.2, hk.1.1⟩)⟩, ⟨by (with_reducible repeat (first | refine blk_drewN ?_ _ | refine blk_drew ?_ | refine blk_alloc ?_ _)); refine blk_far ?_ NB164_188.out _; (with_reducible repeat (first | refine blk_drewN ?_ _ | refine blk_drew ?_ | refine blk_alloc ?_ _)); refine blk_far ?_ NB164_188.out _; (with_reducible repeat (first | refine blk_drewN ?_ _ | refine blk_drew ?_ | refine blk_alloc ?_ _)); refine blk_far ?_ NB164_188.out _; (with_reducible repeat (first | refine blk_drewN ?_ _ | refine blk_drew ?_ | refine blk_alloc ?_ _)); refine blk_far ?_ NB164_188.out _; (with_reducible repeat (first | refine blk_drewN ?_ _ | refine blk_drew ?_ | refine blk_alloc ?_ _)); exact BK164.out⟩, ⟨by (with_reducible repeat (first | refine blk_drewN ?_ _ | refine blk_drew ?_ | refine blk_alloc ?_ _)); refine blk_put (cs := #[.slice Ao22 t179.length co22, .slice Ao25 t182.length co25, .bool t185, .string (⟨#[]⟩ : ByteArray)]) ?_ 3 _ rfl; (with_reducible repeat (first | refine blk_drewN ?_ _ | refine blk_drew ?_ | refine blk_alloc ?_ _)); refine blk_put (cs := #[.slice Ao22 t179.length co22, .slice Ao25 t182.length co25, .bool false, .string (⟨#[]⟩ : ByteArray)]) ?_ 2 _ rfl; (with_reducible repeat (first | refine blk_drewN ?_ _ | refine blk_drew ?_ | refine blk_alloc ?_ _)); refine blk_put (cs := #[.slice Ao22 t179.length co22, .slice none 0 0, .bool false, .string (⟨#[]⟩ : ByteArray)]) ?_ 1 _ rfl; (with_reducible repeat (first | refine blk_drewN ?_ _ | refine blk_drew ?_ | refine blk_alloc ?_ _)); refine blk_put (cs := #[.slice none 0 0, .slice none 0 0, .bool false, .string (⟨#[]⟩ : ByteArray)]) ?_ 0 _ rfl; (with_reducible repeat (first | refine blk_drewN ?_ _ | refine blk_drew ?_ | refine blk_alloc ?_ _)); exact BK188.out⟩, ⟨by repeat (first | (with_reducible first | exact HB.out | apply below_alloc | apply pw_below_drewN | apply below_drew1 | refine below_set ?_ GE164.out | refine below_set ?_ GE188.out) | exact HB.out)⟩⟩
         ·rw [if_neg c27] at H
          have c27b0 : decide ((t173.length : Int) < (wrap64 (x8_1 + (wrap64 ((t179.length : Int) + (t182.length : Int)))))) = false := decide_eq_false c27
          clear c27
          by_cases c28 : (t185 != (decide ((wrap64 (x8_1 + (wrap64 ((t179.length : Int) + (t182.length : Int))))) < (t173.length : Int)))) = true
          ·rw [if_pos c28] at H
           have c28b0 : (t185 != (decide ((wrap64 (x8_1 + (wrap64 ((t179.length : Int) + (t182.length : Int))))) < (t173.length : Int)))) = true := c28
           (try (have c28b1 : decide (t185 = (decide ((wrap64 (x8_1 + (wrap64 ((t179.length : Int) + (t182.length : Int))))) < (t173.length : Int)))) = false := by simpa using c28))
           (try (have c28b2 : (t185 == (decide ((wrap64 (x8_1 + (wrap64 ((t179.length : Int) + (t182.length : Int))))) < (t173.length : Int)))) = false := by simpa using c28))
           (try (have c28b3 : ¬ (t185 = (decide ((wrap64 (x8_1 + (wrap64 ((t179.length : Int) + (t182.length : Int))))) < (t173.length : Int)))) := by simpa using c28))
           clear c28
           have H' := Aside0.mk H
           clear H
           have hnb29 := NB188_164.out
           have hnc29 := NB164_188.out
           have hcz30_0 : w21.cell? ⟨gb188, 0, none⟩ = some (.slice none 0 0) := (blk_cell BK188.out 0).trans rfl
           have hcz30_1 : w21.cell? ⟨gb188, 1, none⟩ = some (.slice none 0 0) := (blk_cell BK188.out 1).trans rfl
           have hcz30_2 : w21.cell? ⟨gb188, 2, none⟩ = some (.bool false) := (blk_cell BK188.out 2).trans rfl
           have hcz30_3 : w21.cell? ⟨gb188, 3, none⟩ = some (.string (⟨#[]⟩ : ByteArray)) := (blk_cell BK188.out 3).trans rfl
           have hfz30_0 := blk_frozen BK188.out 0
           have hfz30_1 := blk_frozen BK188.out 1
           have hfz30_2 := blk_frozen BK188.out 2
           have hfz30_3 := blk_frozen BK188.out 3
           go_wp2
           repeat (go_quiet (fail); try go_wp2)
           go_meet
           case rel => exact ⟨_, (true), (by first | rfl | (simp; done) | (simp [*]; done)), H', ⟨by have := HK1.out; have := HJ12.out; first | omega | exact Nat.le_refl _⟩, ⟨by (with_reducible repeat (first | apply Kd.R_alloc | apply Kd.R_drewN | apply Kd.R_drew)); exact Kd.R_mono (Kd.R_far (p := ⟨gb188, 3, none⟩) (Kd.R_far (p := ⟨gb188, 2, none⟩) (Kd.R_far (p := ⟨gb188, 1, none⟩) (Kd.R_far (p := ⟨gb188, 0, none⟩) (Kd.R_types HO_5.out BK188.out (by decide)) (fun _ hk => hk.2) (.slice Ao22 t179.length co22)) (fun _ hk => hk.2) (.slice Ao25 t182.length co25)) (fun _ hk => hk.2) (.bool t185)) (fun _ hk => hk.2) (.string t186)) (fun _ hk => ⟨hk.1.1.2, hk.1.2⟩)⟩, ⟨by (with_reducible repeat (first | apply Kd.S_alloc | apply Kd.S_drewN | apply Kd.S_drew)); exact Kd.S_mono (Kd.S_far (p := ⟨gb188, 3, none⟩) (Kd.S_far (p := ⟨gb188, 2, none⟩) (Kd.S_far (p := ⟨gb188, 1, none⟩) (Kd.S_far (p := ⟨gb188, 0, none⟩) (Kd.S_types HO_165000.out BK188.out (by decide)) (fun _ hk => hk.2) (.slice Ao22 t179.length co22)) (fun _ hk => hk.2) (.slice Ao25 t182.length co25)) (fun _ hk => hk.2) (.bool t185)) (fun _ hk => hk.2) (.string t186)) (fun _ hk => trivial)⟩, ⟨by (with_reducible repeat (first | apply Kd.R_alloc | apply Kd.R_drewN | apply Kd.R_drew)); exact Kd.R_mono (Kd.R_far (p := ⟨gb188, 3, none⟩) (Kd.R_far (p := ⟨gb188, 2, none⟩) (Kd.R_far (p := ⟨gb188, 1, none⟩) (Kd.R_far (p := ⟨gb188, 0, none⟩) (Kd.R_types HO181.out BK188.out (by decide)) (fun _ hk => hk.2) (.slice Ao22 t179.length co22)) (fun _ hk => hk.2) (.slice Ao25 t182.length co25)) (fun _ hk => hk.2) (.bool t185)) (fun _ hk => hk.2) (.string t186)) (fun _ hk => ⟨hk.1.2, hk.1.1⟩)⟩, ⟨by (with_reducible repeat (first | apply Kd.R_alloc | apply Kd.R_drewN | apply Kd.R_drew)); exact Kd.R_mono (Kd.R_far (p := ⟨gb188, 3, none⟩) (Kd.R_far (p := ⟨gb188, 2, none⟩) (Kd.R_far (p := ⟨gb188, 1, none⟩) (Kd.R_far (p := ⟨gb188, 0, none⟩) (Kd.R_types HO184.out BK188.out (by decide)) (fun _ hk => hk.2) (.slice Ao22 t179.length co22)) (fun _ hk => hk.2) (.slice Ao25 t182.length co25)) (fun _ hk => hk.2) (.bool t185)) (fun _ hk => hk.2) (.string t186)) (fun _ hk => ⟨hk.1.2, hk.1.1⟩)⟩, ⟨by (with_reducible repeat (first | refine blk_drewN ?_ _ | refine blk_drew ?_ | refine blk_alloc ?_ _)); refine blk_far ?_ NB164_188.out _; (with_reducible repeat (first | refine blk_drewN ?_ _ | refine blk_drew ?_ | refine blk_alloc ?_ _)); refine blk_far ?_ NB164_188.out _; (with_reducible repeat (first | refine blk_drewN ?_ _ | refine blk_drew ?_ | refine blk_alloc ?_ _)); refine blk_far ?_ NB164_188.out _; (with_reducible repeat (first | refine blk_drewN ?_ _ | refine blk_drew ?_ | refine blk_alloc ?_ _)); refine blk_far ?_ NB164_188.out _; (with_reducible repeat (first | refine blk_drewN ?_ _ | refine blk_drew ?_ | refine blk_alloc ?_ _)); exact BK164.out⟩, ⟨by (with_reducible repeat (first | refine blk_drewN ?_ _ | refine blk_drew ?_ | refine blk_alloc ?_ _)); refine blk_put (cs := #[.slice Ao22 t179.length co22, .slice Ao25 t182.length co25, .bool t185, .string (⟨#[]⟩ : ByteArray)]) ?_ 3 _ rfl; (with_reducible repeat (first | refine blk_drewN ?_ _ | refine blk_drew ?_ | refine blk_alloc ?_ _)); refine blk_put (cs := #[.slice Ao22 t179.length co22, .slice Ao25 t182.length co25, .bool false, .string (⟨#[]⟩ : ByteArray)]) ?_ 2 _ rfl; (with_reducible repeat (first | refine blk_drewN ?_ _ | refine blk_drew ?_ | refine blk_alloc ?_ _)); refine blk_put (cs := #[.slice Ao22 t179.length co22, .slice none 0 0, .bool false, .string (⟨#[]⟩ : ByteArray)]) ?_ 1 _ rfl; (with_reducible repeat (first | refine blk_drewN ?_ _ | refine blk_drew ?_ | refine blk_alloc ?_ _)); refine blk_put (cs := #[.slice none 0 0, .slice none 0 0, .bool false, .string (⟨#[]⟩ : ByteArray)]) ?_ 0 _ rfl; (with_reducible repeat (first | refine blk_drewN ?_ _ | refine blk_drew ?_ | refine blk_alloc ?_ _)); exact BK188.out⟩, ⟨by repeat (first | (with_reducible first | exact HB.out | apply below_alloc | apply pw_below_drewN | apply below_drew1 | refine below_set ?_ GE164.out | refine below_set ?_ GE188.out) | exact HB.out)⟩⟩
          ·rw [if_neg c28] at H
           have c28b0 : (t185 != (decide ((wrap64 (x8_1 + (wrap64 ((t179.length : Int) + (t182.length : Int))))) < (t173.length : Int)))) = false := by simpa using c28
           (try (have c28b1 : decide (t185 = (decide ((wrap64 (x8_1 + (wrap64 ((t179.length : Int) + (t182.length : Int))))) < (t173.length : Int)))) = true := by simpa using c28))
           (try (have c28b2 : (t185 == (decide ((wrap64 (x8_1 + (wrap64 ((t179.length : Int) + (t182.length : Int))))) < (t173.length : Int)))) = true := by simpa using c28))
           clear c28
           by_cases c31 : t185 = true
           ·subst c31
            have H1 : (cellarerlaw07_PagerWhole.j2 kj12 l1 t173 x8_1 x9_1 (wrap64 ((t179.length : Int) + (t182.length : Int))) ((wrap64 ((t179.length : Int) + (t182.length : Int))) != x10_12) t165 t168 t169 t170 t171 t172 t179 t182 true t186) = some r := by rw [if_pos rfl] at H; exact H
            clear H
            have H := H1
            clear H1
            have H' := Aside0.mk H
            clear H
            have hnb32 := NB188_164.out
            have hnc32 := NB164_188.out
            have hcz33_0 : w21.cell? ⟨gb188, 0, none⟩ = some (.slice none 0 0) := (blk_cell BK188.out 0).trans rfl
            have hcz33_1 : w21.cell? ⟨gb188, 1, none⟩ = some (.slice none 0 0) := (blk_cell BK188.out 1).trans rfl
            have hcz33_2 : w21.cell? ⟨gb188, 2, none⟩ = some (.bool false) := (blk_cell BK188.out 2).trans rfl
            have hcz33_3 : w21.cell? ⟨gb188, 3, none⟩ = some (.string (⟨#[]⟩ : ByteArray)) := (blk_cell BK188.out 3).trans rfl
            have hfz33_0 := blk_frozen BK188.out 0
            have hfz33_1 := blk_frozen BK188.out 1
            have hfz33_2 := blk_frozen BK188.out 2
            have hfz33_3 := blk_frozen BK188.out 3
            go_wp2
            repeat (go_quiet (fail); try go_wp2)
            go_meet
            case rel => exact ⟨_, (((wrap64 ((t179.length : Int) + (t182.length : Int))) != x10_12)), (by first | rfl | (simp; done) | (simp [*]; done)), H', ⟨by have := HK1.out; have := HJ12.out; first | omega | exact Nat.le_refl _⟩, ⟨by (with_reducible repeat (first | apply Kd.R_alloc | apply Kd.R_drewN | apply Kd.R_drew)); exact Kd.R_mono (Kd.R_far (p := ⟨gb188, 3, none⟩) (Kd.R_far (p := ⟨gb188, 2, none⟩) (Kd.R_far (p := ⟨gb188, 1, none⟩) (Kd.R_far (p := ⟨gb188, 0, none⟩) (Kd.R_types HO_5.out BK188.out (by decide)) (fun _ hk => hk.2) (.slice Ao22 t179.length co22)) (fun _ hk => hk.2) (.slice Ao25 t182.length co25)) (fun _ hk => hk.2) (.bool true)) (fun _ hk => hk.2) (.string t186)) (fun _ hk => ⟨hk.1.1.2, hk.1.2⟩)⟩, ⟨by (with_reducible repeat (first | apply Kd.S_alloc | apply Kd.S_drewN | apply Kd.S_drew)); exact Kd.S_mono (Kd.S_far (p := ⟨gb188, 3, none⟩) (Kd.S_far (p := ⟨gb188, 2, none⟩) (Kd.S_far (p := ⟨gb188, 1, none⟩) (Kd.S_far (p := ⟨gb188, 0, none⟩) (Kd.S_types HO_165000.out BK188.out (by decide)) (fun _ hk => hk.2) (.slice Ao22 t179.length co22)) (fun _ hk => hk.2) (.slice Ao25 t182.length co25)) (fun _ hk => hk.2) (.bool true)) (fun _ hk => hk.2) (.string t186)) (fun _ hk => trivial)⟩, ⟨by (with_reducible repeat (first | apply Kd.R_alloc | apply Kd.R_drewN | apply Kd.R_drew)); exact Kd.R_mono (Kd.R_far (p := ⟨gb188, 3, none⟩) (Kd.R_far (p := ⟨gb188, 2, none⟩) (Kd.R_far (p := ⟨gb188, 1, none⟩) (Kd.R_far (p := ⟨gb188, 0, none⟩) (Kd.R_types HO181.out BK188.out (by decide)) (fun _ hk => hk.2) (.slice Ao22 t179.length co22)) (fun _ hk => hk.2) (.slice Ao25 t182.length co25)) (fun _ hk => hk.2) (.bool true)) (fun _ hk => hk.2) (.string t186)) (fun _ hk => ⟨hk.1.2, hk.1.1⟩)⟩, ⟨by (with_reducible repeat (first | apply Kd.R_alloc | apply Kd.R_drewN | apply Kd.R_drew)); exact Kd.R_mono (Kd.R_far (p := ⟨gb188, 3, none⟩) (Kd.R_far (p := ⟨gb188, 2, none⟩) (Kd.R_far (p := ⟨gb188, 1, none⟩) (Kd.R_far (p := ⟨gb188, 0, none⟩) (Kd.R_types HO184.out BK188.out (by decide)) (fun _ hk => hk.2) (.slice Ao22 t179.length co22)) (fun _ hk => hk.2) (.slice Ao25 t182.length co25)) (fun _ hk => hk.2) (.bool true)) (fun _ hk => hk.2) (.string t186)) (fun _ hk => ⟨hk.1.2, hk.1.1⟩)⟩, ⟨by (with_reducible repeat (first | refine blk_drewN ?_ _ | refine blk_drew ?_ | refine blk_alloc ?_ _)); refine blk_far ?_ NB164_188.out _; (with_reducible repeat (first | refine blk_drewN ?_ _ | refine blk_drew ?_ | refine blk_alloc ?_ _)); refine blk_far ?_ NB164_188.out _; (with_reducible repeat (first | refine blk_drewN ?_ _ | refine blk_drew ?_ | refine blk_alloc ?_ _)); refine blk_far ?_ NB164_188.out _; (with_reducible repeat (first | refine blk_drewN ?_ _ | refine blk_drew ?_ | refine blk_alloc ?_ _)); refine blk_far ?_ NB164_188.out _; (with_reducible repeat (first | refine blk_drewN ?_ _ | refine blk_drew ?_ | refine blk_alloc ?_ _)); exact BK164.out⟩, ⟨by (with_reducible repeat (first | refine blk_drewN ?_ _ | refine blk_drew ?_ | refine blk_alloc ?_ _)); refine blk_put (cs := #[.slice Ao22 t179.length co22, .slice Ao25 t182.length co25, .bool true, .string (⟨#[]⟩ : ByteArray)]) ?_ 3 _ rfl; (with_reducible repeat (first | refine blk_drewN ?_ _ | refine blk_drew ?_ | refine blk_alloc ?_ _)); refine blk_put (cs := #[.slice Ao22 t179.length co22, .slice Ao25 t182.length co25, .bool false, .string (⟨#[]⟩ : ByteArray)]) ?_ 2 _ rfl; (with_reducible repeat (first | refine blk_drewN ?_ _ | refine blk_drew ?_ | refine blk_alloc ?_ _)); refine blk_put (cs := #[.slice Ao22 t179.length co22, .slice none 0 0, .bool false, .string (⟨#[]⟩ : ByteArray)]) ?_ 1 _ rfl; (with_reducible repeat (first | refine blk_drewN ?_ _ | refine blk_drew ?_ | refine blk_alloc ?_ _)); refine blk_put (cs := #[.slice none 0 0, .slice none 0 0, .bool false, .string (⟨#[]⟩ : ByteArray)]) ?_ 0 _ rfl; (with_reducible repeat (first | refine blk_drewN ?_ _ | refine blk_drew ?_ | refine blk_alloc ?_ _)); exact BK188.out⟩, ⟨by repeat (first | (with_reducible first | exact HB.out | apply below_alloc | apply pw_below_drewN | apply below_drew1 | refine below_set ?_ GE164.out | refine below_set ?_ GE188.out) | exact HB.out)⟩⟩
           ·replace c31 := Bool.eq_false_iff.mpr c31
            subst c31
            have H1 : (cellarerlaw07_PagerWhole.j2 kj12 l1 t173 x8_1 x9_1 (wrap64 ((t179.length : Int) + (t182.length : Int))) false t165 t168 t169 t170 t171 t172 t179 t182 false t186) = some r := by rw [if_neg (show ¬ (false = true) by decide)] at H; exact H
            clear H
            have H := H1
            clear H1
            have H' := Aside0.mk H
            clear H
            have hnb34 := NB188_164.out
            have hnc34 := NB164_188.out
            have hcz35_0 : w21.cell? ⟨gb188, 0, none⟩ = some (.slice none 0 0) := (blk_cell BK188.out 0).trans rfl
            have hcz35_1 : w21.cell? ⟨gb188, 1, none⟩ = some (.slice none 0 0) := (blk_cell BK188.out 1).trans rfl
            have hcz35_2 : w21.cell? ⟨gb188, 2, none⟩ = some (.bool false) := (blk_cell BK188.out 2).trans rfl
            have hcz35_3 : w21.cell? ⟨gb188, 3, none⟩ = some (.string (⟨#[]⟩ : ByteArray)) := (blk_cell BK188.out 3).trans rfl
            have hfz35_0 := blk_frozen BK188.out 0
            have hfz35_1 := blk_frozen BK188.out 1
            have hfz35_2 := blk_frozen BK188.out 2
            have hfz35_3 := blk_frozen BK188.out 3
            go_wp2
            repeat (go_quiet (fail); try go_wp2)
            go_meet
            case rel => exact ⟨_, (false), (by first | rfl | (simp; done) | (simp [*]; done)), H', ⟨by have := HK1.out; have := HJ12.out; first | omega | exact Nat.le_refl _⟩, ⟨by (with_reducible repeat (first | apply Kd.R_alloc | apply Kd.R_drewN | apply Kd.R_drew)); exact Kd.R_mono (Kd.R_far (p := ⟨gb188, 3, none⟩) (Kd.R_far (p := ⟨gb188, 2, none⟩) (Kd.R_far (p := ⟨gb188, 1, none⟩) (Kd.R_far (p := ⟨gb188, 0, none⟩) (Kd.R_types HO_5.out BK188.out (by decide)) (fun _ hk => hk.2) (.slice Ao22 t179.length co22)) (fun _ hk => hk.2) (.slice Ao25 t182.length co25)) (fun _ hk => hk.2) (.bool false)) (fun _ hk => hk.2) (.string t186)) (fun _ hk => ⟨hk.1.1.2, hk.1.2⟩)⟩, ⟨by (with_reducible repeat (first | apply Kd.S_alloc | apply Kd.S_drewN | apply Kd.S_drew)); exact Kd.S_mono (Kd.S_far (p := ⟨gb188, 3, none⟩) (Kd.S_far (p := ⟨gb188, 2, none⟩) (Kd.S_far (p := ⟨gb188, 1, none⟩) (Kd.S_far (p := ⟨gb188, 0, none⟩) (Kd.S_types HO_165000.out BK188.out (by decide)) (fun _ hk => hk.2) (.slice Ao22 t179.length co22)) (fun _ hk => hk.2) (.slice Ao25 t182.length co25)) (fun _ hk => hk.2) (.bool false)) (fun _ hk => hk.2) (.string t186)) (fun _ hk => trivial)⟩, ⟨by (with_reducible repeat (first | apply Kd.R_alloc | apply Kd.R_drewN | apply Kd.R_drew)); exact Kd.R_mono (Kd.R_far (p := ⟨gb188, 3, none⟩) (Kd.R_far (p := ⟨gb188, 2, none⟩) (Kd.R_far (p := ⟨gb188, 1, none⟩) (Kd.R_far (p := ⟨gb188, 0, none⟩) (Kd.R_types HO181.out BK188.out (by decide)) (fun _ hk => hk.2) (.slice Ao22 t179.length co22)) (fun _ hk => hk.2) (.slice Ao25 t182.length co25)) (fun _ hk => hk.2) (.bool false)) (fun _ hk => hk.2) (.string t186)) (fun _ hk => ⟨hk.1.2, hk.1.1⟩)⟩, ⟨by (with_reducible repeat (first | apply Kd.R_alloc | apply Kd.R_drewN | apply Kd.R_drew)); exact Kd.R_mono (Kd.R_far (p := ⟨gb188, 3, none⟩) (Kd.R_far (p := ⟨gb188, 2, none⟩) (Kd.R_far (p := ⟨gb188, 1, none⟩) (Kd.R_far (p := ⟨gb188, 0, none⟩) (Kd.R_types HO184.out BK188.out (by decide)) (fun _ hk => hk.2) (.slice Ao22 t179.length co22)) (fun _ hk => hk.2) (.slice Ao25 t182.length co25)) (fun _ hk => hk.2) (.bool false)) (fun _ hk => hk.2) (.string t186)) (fun _ hk => ⟨hk.1.2, hk.1.1⟩)⟩, ⟨by (with_reducible repeat (first | refine blk_drewN ?_ _ | refine blk_drew ?_ | refine blk_alloc ?_ _)); refine blk_far ?_ NB164_188.out _; (with_reducible repeat (first | refine blk_drewN ?_ _ | refine blk_drew ?_ | refine blk_alloc ?_ _)); refine blk_far ?_ NB164_188.out _; (with_reducible repeat (first | refine blk_drewN ?_ _ | refine blk_drew ?_ | refine blk_alloc ?_ _)); refine blk_far ?_ NB164_188.out _; (with_reducible repeat (first | refine blk_drewN ?_ _ | refine blk_drew ?_ | refine blk_alloc ?_ _)); refine blk_far ?_ NB164_188.out _; (with_reducible repeat (first | refine blk_drewN ?_ _ | refine blk_drew ?_ | refine blk_alloc ?_ _)); exact BK164.out⟩, ⟨by (with_reducible repeat (first | refine blk_drewN ?_ _ | refine blk_drew ?_ | refine blk_alloc ?_ _)); refine blk_put (cs := #[.slice Ao22 t179.length co22, .slice Ao25 t182.length co25, .bool false, .string (⟨#[]⟩ : ByteArray)]) ?_ 3 _ rfl; (with_reducible repeat (first | refine blk_drewN ?_ _ | refine blk_drew ?_ | refine blk_alloc ?_ _)); refine blk_put (cs := #[.slice Ao22 t179.length co22, .slice Ao25 t182.length co25, .bool false, .string (⟨#[]⟩ : ByteArray)]) ?_ 2 _ rfl; (with_reducible repeat (first | refine blk_drewN ?_ _ | refine blk_drew ?_ | refine blk_alloc ?_ _)); refine blk_put (cs := #[.slice Ao22 t179.length co22, .slice none 0 0, .bool false, .string (⟨#[]⟩ : ByteArray)]) ?_ 1 _ rfl; (with_reducible repeat (first | refine blk_drewN ?_ _ | refine blk_drew ?_ | refine blk_alloc ?_ _)); refine blk_put (cs := #[.slice none 0 0, .slice none 0 0, .bool false, .string (⟨#[]⟩ : ByteArray)]) ?_ 0 _ rfl; (with_reducible repeat (first | refine blk_drewN ?_ _ | refine blk_drew ?_ | refine blk_alloc ?_ _)); exact BK188.out⟩, ⟨by repeat (first | (with_reducible first | exact HB.out | apply below_alloc | apply pw_below_drewN | apply below_drew1 | refine below_set ?_ GE164.out | refine below_set ?_ GE188.out) | exact HB.out)⟩⟩
        ·rw [if_neg c26] at H
         have c26b0 : (t187 == 0) = false := beq_eq_false_iff_ne.mpr c26
         have c26b1 : (t187 != 0) = true := bne_iff_ne.mpr c26
         (first | rw [c26b0] | rw [c26b1] | (simp only [i64_w, i32_w]; rw [c26b0]) | skip)
         have H' := Aside0.mk H
         clear H
         go_wp2
         repeat (go_quiet (fail); try go_wp2)
         go_meet
         case rel => exact ⟨_, (true), (by first | rfl | (simp; done) | (simp [*]; done)), H', ⟨by have := HK1.out; have := HJ12.out; first | omega | exact Nat.le_refl _⟩, ⟨by (with_reducible repeat (first | apply Kd.R_alloc | apply Kd.R_drewN | apply Kd.R_drew)); exact Kd.R_mono (Kd.R_far (p := ⟨gb188, 3, none⟩) (Kd.R_far (p := ⟨gb188, 2, none⟩) (Kd.R_far (p := ⟨gb188, 1, none⟩) (Kd.R_far (p := ⟨gb188, 0, none⟩) (Kd.R_types HO_5.out BK188.out (by decide)) (fun _ hk => hk.2) (.slice Ao22 t179.length co22)) (fun _ hk => hk.2) (.slice Ao25 t182.length co25)) (fun _ hk => hk.2) (.bool t185)) (fun _ hk => hk.2) (.string t186)) (fun _ hk => ⟨hk.1.1.2, hk.1.2⟩)⟩, ⟨by (with_reducible repeat (first | apply Kd.S_alloc | apply Kd.S_drewN | apply Kd.S_drew)); exact Kd.S_mono (Kd.S_far (p := ⟨gb188, 3, none⟩) (Kd.S_far (p := ⟨gb188, 2, none⟩) (Kd.S_far (p := ⟨gb188, 1, none⟩) (Kd.S_far (p := ⟨gb188, 0, none⟩) (Kd.S_types HO_165000.out BK188.out (by decide)) (fun _ hk => hk.2) (.slice Ao22 t179.length co22)) (fun _ hk => hk.2) (.slice Ao25 t182.length co25)) (fun _ hk => hk.2) (.bool t185)) (fun _ hk => hk.2) (.string t186)) (fun _ hk => trivial)⟩, ⟨by (with_reducible repeat (first | apply Kd.R_alloc | apply Kd.R_drewN | apply Kd.R_drew)); exact Kd.R_mono (Kd.R_far (p := ⟨gb188, 3, none⟩) (Kd.R_far (p := ⟨gb188, 2, none⟩) (Kd.R_far (p := ⟨gb188, 1, none⟩) (Kd.R_far (p := ⟨gb188, 0, none⟩) (Kd.R_types HO181.out BK188.out (by decide)) (fun _ hk => hk.2) (.slice Ao22 t179.length co22)) (fun _ hk => hk.2) (.slice Ao25 t182.length co25)) (fun _ hk => hk.2) (.bool t185)) (fun _ hk => hk.2) (.string t186)) (fun _ hk => ⟨hk.1.2, hk.1.1⟩)⟩, ⟨by (with_reducible repeat (first | apply Kd.R_alloc | apply Kd.R_drewN | apply Kd.R_drew)); exact Kd.R_mono (Kd.R_far (p := ⟨gb188, 3, none⟩) (Kd.R_far (p := ⟨gb188, 2, none⟩) (Kd.R_far (p := ⟨gb188, 1, none⟩) (Kd.R_far (p := ⟨gb188, 0, none⟩) (Kd.R_types HO184.out BK188.out (by decide)) (fun _ hk => hk.2) (.slice Ao22 t179.length co22)) (fun _ hk => hk.2) (.slice Ao25 t182.length co25)) (fun _ hk => hk.2) (.bool t185)) (fun _ hk => hk.2) (.string t186)) (fun _ hk => ⟨hk.1.2, hk.1.1⟩)⟩, ⟨by (with_reducible repeat (first | refine blk_drewN ?_ _ | refine blk_drew ?_ | refine blk_alloc ?_ _)); refine blk_far ?_ NB164_188.out _; (with_reducible repeat (first | refine blk_drewN ?_ _ | refine blk_drew ?_ | refine blk_alloc ?_ _)); refine blk_far ?_ NB164_188.out _; (with_reducible repeat (first | refine blk_drewN ?_ _ | refine blk_drew ?_ | refine blk_alloc ?_ _)); refine blk_far ?_ NB164_188.out _; (with_reducible repeat (first | refine blk_drewN ?_ _ | refine blk_drew ?_ | refine blk_alloc ?_ _)); refine blk_far ?_ NB164_188.out _; (with_reducible repeat (first | refine blk_drewN ?_ _ | refine blk_drew ?_ | refine blk_alloc ?_ _)); exact BK164.out⟩, ⟨by (with_reducible repeat (first | refine blk_drewN ?_ _ | refine blk_drew ?_ | refine blk_alloc ?_ _)); refine blk_put (cs := #[.slice Ao22 t179.length co22, .slice Ao25 t182.length co25, .bool t185, .string (⟨#[]⟩ : ByteArray)]) ?_ 3 _ rfl; (with_reducible repeat (first | refine blk_drewN ?_ _ | refine blk_drew ?_ | refine blk_alloc ?_ _)); refine blk_put (cs := #[.slice Ao22 t179.length co22, .slice Ao25 t182.length co25, .bool false, .string (⟨#[]⟩ : ByteArray)]) ?_ 2 _ rfl; (with_reducible repeat (first | refine blk_drewN ?_ _ | refine blk_drew ?_ | refine blk_alloc ?_ _)); refine blk_put (cs := #[.slice Ao22 t179.length co22, .slice none 0 0, .bool false, .string (⟨#[]⟩ : ByteArray)]) ?_ 1 _ rfl; (with_reducible repeat (first | refine blk_drewN ?_ _ | refine blk_drew ?_ | refine blk_alloc ?_ _)); refine blk_put (cs := #[.slice none 0 0, .slice none 0 0, .bool false, .string (⟨#[]⟩ : ByteArray)]) ?_ 0 _ rfl; (with_reducible repeat (first | refine blk_drewN ?_ _ | refine blk_drew ?_ | refine blk_alloc ?_ _)); exact BK188.out⟩, ⟨by repeat (first | (with_reducible first | exact HB.out | apply below_alloc | apply pw_below_drewN | apply below_drew1 | refine below_set ?_ GE164.out | refine below_set ?_ GE188.out) | exact HB.out)⟩⟩
       case rest =>
        clear HC18
        try clear c1
        try clear p1
        try clear q1
        try clear hx1
        try clear c2
        try clear p2
        try clear c3
        try clear c4
        try clear c5
        try clear c5b0
        try clear c5b1
        try clear p6
        try clear c12
        try clear c12b0
        try clear c15
        try clear c15b0
        try clear c16
        try clear c16b0
        try clear p17
        try clear q17
        try clear hx17
        try clear c23
        try clear c26
        try clear c26b0
        try clear c26b1
        try clear c27
        try clear c27b0
        try clear c28
        try clear c28b0
        try clear c28b1
        try clear c28b2
        try clear c29
        try clear c31
        try clear c32
        try clear c34
        try clear hcz10_0
        try clear hcz10_1
        try clear hcz10_2
        try clear hcz10_3
        try clear hcz10_4
        try clear hcz10_5
        try clear hcz19_0
        try clear hcz19_1
        try clear hcz19_2
        try clear hcz19_3
        try clear hcz19_4
        try clear hcz19_5
        try clear hcz24_0
        try clear hcz24_1
        try clear hcz24_2
        try clear hcz24_3
        try clear hcz30_0
        try clear hcz30_1
        try clear hcz30_2
        try clear hcz30_3
        try clear hcz33_0
        try clear hcz33_1
        try clear hcz33_2
        try clear hcz33_3
        try clear hcz35_0
        try clear hcz35_1
        try clear hcz35_2
        try clear hcz35_3
        try clear hcz7_0
        try clear hcz7_1
        try clear hcz7_2
        try clear hcz7_3
        try clear hcz7_4
        try clear hcz7_5
        try clear hfz10_0
        try clear hfz10_1
        try clear hfz10_2
        try clear hfz10_3
        try clear hfz10_4
        try clear hfz10_5
        try clear hfz19_0
        try clear hfz19_1
        try clear hfz19_2
        try clear hfz19_3
        try clear hfz19_4
        try clear hfz19_5
        try clear hfz24_0
        try clear hfz24_1
        try clear hfz24_2
        try clear hfz24_3
        try clear hfz30_0
        try clear hfz30_1
        try clear hfz30_2
        try clear hfz30_3
        try clear hfz33_0
        try clear hfz33_1
        try clear hfz33_2
        try clear hfz33_3
        try clear hfz35_0
        try clear hfz35_1
        try clear hfz35_2
        try clear hfz35_3
        try clear hfz7_0
        try clear hfz7_1
        try clear hfz7_2
        try clear hfz7_3
        try clear hfz7_4
        try clear hfz7_5
        try clear hx178_0
        try clear p1
        try clear p178
        try clear p2
        try clear p6
        try clear q1
        try clear q178
        obtain ⟨kq, x98_17, rfl, HA, HJ17, HO_5, HO_165000, HO_189000, HO_189001, BK164, BK188, HB⟩ := hcut
        cases kq with
        | zero => exact absurd HA.out (by simp [cellarerlaw07_PagerWhole.j2])
        | succ kj17 =>
         have H := HA.out
         clear HA
         simp only [cellarerlaw07_PagerWhole.j2] at H
         by_cases c36 : x98_17 = true
         ·subst c36
          have H1 : (some false) = some r := by rw [if_pos rfl] at H; exact H
          clear H
          have H := H1
          clear H1
          obtain rfl := Option.some.inj H
          exact absurd HTR_.out (by decide)
         ·replace c36 := Bool.eq_false_iff.mpr c36
          subst c36
          have H1 : (cellarerlaw07_PagerWhole.l1 kj17 l1 t173 x8_1 x9_1 (wrap64 ((t179.length : Int) + (t182.length : Int))) ([] : List ByteArray) 0 t165 t168 t169 t170 t171 t172 t179 t182 t185 t186) = some r := by rw [if_neg (show ¬ (false = true) by decide)] at H; exact H
          clear H
          have H := H1
          clear H1
          have H' := Aside0.mk H
          clear H
          go_wp2
          repeat (go_quiet (fail); try go_wp2)
          go_loopg [15] kj17 (fun kq v15 w' => ∃ (x14_4 : List ByteArray) (x15_4 : Int), v15 = .int .i64 x15_4 ∧ Aside0 (cellarerlaw07_PagerWhole.l1 kq l1 t173 x8_1 x9_1 (wrap64 ((t179.length : Int) + (t182.length : Int))) x14_4 x15_4 t165 t168 t169 t170 t171 t172 t179 t182 t185 t186 = some r) ∧ Aside0 (kq ≤ kj17) ∧ Aside0 (Kd.R Kd.string 9 w' w.heap.size (fun k_ => some k_ ≠ (.map (some wc.heap.size) : Value).ownBlock ∧ some k_ ≠ ((.slice Ao22 t179.length co22) : Value).ownBlock ∧ some k_ ≠ ((.slice Ao25 t182.length co25) : Value).ownBlock) (.slice Ao14 t173.length co14) t173) ∧ Aside0 (PgMapS.MS w' w.heap.size (.map (some wc.heap.size)) x14_4) ∧ Aside0 (Kd.S k50 50 w' w.heap.size (fun _ => True) (.slice Ao9 t165.length co9) t165) ∧ Aside0 (Kd.R Kd.string 9 w' w.heap.size (fun k_ => some k_ ≠ ((.slice Ao14 t173.length co14) : Value).ownBlock ∧ some k_ ≠ (.map (some wc.heap.size) : Value).ownBlock ∧ some k_ ≠ ((.slice Ao25 t182.length co25) : Value).ownBlock) (.slice Ao22 t179.length co22) t179) ∧ Aside0 (Kd.R Kd.string 9 w' w.heap.size (fun k_ => some k_ ≠ ((.slice Ao14 t173.length co14) : Value).ownBlock ∧ some k_ ≠ (.map (some wc.heap.size) : Value).ownBlock ∧ some k_ ≠ ((.slice Ao22 t179.length co22) : Value).ownBlock) (.slice Ao25 t182.length co25) t182) ∧ Aside0 (w'.heap[gb164]? = some (.cells #[(.slice Ao9 t165.length co9), .string t168, .string t169, .string t170, .int .u64 t171, .int .i64 t172] 25 (0, 0))) ∧ Aside0 (w'.heap[gb188]? = some (.cells #[(.slice Ao22 t179.length co22), (.slice Ao25 t182.length co25), .bool t185, .string t186] 29 (0, 0))) ∧ Aside0 (Below w.heap.size w w'))
          case atStart => exact ⟨(([] : List ByteArray)), (0), (by first | rfl | (simp; done) | (simp [*]; done)), H', ⟨Nat.le_refl _⟩, ⟨by (with_reducible repeat (first | apply Kd.R_alloc | apply Kd.R_drewN | apply Kd.R_drew)); exact Kd.R_mono HO_5.out (fun _ hk => ⟨(by simp [Value.ownBlock]), ⟨hk.1, hk.2⟩⟩)⟩, ⟨PgMapS.made _ (below_size (by repeat (first | (with_reducible first | exact HB.out | apply below_alloc | apply pw_below_drewN | apply below_drew1 | refine below_set ?_ GE164.out | refine below_set ?_ GE188.out) | exact HB.out)))⟩, ⟨by (with_reducible repeat (first | apply Kd.S_alloc | apply Kd.S_drewN | apply Kd.S_drew)); exact HO_165000.out⟩, ⟨by (with_reducible repeat (first | apply Kd.R_alloc | apply Kd.R_drewN | apply Kd.R_drew)); exact Kd.R_mono HO_189000.out (fun _ hk => ⟨hk.1, ⟨(by simp [Value.ownBlock]), hk.2⟩⟩)⟩, ⟨by (with_reducible repeat (first | apply Kd.R_alloc | apply Kd.R_drewN | apply Kd.R_drew)); exact Kd.R_mono HO_189001.out (fun _ hk => ⟨hk.1, ⟨(by simp [Value.ownBlock]), hk.2⟩⟩)⟩, ⟨by (with_reducible repeat (first | refine blk_drewN ?_ _ | refine blk_drew ?_ | refine blk_alloc ?_ _)); exact BK164.out⟩, ⟨by (with_reducible repeat (first | refine blk_drewN ?_ _ | refine blk_drew ?_ | refine blk_alloc ?_ _)); exact BK188.out⟩, ⟨by repeat (first | (with_reducible first | exact HB.out | apply below_alloc | apply pw_below_drewN | apply below_drew1 | refine below_set ?_ GE164.out | refine below_set ?_ GE188.out) | exact HB.out)⟩⟩
          case round =>
           clear H'
           try clear c1
           try clear p1
           try clear q1
           try clear hx1
           try clear c2
           try clear p2
           try clear c3
           try clear c4
           try clear c5
           try clear c5b0
           try clear c5b1
           try clear p6
           try clear c12
           try clear c12b0
           try clear c15
           try clear c15b0
           try clear c16
           try clear c16b0
           try clear p17
           try clear q17
           try clear hx17
           try clear c23
           try clear c26
           try clear c26b0
           try clear c26b1
           try clear c27
           try clear c27b0
           try clear c28
           try clear c28b0
           try clear c28b1
           try clear c28b2
           try clear c29
           try clear c31
           try clear c32
           try clear c34
           try clear c36
           try clear hcz10_0
           try clear hcz10_1
           try clear hcz10_2
           try clear hcz10_3
           try clear hcz10_4
           try clear hcz10_5
           try clear hcz19_0
           try clear hcz19_1
           try clear hcz19_2
           try clear hcz19_3
           try clear hcz19_4
           try clear hcz19_5
           try clear hcz24_0
           try clear hcz24_1
           try clear hcz24_2
           try clear hcz24_3
           try clear hcz30_0
           try clear hcz30_1
           try clear hcz30_2
           try clear hcz30_3
           try clear hcz33_0
           try clear hcz33_1
           try clear hcz33_2
           try clear hcz33_3
           try clear hcz35_0
           try clear hcz35_1
           try clear hcz35_2
           try clear hcz35_3
           try clear hcz7_0
           try clear hcz7_1
           try clear hcz7_2
           try clear hcz7_3
           try clear hcz7_4
           try clear hcz7_5
           try clear hfz10_0
           try clear hfz10_1
           try clear hfz10_2
           try clear hfz10_3
           try clear hfz10_4
           try clear hfz10_5
           try clear hfz19_0
           try clear hfz19_1
           try clear hfz19_2
           try clear hfz19_3
           try clear hfz19_4
           try clear hfz19_5
           try clear hfz24_0
           try clear hfz24_1
           try clear hfz24_2
           try clear hfz24_3
           try clear hfz30_0
           try clear hfz30_1
           try clear hfz30_2
           try clear hfz30_3
           try clear hfz33_0
           try clear hfz33_1
           try clear hfz33_2
           try clear hfz33_3
           try clear hfz35_0
           try clear hfz35_1
           try clear hfz35_2
           try clear hfz35_3
           try clear hfz7_0
           try clear hfz7_1
           try clear hfz7_2
           try clear hfz7_3
           try clear hfz7_4
           try clear hfz7_5
           try clear hx178_0
           try clear p1
           try clear p17
           try clear p178
           try clear p2
           try clear p6
           try clear q1
           try clear q17
           try clear q178
           obtain ⟨x14_4, x15_4, rfl, HA, HK4, HO_5, HO_14, HO_165000, HO_189000, HO_189001, BK164, BK188, HB⟩ := hrel
           cases gk with
           | zero => exact absurd HA.out (by simp [cellarerlaw07_PagerWhole.l1])
           | succ k4 =>
            have H := HA.out
            clear HA
            simp only [cellarerlaw07_PagerWhole.l1] at H
            by_cases c37 : x15_4 < (t179.length : Int)
            ·rw [if_pos c37] at H
             have c37b0 : decide (x15_4 < (t179.length : Int)) = true := decide_eq_true c37
             clear c37
             by_cases c38 : 0 ≤ x15_4
             ·rw [if_pos c38] at H
              have c38b0 : decide (0 ≤ x15_4) = true := decide_eq_true c38
              clear c38
              by_cases c39 : (x14_4.length < 8796093022208 ∧ (rdOf ByteArray.empty t179 x15_4).size ≤ 1000000)
              ·rw [if_pos c39] at H
               have LMc39 := Aside0.mk c39
               clear c39
               obtain ⟨y190, hy190⟩ : ∃ y_ : List ByteArray, y_ = (x14_4 ++ [rdOf ByteArray.empty t179 x15_4]) := ⟨_, rfl⟩
               replace H : (cellarerlaw07_PagerWhole.l1 k4 l1 t173 x8_1 x9_1 (wrap64 ((t179.length : Int) + (t182.length : Int))) y190 (wrap64 (x15_4 + 1)) t165 t168 t169 t170 t171 t172 t179 t182 t185 t186) = some r := by first | (rw [hy190]; with_reducible exact H) | (have H2_ := (Option.bind_some _ _).symm.trans H; rw [hy190]; with_reducible exact H2_) | (have H2_ := (Option.bind_some _ _).symm.trans H; with_reducible exact H2_) | with_reducible exact H | (rw [hy190]; exact H) | exact H
               have Ny190 := Aside0.mk hy190
               clear hy190
               have H' := Aside0.mk H
               clear H
               have hnb40 := NB188_164.out
               have hnc40 := NB164_188.out
               have hcz41_0 : wr.cell? ⟨gb188, 0, none⟩ = some (.slice Ao22 t179.length co22) := (blk_cell BK188.out 0).trans rfl
               have hcz41_1 : wr.cell? ⟨gb188, 1, none⟩ = some (.slice Ao25 t182.length co25) := (blk_cell BK188.out 1).trans rfl
               have hcz41_2 : wr.cell? ⟨gb188, 2, none⟩ = some (.bool t185) := (blk_cell BK188.out 2).trans rfl
               have hcz41_3 : wr.cell? ⟨gb188, 3, none⟩ = some (.string t186) := (blk_cell BK188.out 3).trans rfl
               have hfz41_0 := blk_frozen BK188.out 0
               have hfz41_1 := blk_frozen BK188.out 1
               have hfz41_2 := blk_frozen BK188.out 2
               have hfz41_3 := blk_frozen BK188.out 3
               have p189 : 0 ≤ (x15_4 : Int) := of_decide_eq_true (by first | (with_reducible assumption) | assumption)
               have q189 : x15_4 < (t179.length : Int) := of_decide_eq_true (by first | (with_reducible assumption) | assumption)
               obtain ⟨ad189, e189, hx189_0⟩ := Kd.at_string (Kd.R_reads' HO_189000.out).2.2 x15_4 p189 q189
               cases e189
               replace p189 := eq_true p189
               replace q189 := eq_true q189
               go_wp2_with (first | (at_mapUpdate; refine PgMapS.update (base := w.heap.size) (u := (.map (some wc.heap.size))) (xs := x14_4) (s := (rdOf ByteArray.empty t179 x15_4)) rfl _ _ _ rfl rfl ?ms rfl ?sz rfl ?len ?_; (case ms => exact (by (with_reducible repeat (first | apply PgMapS.MS_alloc | apply PgMapS.MS_drewN | apply PgMapS.MS_drew)); exact HO_14.out)); (case sz => exact Nat.le_trans LMc39.out.2 (by decide)); (case len => have := LMc39.out.1; unfold maxLen; omega); intro w42 ho ht_; rw [← Ny190.out] at ho; have n0_ := Aside0.mk (PgMapS.R_turn (by (with_reducible repeat (first | apply Kd.R_alloc | apply Kd.R_drewN | apply Kd.R_drew)); exact HO_5.out) ht_); have n1_ := Aside0.mk (PgMapS.S_turn (by (with_reducible repeat (first | apply Kd.S_alloc | apply Kd.S_drewN | apply Kd.S_drew)); exact HO_165000.out) ht_); have n2_ := Aside0.mk (PgMapS.R_turn (by (with_reducible repeat (first | apply Kd.R_alloc | apply Kd.R_drewN | apply Kd.R_drew)); exact HO_189000.out) ht_); have n3_ := Aside0.mk (PgMapS.R_turn (by (with_reducible repeat (first | apply Kd.R_alloc | apply Kd.R_drewN | apply Kd.R_drew)); exact HO_189001.out) ht_); have n4_ := Aside0.mk (PgMapS.blk_turn (by (with_reducible repeat (first | refine blk_drewN ?_ _ | refine blk_drew ?_ | refine blk_alloc ?_ _)); exact BK164.out) ht_); have n5_ := Aside0.mk (PgMapS.blk_turn (by (with_reducible repeat (first | refine blk_drewN ?_ _ | refine blk_drew ?_ | refine blk_alloc ?_ _)); exact BK188.out) ht_); have n6_ := Aside0.mk (PgMapS.below_turn (by repeat (first | (with_reducible first | exact HB.out | apply below_alloc | apply pw_below_drewN | apply below_drew1 | refine below_set ?_ GE164.out | refine below_set ?_ GE188.out) | exact HB.out)) ht_); have n7_ := Aside0.mk ho; clear HO_5 HO_165000 HO_189000 HO_189001 BK164 BK188 HB HO_14; have HO_5 := n0_; have HO_165000 := n1_; have HO_189000 := n2_; have HO_189001 := n3_; have BK164 := n4_; have BK188 := n5_; have HB := n6_; have HO192 := n7_; clear n0_ n1_ n2_ n3_ n4_ n5_ n6_ n7_ ho ht_))
               go_roundg k4
               case measure => have := HK1.out; have := HJ12.out; have := HJ17.out; have := HK4.out; omega
               case rel => exact ⟨(y190), (wrap64 (x15_4 + 1)), (by first | rfl | (simp; done) | (simp [*]; done)), H', ⟨by have := HK1.out; have := HJ12.out; have := HJ17.out; have := HK4.out; omega⟩, ⟨by (with_reducible repeat (first | apply Kd.R_alloc | apply Kd.R_drewN | apply Kd.R_drew)); exact HO_5.out⟩, ⟨by (with_reducible repeat (first | apply PgMapS.MS_alloc | apply PgMapS.MS_drewN | apply PgMapS.MS_drew)); exact HO192.out⟩, ⟨by (with_reducible repeat (first | apply Kd.S_alloc | apply Kd.S_drewN | apply Kd.S_drew)); exact HO_165000.out⟩, ⟨by (with_reducible repeat (first | apply Kd.R_alloc | apply Kd.R_drewN | apply Kd.R_drew)); exact HO_189000.out⟩, ⟨by (with_reducible repeat (first | apply Kd.R_alloc | apply Kd.R_drewN | apply Kd.R_drew)); exact HO_189001.out⟩, ⟨by (with_reducible repeat (first | refine blk_drewN ?_ _ | refine blk_drew ?_ | refine blk_alloc ?_ _)); exact BK164.out⟩, ⟨by (with_reducible repeat (first | refine blk_drewN ?_ _ | refine blk_drew ?_ | refine blk_alloc ?_ _)); exact BK188.out⟩, ⟨by repeat (first | (with_reducible first | exact HB.out | apply below_alloc | apply pw_below_drewN | apply below_drew1 | refine below_set ?_ GE164.out | refine below_set ?_ GE188.out) | exact HB.out)⟩⟩
              ·rw [if_neg c39] at H
               exact absurd H (by simp)
             ·rw [if_neg c38] at H
              exact absurd H (by simp)
            ·rw [if_neg c37] at H
             have c37b0 : decide (x15_4 < (t179.length : Int)) = false := decide_eq_false c37
             clear c37
             have H' := Aside0.mk H
             clear H
             have hnb43 := NB188_164.out
             have hnc43 := NB164_188.out
             have hcz44_0 : wr.cell? ⟨gb188, 0, none⟩ = some (.slice Ao22 t179.length co22) := (blk_cell BK188.out 0).trans rfl
             have hcz44_1 : wr.cell? ⟨gb188, 1, none⟩ = some (.slice Ao25 t182.length co25) := (blk_cell BK188.out 1).trans rfl
             have hcz44_2 : wr.cell? ⟨gb188, 2, none⟩ = some (.bool t185) := (blk_cell BK188.out 2).trans rfl
             have hcz44_3 : wr.cell? ⟨gb188, 3, none⟩ = some (.string t186) := (blk_cell BK188.out 3).trans rfl
             have hfz44_0 := blk_frozen BK188.out 0
             have hfz44_1 := blk_frozen BK188.out 1
             have hfz44_2 := blk_frozen BK188.out 2
             have hfz44_3 := blk_frozen BK188.out 3
             go_wp2
             repeat (go_quiet (fail); try go_wp2)
             go_loopg [16] k4 (fun kq v16 w' => ∃ (x14_5 : List ByteArray) (x16_5 : Int), v16 = .int .i64 x16_5 ∧ Aside0 (cellarerlaw07_PagerWhole.l2 kq l1 t173 x8_1 x9_1 (wrap64 ((t179.length : Int) + (t182.length : Int))) x14_5 x16_5 t165 t168 t169 t170 t171 t172 t179 t182 t185 t186 = some r) ∧ Aside0 (kq ≤ k4) ∧ Aside0 (Kd.R Kd.string 9 w' w.heap.size (fun k_ => some k_ ≠ (.map (some wc.heap.size) : Value).ownBlock ∧ some k_ ≠ ((.slice Ao22 t179.length co22) : Value).ownBlock ∧ some k_ ≠ ((.slice Ao25 t182.length co25) : Value).ownBlock) (.slice Ao14 t173.length co14) t173) ∧ Aside0 (PgMapS.MS w' w.heap.size (.map (some wc.heap.size)) x14_5) ∧ Aside0 (Kd.S k50 50 w' w.heap.size (fun _ => True) (.slice Ao9 t165.length co9) t165) ∧ Aside0 (Kd.R Kd.string 9 w' w.heap.size (fun k_ => some k_ ≠ ((.slice Ao14 t173.length co14) : Value).ownBlock ∧ some k_ ≠ (.map (some wc.heap.size) : Value).ownBlock ∧ some k_ ≠ ((.slice Ao25 t182.length co25) : Value).ownBlock) (.slice Ao22 t179.length co22) t179) ∧ Aside0 (Kd.R Kd.string 9 w' w.heap.size (fun k_ => some k_ ≠ ((.slice Ao14 t173.length co14) : Value).ownBlock ∧ some k_ ≠ (.map (some wc.heap.size) : Value).ownBlock ∧ some k_ ≠ ((.slice Ao22 t179.length co22) : Value).ownBlock) (.slice Ao25 t182.length co25) t182) ∧ Aside0 (w'.heap[gb164]? = some (.cells #[(.slice Ao9 t165.length co9), .string t168, .string t169, .string t170, .int .u64 t171, .int .i64 t172] 25 (0, 0))) ∧ Aside0 (w'.heap[gb188]? = some (.cells #[(.slice Ao22 t179.length co22), (.slice Ao25 t182.length co25), .bool t185, .string t186] 29 (0, 0))) ∧ Aside0 (Below w.heap.size w w'))
             case atStart => exact ⟨(x14_4), (0), (by first | rfl | (simp; done) | (simp [*]; done)), H', ⟨Nat.le_refl _⟩, ⟨by (with_reducible repeat (first | apply Kd.R_alloc | apply Kd.R_drewN | apply Kd.R_drew)); exact HO_5.out⟩, ⟨by (with_reducible repeat (first | apply PgMapS.MS_alloc | apply PgMapS.MS_drewN | apply PgMapS.MS_drew)); exact HO_14.out⟩, ⟨by (with_reducible repeat (first | apply Kd.S_alloc | apply Kd.S_drewN | apply Kd.S_drew)); exact HO_165000.out⟩, ⟨by (with_reducible repeat (first | apply Kd.R_alloc | apply Kd.R_drewN | apply Kd.R_drew)); exact HO_189000.out⟩, ⟨by (with_reducible repeat (first | apply Kd.R_alloc | apply Kd.R_drewN | apply Kd.R_drew)); exact HO_189001.out⟩, ⟨by (with_reducible repeat (first | refine blk_drewN ?_ _ | refine blk_drew ?_ | refine blk_alloc ?_ _)); exact BK164.out⟩, ⟨by (with_reducible repeat (first | refine blk_drewN ?_ _ | refine blk_drew ?_ | refine blk_alloc ?_ _)); exact BK188.out⟩, ⟨by repeat (first | (with_reducible first | exact HB.out | apply below_alloc | apply pw_below_drewN | apply below_drew1 | refine below_set ?_ GE164.out | refine below_set ?_ GE188.out) | exact HB.out)⟩⟩
             case round =>
              clear H'
              try clear c1
              try clear p1
              try clear q1
              try clear hx1
              try clear c2
              try clear p2
              try clear c3
              try clear c4
              try clear c5
              try clear c5b0
              try clear c5b1
              try clear p6
              try clear c12
              try clear c12b0
              try clear c15
              try clear c15b0
              try clear c16
              try clear c16b0
              try clear p17
              try clear q17
              try clear hx17
              try clear p18
              try clear q18
              try clear hx18
              try clear c23
              try clear c26
              try clear c26b0
              try clear c26b1
              try clear c27
              try clear c27b0
              try clear c28
              try clear c28b0
              try clear c28b1
              try clear c28b2
              try clear c29
              try clear c31
              try clear c32
              try clear c34
              try clear c36
              try clear c37
              try clear c37b0
              try clear c38
              try clear c38b0
              try clear c39
              try clear c40
              try clear c43
              try clear hcz10_0
              try clear hcz10_1
              try clear hcz10_2
              try clear hcz10_3
              try clear hcz10_4
              try clear hcz10_5
              try clear hcz19_0
              try clear hcz19_1
              try clear hcz19_2
              try clear hcz19_3
              try clear hcz19_4
              try clear hcz19_5
              try clear hcz24_0
              try clear hcz24_1
              try clear hcz24_2
              try clear hcz24_3
              try clear hcz30_0
              try clear hcz30_1
              try clear hcz30_2
              try clear hcz30_3
              try clear hcz33_0
              try clear hcz33_1
              try clear hcz33_2
              try clear hcz33_3
              try clear hcz35_0
              try clear hcz35_1
              try clear hcz35_2
              try clear hcz35_3
              try clear hcz41_0
              try clear hcz41_1
              try clear hcz41_2
              try clear hcz41_3
              try clear hcz44_0
              try clear hcz44_1
              try clear hcz44_2
              try clear hcz44_3
              try clear hcz7_0
              try clear hcz7_1
              try clear hcz7_2
              try clear hcz7_3
              try clear hcz7_4
              try clear hcz7_5
              try clear hfz10_0
              try clear hfz10_1
              try clear hfz10_2
              try clear hfz10_3
              try clear hfz10_4
              try clear hfz10_5
              try clear hfz19_0
              try clear hfz19_1
              try clear hfz19_2
              try clear hfz19_3
              try clear hfz19_4
              try clear hfz19_5
              try clear hfz24_0
              try clear hfz24_1
              try clear hfz24_2
              try clear hfz24_3
              try clear hfz30_0
              try clear hfz30_1
              try clear hfz30_2
              try clear hfz30_3
              try clear hfz33_0
              try clear hfz33_1
              try clear hfz33_2
              try clear hfz33_3
              try clear hfz35_0
              try clear hfz35_1
              try clear hfz35_2
              try clear hfz35_3
              try clear hfz41_0
              try clear hfz41_1
              try clear hfz41_2
              try clear hfz41_3
              try clear hfz44_0
              try clear hfz44_1
              try clear hfz44_2
              try clear hfz44_3
              try clear hfz7_0
              try clear hfz7_1
              try clear hfz7_2
              try clear hfz7_3
              try clear hfz7_4
              try clear hfz7_5
              try clear hx178_0
              try clear hx189_0
              try clear p1
              try clear p17
              try clear p178
              try clear p189
              try clear p2
              try clear p6
              try clear q1
              try clear q17
              try clear q178
              try clear q189
              obtain ⟨x14_5, x16_5, rfl, HA, HK5, HO_5, HO_14, HO_165000, HO_189000, HO_189001, BK164, BK188, HB⟩ := hrel
              cases gk with
              | zero => exact absurd HA.out (by simp [cellarerlaw07_PagerWhole.l2])
              | succ k5 =>
               have H := HA.out
               clear HA
               simp only [cellarerlaw07_PagerWhole.l2] at H
               by_cases c45 : x16_5 < (t182.length : Int)
               ·rw [if_pos c45] at H
                have c45b0 : decide (x16_5 < (t182.length : Int)) = true := decide_eq_true c45
                clear c45
                by_cases c46 : 0 ≤ x16_5
                ·rw [if_pos c46] at H
                 have c46b0 : decide (0 ≤ x16_5) = true := decide_eq_true c46
                 clear c46
                 by_cases c47 : (x14_5.length < 8796093022208 ∧ (rdOf ByteArray.empty t182 x16_5).size ≤ 1000000)
                 ·rw [if_pos c47] at H
                  have LMc47 := Aside0.mk c47
                  clear c47
                  obtain ⟨y194, hy194⟩ : ∃ y_ : List ByteArray, y_ = (x14_5 ++ [rdOf ByteArray.empty t182 x16_5]) := ⟨_, rfl⟩
                  replace H : (cellarerlaw07_PagerWhole.l2 k5 l1 t173 x8_1 x9_1 (wrap64 ((t179.length : Int) + (t182.length : Int))) y194 (wrap64 (x16_5 + 1)) t165 t168 t169 t170 t171 t172 t179 t182 t185 t186) = some r := by first | (rw [hy194]; with_reducible exact H) | (have H2_ := (Option.bind_some _ _).symm.trans H; rw [hy194]; with_reducible exact H2_) | (have H2_ := (Option.bind_some _ _).symm.trans H; with_reducible exact H2_) | with_reducible exact H | (rw [hy194]; exact H) | exact H
                  have Ny194 := Aside0.mk hy194
                  clear hy194
                  have H' := Aside0.mk H
                  clear H
                  have hnb48 := NB188_164.out
                  have hnc48 := NB164_188.out
                  have hcz49_0 : wr.cell? ⟨gb188, 0, none⟩ = some (.slice Ao22 t179.length co22) := (blk_cell BK188.out 0).trans rfl
                  have hcz49_1 : wr.cell? ⟨gb188, 1, none⟩ = some (.slice Ao25 t182.length co25) := (blk_cell BK188.out 1).trans rfl
                  have hcz49_2 : wr.cell? ⟨gb188, 2, none⟩ = some (.bool t185) := (blk_cell BK188.out 2).trans rfl
                  have hcz49_3 : wr.cell? ⟨gb188, 3, none⟩ = some (.string t186) := (blk_cell BK188.out 3).trans rfl
                  have hfz49_0 := blk_frozen BK188.out 0
                  have hfz49_1 := blk_frozen BK188.out 1
                  have hfz49_2 := blk_frozen BK188.out 2
                  have hfz49_3 := blk_frozen BK188.out 3
                  have p193 : 0 ≤ (x16_5 : Int) := of_decide_eq_true (by first | (with_reducible assumption) | assumption)
                  have q193 : x16_5 < (t182.length : Int) := of_decide_eq_true (by first | (with_reducible assumption) | assumption)
                  obtain ⟨ad193, e193, hx193_0⟩ := Kd.at_string (Kd.R_reads' HO_189001.out).2.2 x16_5 p193 q193
                  cases e193
                  replace p193 := eq_true p193
                  replace q193 := eq_true q193
                  go_wp2_with (first | (at_mapUpdate; refine PgMapS.update (base := w.heap.size) (u := (.map (some wc.heap.size))) (xs := x14_5) (s := (rdOf ByteArray.empty t182 x16_5)) rfl _ _ _ rfl rfl ?ms rfl ?sz rfl ?len ?_; (case ms => exact (by (with_reducible repeat (first | apply PgMapS.MS_alloc | apply PgMapS.MS_drewN | apply PgMapS.MS_drew)); exact HO_14.out)); (case sz => exact Nat.le_trans LMc47.out.2 (by decide)); (case len => have := LMc47.out.1; unfold maxLen; omega); intro w42 ho ht_; rw [← Ny194.out] at ho; have n0_ := Aside0.mk (PgMapS.R_turn (by (with_reducible repeat (first | apply Kd.R_alloc | apply Kd.R_drewN | apply Kd.R_drew)); exact HO_5.out) ht_); have n1_ := Aside0.mk (PgMapS.S_turn (by (with_reducible repeat (first | apply Kd.S_alloc | apply Kd.S_drewN | apply Kd.S_drew)); exact HO_165000.out) ht_); have n2_ := Aside0.mk (PgMapS.R_turn (by (with_reducible repeat (first | apply Kd.R_alloc | apply Kd.R_drewN | apply Kd.R_drew)); exact HO_189000.out) ht_); have n3_ := Aside0.mk (PgMapS.R_turn (by (with_reducible repeat (first | apply Kd.R_alloc | apply Kd.R_drewN | apply Kd.R_drew)); exact HO_189001.out) ht_); have n4_ := Aside0.mk (PgMapS.blk_turn (by (with_reducible repeat (first | refine blk_drewN ?_ _ | refine blk_drew ?_ | refine blk_alloc ?_ _)); exact BK164.out) ht_); have n5_ := Aside0.mk (PgMapS.blk_turn (by (with_reducible repeat (first | refine blk_drewN ?_ _ | refine blk_drew ?_ | refine blk_alloc ?_ _)); exact BK188.out) ht_); have n6_ := Aside0.mk (PgMapS.below_turn (by repeat (first | (with_reducible first | exact HB.out | apply below_alloc | apply pw_below_drewN | apply below_drew1 | refine below_set ?_ GE164.out | refine below_set ?_ GE188.out) | exact HB.out)) ht_); have n7_ := Aside0.mk ho; clear HO_5 HO_165000 HO_189000 HO_189001 BK164 BK188 HB HO_14; have HO_5 := n0_; have HO_165000 := n1_; have HO_189000 := n2_; have HO_189001 := n3_; have BK164 := n4_; have BK188 := n5_; have HB := n6_; have HO196 := n7_; clear n0_ n1_ n2_ n3_ n4_ n5_ n6_ n7_ ho ht_))
                  go_roundg k5
                  case measure => have := HK1.out; have := HJ12.out; have := HJ17.out; have := HK4.out; have := HK5.out; omega
                  case rel => exact ⟨(y194), (wrap64 (x16_5 + 1)), (by first | rfl | (simp; done) | (simp [*]; done)), H', ⟨by have := HK1.out; have := HJ12.out; have := HJ17.out; have := HK4.out; have := HK5.out; omega⟩, ⟨by (with_reducible repeat (first | apply Kd.R_alloc | apply Kd.R_drewN | apply Kd.R_drew)); exact HO_5.out⟩, ⟨by (with_reducible repeat (first | apply PgMapS.MS_alloc | apply PgMapS.MS_drewN | apply PgMapS.MS_drew)); exact HO196.out⟩, ⟨by (with_reducible repeat (first | apply Kd.S_alloc | apply Kd.S_drewN | apply Kd.S_drew)); exact HO_165000.out⟩, ⟨by (with_reducible repeat (first | apply Kd.R_alloc | apply Kd.R_drewN | apply Kd.R_drew)); exact HO_189000.out⟩, ⟨by (with_reducible repeat (first | apply Kd.R_alloc | apply Kd.R_drewN | apply Kd.R_drew)); exact HO_189001.out⟩, ⟨by (with_reducible repeat (first | refine blk_drewN ?_ _ | refine blk_drew ?_ | refine blk_alloc ?_ _)); exact BK164.out⟩, ⟨by (with_reducible repeat (first | refine blk_drewN ?_ _ | refine blk_drew ?_ | refine blk_alloc ?_ _)); exact BK188.out⟩, ⟨by repeat (first | (with_reducible first | exact HB.out | apply below_alloc | apply pw_below_drewN | apply below_drew1 | refine below_set ?_ GE164.out | refine below_set ?_ GE188.out) | exact HB.out)⟩⟩
                 ·rw [if_neg c47] at H
                  exact absurd H (by simp)
                ·rw [if_neg c46] at H
                 exact absurd H (by simp)
               ·rw [if_neg c45] at H
                have c45b0 : decide (x16_5 < (t182.length : Int)) = false := decide_eq_false c45
                clear c45
                have H' := Aside0.mk H
                clear H
                have hnb51 := NB188_164.out
                have hnc51 := NB164_188.out
                have hcz52_0 : wr.cell? ⟨gb188, 0, none⟩ = some (.slice Ao22 t179.length co22) := (blk_cell BK188.out 0).trans rfl
                have hcz52_1 : wr.cell? ⟨gb188, 1, none⟩ = some (.slice Ao25 t182.length co25) := (blk_cell BK188.out 1).trans rfl
                have hcz52_2 : wr.cell? ⟨gb188, 2, none⟩ = some (.bool t185) := (blk_cell BK188.out 2).trans rfl
                have hcz52_3 : wr.cell? ⟨gb188, 3, none⟩ = some (.string t186) := (blk_cell BK188.out 3).trans rfl
                have hfz52_0 := blk_frozen BK188.out 0
                have hfz52_1 := blk_frozen BK188.out 1
                have hfz52_2 := blk_frozen BK188.out 2
                have hfz52_3 := blk_frozen BK188.out 3
                go_wp2
                repeat (go_quiet (fail); try go_wp2)
                go_loopg [17] k5 (fun kq v17 w' => ∃ (x17_6 : Int), v17 = .int .i64 x17_6 ∧ Aside0 (cellarerlaw07_PagerWhole.l3 kq l1 t173 x8_1 x9_1 (wrap64 ((t179.length : Int) + (t182.length : Int))) x14_5 x17_6 t165 t168 t169 t170 t171 t172 t179 t182 t185 t186 = some r) ∧ Aside0 (kq ≤ k5) ∧ Aside0 (Kd.R Kd.string 9 w' w.heap.size (fun k_ => some k_ ≠ (.map (some wc.heap.size) : Value).ownBlock ∧ some k_ ≠ ((.slice Ao22 t179.length co22) : Value).ownBlock ∧ some k_ ≠ ((.slice Ao25 t182.length co25) : Value).ownBlock) (.slice Ao14 t173.length co14) t173) ∧ Aside0 (PgMapS.MS w' w.heap.size (.map (some wc.heap.size)) x14_5) ∧ Aside0 (Kd.S k50 50 w' w.heap.size (fun _ => True) (.slice Ao9 t165.length co9) t165) ∧ Aside0 (Kd.R Kd.string 9 w' w.heap.size (fun k_ => some k_ ≠ ((.slice Ao14 t173.length co14) : Value).ownBlock ∧ some k_ ≠ (.map (some wc.heap.size) : Value).ownBlock ∧ some k_ ≠ ((.slice Ao25 t182.length co25) : Value).ownBlock) (.slice Ao22 t179.length co22) t179) ∧ Aside0 (Kd.R Kd.string 9 w' w.heap.size (fun k_ => some k_ ≠ ((.slice Ao14 t173.length co14) : Value).ownBlock ∧ some k_ ≠ (.map (some wc.heap.size) : Value).ownBlock ∧ some k_ ≠ ((.slice Ao22 t179.length co22) : Value).ownBlock) (.slice Ao25 t182.length co25) t182) ∧ Aside0 (w'.heap[gb164]? = some (.cells #[(.slice Ao9 t165.length co9), .string t168, .string t169, .string t170, .int .u64 t171, .int .i64 t172] 25 (0, 0))) ∧ Aside0 (w'.heap[gb188]? = some (.cells #[(.slice Ao22 t179.length co22), (.slice Ao25 t182.length co25), .bool t185, .string t186] 29 (0, 0))) ∧ Aside0 (Below w.heap.size w w'))
                case atStart => exact ⟨(0), (by first | rfl | (simp; done) | (simp [*]; done)), H', ⟨Nat.le_refl _⟩, ⟨by (with_reducible repeat (first | apply Kd.R_alloc | apply Kd.R_drewN | apply Kd.R_drew)); exact HO_5.out⟩, ⟨by (with_reducible repeat (first | apply PgMapS.MS_alloc | apply PgMapS.MS_drewN | apply PgMapS.MS_drew)); exact HO_14.out⟩, ⟨by (with_reducible repeat (first | apply Kd.S_alloc | apply Kd.S_drewN | apply Kd.S_drew)); exact HO_165000.out⟩, ⟨by (with_reducible repeat (first | apply Kd.R_alloc | apply Kd.R_drewN | apply Kd.R_drew)); exact HO_189000.out⟩, ⟨by (with_reducible repeat (first | apply Kd.R_alloc | apply Kd.R_drewN | apply Kd.R_drew)); exact HO_189001.out⟩, ⟨by (with_reducible repeat (first | refine blk_drewN ?_ _ | refine blk_drew ?_ | refine blk_alloc ?_ _)); exact BK164.out⟩, ⟨by (with_reducible repeat (first | refine blk_drewN ?_ _ | refine blk_drew ?_ | refine blk_alloc ?_ _)); exact BK188.out⟩, ⟨by repeat (first | (with_reducible first | exact HB.out | apply below_alloc | apply pw_below_drewN | apply below_drew1 | refine below_set ?_ GE164.out | refine below_set ?_ GE188.out) | exact HB.out)⟩⟩
                case round =>
                 clear H'
                 try clear c1
                 try clear p1
                 try clear q1
                 try clear hx1
                 try clear c2
                 try clear p2
                 try clear c3
                 try clear c4
                 try clear c5
                 try clear c5b0
                 try clear c5b1
                 try clear p6
                 try clear c12
                 try clear c12b0
                 try clear c15
                 try clear c15b0
                 try clear c16
                 try clear c16b0
                 try clear p17
                 try clear q17
                 try clear hx17
                 try clear p18
                 try clear q18
                 try clear hx18
                 try clear p19
                 try clear q19
                 try clear hx19
                 try clear c23
                 try clear c26
                 try clear c26b0
                 try clear c26b1
                 try clear c27
                 try clear c27b0
                 try clear c28
                 try clear c28b0
                 try clear c28b1
                 try clear c28b2
                 try clear c29
                 try clear c31
                 try clear c32
                 try clear c34
                 try clear c36
                 try clear c37
                 try clear c37b0
                 try clear c38
                 try clear c38b0
                 try clear c39
                 try clear c40
                 try clear c43
                 try clear c45
                 try clear c45b0
                 try clear c46
                 try clear c46b0
                 try clear c47
                 try clear c48
                 try clear c51
                 try clear hcz10_0
                 try clear hcz10_1
                 try clear hcz10_2
                 try clear hcz10_3
                 try clear hcz10_4
                 try clear hcz10_5
                 try clear hcz19_0
                 try clear hcz19_1
                 try clear hcz19_2
                 try clear hcz19_3
                 try clear hcz19_4
                 try clear hcz19_5
                 try clear hcz24_0
                 try clear hcz24_1
                 try clear hcz24_2
                 try clear hcz24_3
                 try clear hcz30_0
                 try clear hcz30_1
                 try clear hcz30_2
                 try clear hcz30_3
                 try clear hcz33_0
                 try clear hcz33_1
                 try clear hcz33_2
                 try clear hcz33_3
                 try clear hcz35_0
                 try clear hcz35_1
                 try clear hcz35_2
                 try clear hcz35_3
                 try clear hcz41_0
                 try clear hcz41_1
                 try clear hcz41_2
                 try clear hcz41_3
                 try clear hcz44_0
                 try clear hcz44_1
                 try clear hcz44_2
                 try clear hcz44_3
                 try clear hcz49_0
                 try clear hcz49_1
                 try clear hcz49_2
                 try clear hcz49_3
                 try clear hcz52_0
                 try clear hcz52_1
                 try clear hcz52_2
                 try clear hcz52_3
                 try clear hcz7_0
                 try clear hcz7_1
                 try clear hcz7_2
                 try clear hcz7_3
                 try clear hcz7_4
                 try clear hcz7_5
                 try clear hfz10_0
                 try clear hfz10_1
                 try clear hfz10_2
                 try clear hfz10_3
                 try clear hfz10_4
                 try clear hfz10_5
                 try clear hfz19_0
                 try clear hfz19_1
                 try clear hfz19_2
                 try clear hfz19_3
                 try clear hfz19_4
                 try clear hfz19_5
                 try clear hfz24_0
                 try clear hfz24_1
                 try clear hfz24_2
                 try clear hfz24_3
                 try clear hfz30_0
                 try clear hfz30_1
                 try clear hfz30_2
                 try clear hfz30_3
                 try clear hfz33_0
                 try clear hfz33_1
                 try clear hfz33_2
                 try clear hfz33_3
                 try clear hfz35_0
                 try clear hfz35_1
                 try clear hfz35_2
                 try clear hfz35_3
                 try clear hfz41_0
                 try clear hfz41_1
                 try clear hfz41_2
                 try clear hfz41_3
                 try clear hfz44_0
                 try clear hfz44_1
                 try clear hfz44_2
                 try clear hfz44_3
                 try clear hfz49_0
                 try clear hfz49_1
                 try clear hfz49_2
                 try clear hfz49_3
                 try clear hfz52_0
                 try clear hfz52_1
                 try clear hfz52_2
                 try clear hfz52_3
                 try clear hfz7_0
                 try clear hfz7_1
                 try clear hfz7_2
                 try clear hfz7_3
                 try clear hfz7_4
                 try clear hfz7_5
                 try clear hx178_0
                 try clear hx189_0
                 try clear hx193_0
                 try clear p1
                 try clear p17
                 try clear p178
                 try clear p18
                 try clear p189
                 try clear p193
                 try clear p2
                 try clear p6
                 try clear q1
                 try clear q17
                 try clear q178
                 try clear q18
                 try clear q189
                 try clear q193
                 obtain ⟨x17_6, rfl, HA, HK6, HO_5, HO_14, HO_165000, HO_189000, HO_189001, BK164, BK188, HB⟩ := hrel
                 cases gk with
                 | zero => exact absurd HA.out (by simp [cellarerlaw07_PagerWhole.l3])
                 | succ k6 =>
                  have H := HA.out
                  clear HA
                  simp only [cellarerlaw07_PagerWhole.l3] at H
                  by_cases c53 : x17_6 < (wrap64 ((t179.length : Int) + (t182.length : Int)))
                  ·rw [if_pos c53] at H
                   have c53b0 : decide (x17_6 < (wrap64 ((t179.length : Int) + (t182.length : Int)))) = true := decide_eq_true c53
                   clear c53
                   obtain ⟨ji54, hji54⟩ : ∃ j_ : Int, (wrap64 (x8_1 + x17_6)) = j_ := ⟨_, rfl⟩
                   replace H : (if 0 ≤ (ji54) then (if (ji54) < (t173.length : Int) then ((PgMapS.hasAt x14_5 (rdOf ByteArray.empty t173 (ji54))).bind fun t198 => (if t198 = true then (cellarerlaw07_PagerWhole.l3 k6 l1 t173 x8_1 x9_1 (wrap64 ((t179.length : Int) + (t182.length : Int))) x14_5 (wrap64 (x17_6 + 1)) t165 t168 t169 t170 t171 t172 t179 t182 t185 t186) else (some false))) else (none)) else (none)) = some r := by first | (rw [hji54] at H; exact H) | (simp only [hji54] at H ⊢; exact H)
                   have hji54w : (IntKind.i64.wrap (x8_1 + x17_6)) = ji54 := (i64_w _).trans hji54
                   by_cases c55 : 0 ≤ (ji54)
                   ·rw [if_pos c55] at H
                    have c55b0 : decide (0 ≤ (ji54)) = true := decide_eq_true c55
                    clear c55
                    by_cases c56 : (ji54) < (t173.length : Int)
                    ·rw [if_pos c56] at H
                     have c56b0 : decide ((ji54) < (t173.length : Int)) = true := decide_eq_true c56
                     clear c56
                     replace H := Option.bind_eq_some_iff.mp H
                     obtain ⟨t198, A570, H⟩ := H
                     replace H : (if t198 = true then (cellarerlaw07_PagerWhole.l3 k6 l1 t173 x8_1 x9_1 (wrap64 ((t179.length : Int) + (t182.length : Int))) x14_5 (wrap64 (x17_6 + 1)) t165 t168 t169 t170 t171 t172 t179 t182 t185 t186) else (some false)) = some r := H
                     have A57 := Aside0.mk A570
                     clear A570
                     by_cases c58 : t198 = true
                     ·subst c58
                      have H1 : (cellarerlaw07_PagerWhole.l3 k6 l1 t173 x8_1 x9_1 (wrap64 ((t179.length : Int) + (t182.length : Int))) x14_5 (wrap64 (x17_6 + 1)) t165 t168 t169 t170 t171 t172 t179 t182 t185 t186) = some r := by rw [if_pos rfl] at H; exact H
                      clear H
                      have H := H1
                      clear H1
                      have H' := Aside0.mk H
                      clear H
                      have p197 : 0 ≤ ((ji54) : Int) := of_decide_eq_true (by first | (with_reducible assumption) | assumption)
                      have q197 : (ji54) < (t173.length : Int) := of_decide_eq_true (by first | (with_reducible assumption) | assumption)
                      obtain ⟨ad197, e197, hx197_0⟩ := Kd.at_string (Kd.R_reads' HO_5.out).2.2 (ji54) p197 q197
                      cases e197
                      replace p197 := eq_true p197
                      replace q197 := eq_true q197
                      go_wp2_with (first | (at_lookup; refine PgMapS.look (base := w.heap.size) (xs := x14_5) (s := (rdOf ByteArray.empty t173 (ji54))) (b := true) rfl _ _ rfl rfl ?ms rfl A57.out ?_; (case ms => exact (by (with_reducible repeat (first | apply PgMapS.MS_alloc | apply PgMapS.MS_drewN | apply PgMapS.MS_drew)); exact HO_14.out))))
                      go_roundg k6
                      case measure => have := HK1.out; have := HJ12.out; have := HJ17.out; have := HK4.out; have := HK5.out; have := HK6.out; omega
                      case rel => exact ⟨(wrap64 (x17_6 + 1)), (by first | rfl | (simp; done) | (simp [*]; done)), H', ⟨by have := HK1.out; have := HJ12.out; have := HJ17.out; have := HK4.out; have := HK5.out; have := HK6.out; omega⟩, ⟨by (with_reducible repeat (first | apply Kd.R_alloc | apply Kd.R_drewN | apply Kd.R_drew)); exact HO_5.out⟩, ⟨by (with_reducible repeat (first | apply PgMapS.MS_alloc | apply PgMapS.MS_drewN | apply PgMapS.MS_drew)); exact HO_14.out⟩, ⟨by (with_reducible repeat (first | apply Kd.S_alloc | apply Kd.S_drewN | apply Kd.S_drew)); exact HO_165000.out⟩, ⟨by (with_reducible repeat (first | apply Kd.R_alloc | apply Kd.R_drewN | apply Kd.R_drew)); exact HO_189000.out⟩, ⟨by (with_reducible repeat (first | apply Kd.R_alloc | apply Kd.R_drewN | apply Kd.R_drew)); exact HO_189001.out⟩, ⟨by (with_reducible repeat (first | refine blk_drewN ?_ _ | refine blk_drew ?_ | refine blk_alloc ?_ _)); exact BK164.out⟩, ⟨by (with_reducible repeat (first | refine blk_drewN ?_ _ | refine blk_drew ?_ | refine blk_alloc ?_ _)); exact BK188.out⟩, ⟨by repeat (first | (with_reducible first | exact HB.out | apply below_alloc | apply pw_below_drewN | apply below_drew1 | refine below_set ?_ GE164.out | refine below_set ?_ GE188.out) | exact HB.out)⟩⟩
                     ·replace c58 := Bool.eq_false_iff.mpr c58
                      subst c58
                      have H1 : (some false) = some r := by rw [if_neg (show ¬ (false = true) by decide)] at H; exact H
                      clear H
                      have H := H1
                      clear H1
                      obtain rfl := Option.some.inj H
                      exact absurd HTR_.out (by decide)
                    ·rw [if_neg c56] at H
                     exact absurd H (by simp)
                   ·rw [if_neg c55] at H
                    exact absurd H (by simp)
                  ·rw [if_neg c53] at H
                   have c53b0 : decide (x17_6 < (wrap64 ((t179.length : Int) + (t182.length : Int)))) = false := decide_eq_false c53
                   clear c53
                   by_cases c63 : t185 = true
                   ·subst c63
                    have H1 : (if 0 ≤ (wrap64 ((wrap64 (x8_1 + (wrap64 ((t179.length : Int) + (t182.length : Int))))) - 1)) then (if (wrap64 ((wrap64 (x8_1 + (wrap64 ((t179.length : Int) + (t182.length : Int))))) - 1)) < (t173.length : Int) then (if t186.toList = (rdOf ByteArray.empty t173 (wrap64 ((wrap64 (x8_1 + (wrap64 ((t179.length : Int) + (t182.length : Int))))) - 1))).toList then ((cellarerref01_Key.f k6 t186).bind fun t201 => (if t201 = true then (cellarerlaw07_PagerWhole.l0 k6 l1 t173 t186 (wrap64 (x8_1 + (wrap64 ((t179.length : Int) + (t182.length : Int))))) (wrap64 (x9_1 + 1)) t165 t168 t169 t170 t171 t172) else (some false))) else (some false)) else (none)) else (none)) = some r := by rw [if_pos rfl] at H; exact H
                    clear H
                    have H := H1
                    clear H1
                    obtain ⟨ji64, hji64⟩ : ∃ j_ : Int, (wrap64 ((wrap64 (x8_1 + (wrap64 ((t179.length : Int) + (t182.length : Int))))) - 1)) = j_ := ⟨_, rfl⟩
                    replace H : (if 0 ≤ (ji64) then (if (ji64) < (t173.length : Int) then (if t186.toList = (rdOf ByteArray.empty t173 (ji64)).toList then ((cellarerref01_Key.f k6 t186).bind fun t201 => (if t201 = true then (cellarerlaw07_PagerWhole.l0 k6 l1 t173 t186 (wrap64 (x8_1 + (wrap64 ((t179.length : Int) + (t182.length : Int))))) (wrap64 (x9_1 + 1)) t165 t168 t169 t170 t171 t172) else (some false))) else (some false)) else (none)) else (none)) = some r := by first | (rw [hji64] at H; exact H) | (simp only [hji64] at H ⊢; exact H)
                    have hji64w : (IntKind.i64.wrap ((wrap64 (x8_1 + (wrap64 ((t179.length : Int) + (t182.length : Int))))) - 1)) = ji64 := (i64_w _).trans hji64
                    by_cases c65 : 0 ≤ (ji64)
                    ·rw [if_pos c65] at H
                     have c65b0 : decide (0 ≤ (ji64)) = true := decide_eq_true c65
                     clear c65
                     by_cases c66 : (ji64) < (t173.length : Int)
                     ·rw [if_pos c66] at H
                      have c66b0 : decide ((ji64) < (t173.length : Int)) = true := decide_eq_true c66
                      clear c66
                      by_cases c67 : t186.toList = (rdOf ByteArray.empty t173 (ji64)).toList
                      ·rw [if_pos c67] at H
                       have c67b0 : (t186.toList == (rdOf ByteArray.empty t173 (ji64)).toList) = true := beq_iff_eq.mpr c67
                       have c67b1 : (t186.toList != (rdOf ByteArray.empty t173 (ji64)).toList) = false := bne_eq_false_iff_eq.mpr c67
                       clear c67
                       replace H := Option.bind_eq_some_iff.mp H
                       obtain ⟨t201, A680, H⟩ := H
                       replace H : (if t201 = true then (cellarerlaw07_PagerWhole.l0 k6 l1 t173 t186 (wrap64 (x8_1 + (wrap64 ((t179.length : Int) + (t182.length : Int))))) (wrap64 (x9_1 + 1)) t165 t168 t169 t170 t171 t172) else (some false)) = some r := H
                       have A68 := Aside0.mk A680
                       clear A680
                       by_cases c69 : t201 = true
                       ·subst c69
                        have H1 : (cellarerlaw07_PagerWhole.l0 k6 l1 t173 t186 (wrap64 (x8_1 + (wrap64 ((t179.length : Int) + (t182.length : Int))))) (wrap64 (x9_1 + 1)) t165 t168 t169 t170 t171 t172) = some r := by rw [if_pos rfl] at H; exact H
                        clear H
                        have H := H1
                        clear H1
                        have H' := Aside0.mk H
                        clear H
                        have hnb70 := NB188_164.out
                        have hnc70 := NB164_188.out
                        have hcz71_0 : wr.cell? ⟨gb188, 0, none⟩ = some (.slice Ao22 t179.length co22) := (blk_cell BK188.out 0).trans rfl
                        have hcz71_1 : wr.cell? ⟨gb188, 1, none⟩ = some (.slice Ao25 t182.length co25) := (blk_cell BK188.out 1).trans rfl
                        have hcz71_2 : wr.cell? ⟨gb188, 2, none⟩ = some (.bool true) := (blk_cell BK188.out 2).trans rfl
                        have hcz71_3 : wr.cell? ⟨gb188, 3, none⟩ = some (.string t186) := (blk_cell BK188.out 3).trans rfl
                        have hfz71_0 := blk_frozen BK188.out 0
                        have hfz71_1 := blk_frozen BK188.out 1
                        have hfz71_2 := blk_frozen BK188.out 2
                        have hfz71_3 := blk_frozen BK188.out 3
                        have p200 : 0 ≤ ((ji64) : Int) := of_decide_eq_true (by first | (with_reducible assumption) | assumption)
                        have q200 : (ji64) < (t173.length : Int) := of_decide_eq_true (by first | (with_reducible assumption) | assumption)
                        obtain ⟨ad200, e200, hx200_0⟩ := Kd.at_string (Kd.R_reads' HO_5.out).2.2 (ji64) p200 q200
                        cases e200
                        replace p200 := eq_true p200
                        replace q200 := eq_true q200
                        go_wp2_with (first | (go_at_call 18; (with_reducible refine (cellarerref01_Key.calls k6 t186 true _ A68.out).mono ?_); rintro e w' ⟨rfl, ⟨nd, rfl⟩⟩; (try first | exact ⟨rfl, _, World.drewN_drewN _ _ _⟩ | exact ⟨rfl, _, Eq.trans (World.drewN_drewN _ _ _) (congrArg (World.drewN _) (Nat.add_assoc _ _ _))⟩)))
                        repeat (go_quiet (first | (go_at_call 18; (with_reducible refine (cellarerref01_Key.calls k6 t186 true _ A68.out).mono ?_); rintro e w' ⟨rfl, ⟨nd, rfl⟩⟩; (try first | exact ⟨rfl, _, World.drewN_drewN _ _ _⟩ | exact ⟨rfl, _, Eq.trans (World.drewN_drewN _ _ _) (congrArg (World.drewN _) (Nat.add_assoc _ _ _))⟩))); try go_wp2_with (first | (go_at_call 18; (with_reducible refine (cellarerref01_Key.calls k6 t186 true _ A68.out).mono ?_); rintro e w' ⟨rfl, ⟨nd, rfl⟩⟩; (try first | exact ⟨rfl, _, World.drewN_drewN _ _ _⟩ | exact ⟨rfl, _, Eq.trans (World.drewN_drewN _ _ _) (congrArg (World.drewN _) (Nat.add_assoc _ _ _))⟩))))
                        go_roundg k6
                        case measure => have := HK1.out; have := HJ12.out; have := HJ17.out; have := HK4.out; have := HK5.out; have := HK6.out; omega
                        case rel => exact ⟨(t186), (wrap64 (x8_1 + (wrap64 ((t179.length : Int) + (t182.length : Int))))), (wrap64 (x9_1 + 1)), (by first | rfl | (simp; done) | (simp [*]; done)), (by first | rfl | (simp; done) | (simp [*]; done)), (by first | rfl | (simp; done) | (simp [*]; done)), H', ⟨by have := HK1.out; have := HJ12.out; have := HJ17.out; have := HK4.out; have := HK5.out; have := HK6.out; omega⟩, ⟨by (with_reducible repeat (first | apply Kd.R_alloc | apply Kd.R_drewN | apply Kd.R_drew)); exact Kd.R_mono HO_5.out (fun _ hk => trivial)⟩, ⟨by (with_reducible repeat (first | apply Kd.S_alloc | apply Kd.S_drewN | apply Kd.S_drew)); exact HO_165000.out⟩, ⟨by (with_reducible repeat (first | refine blk_drewN ?_ _ | refine blk_drew ?_ | refine blk_alloc ?_ _)); exact BK164.out⟩, ⟨by repeat (first | (with_reducible first | exact HB.out | apply below_alloc | apply pw_below_drewN | apply below_drew1 | refine below_set ?_ GE164.out | refine below_set ?_ GE188.out) | exact HB.out)⟩⟩
                       ·replace c69 := Bool.eq_false_iff.mpr c69
                        subst c69
                        have H1 : (some false) = some r := by rw [if_neg (show ¬ (false = true) by decide)] at H; exact H
                        clear H
                        have H := H1
                        clear H1
                        obtain rfl := Option.some.inj H
                        exact absurd HTR_.out (by decide)
                      ·rw [if_neg c67] at H
                       have c67b0 : (t186.toList == (rdOf ByteArray.empty t173 (ji64)).toList) = false := beq_eq_false_iff_ne.mpr c67
                       have c67b1 : (t186.toList != (rdOf ByteArray.empty t173 (ji64)).toList) = true := bne_iff_ne.mpr c67
                       obtain rfl := Option.some.inj H
                       exact absurd HTR_.out (by decide)
                     ·rw [if_neg c66] at H
                      exact absurd H (by simp)
                    ·rw [if_neg c65] at H
                     exact absurd H (by simp)
                   ·replace c63 := Bool.eq_false_iff.mpr c63
                    subst c63
                    have H1 : (if (wrap64 (x8_1 + (wrap64 ((t179.length : Int) + (t182.length : Int))))) = (t173.length : Int) then ((cellarerlaw07_awake.f).bind fun t199 => (some t199)) else (some false)) = some r := by rw [if_neg (show ¬ (false = true) by decide)] at H; exact H
                    clear H
                    have H := H1
                    clear H1
                    by_cases c76 : (wrap64 (x8_1 + (wrap64 ((t179.length : Int) + (t182.length : Int))))) = (t173.length : Int)
                    ·rw [if_pos c76] at H
                     have c76b0 : ((wrap64 (x8_1 + (wrap64 ((t179.length : Int) + (t182.length : Int))))) == (t173.length : Int)) = true := beq_iff_eq.mpr c76
                     have c76b1 : ((wrap64 (x8_1 + (wrap64 ((t179.length : Int) + (t182.length : Int))))) != (t173.length : Int)) = false := bne_eq_false_iff_eq.mpr c76
                     clear c76
                     replace H := Option.bind_eq_some_iff.mp H
                     obtain ⟨t199, A770, H⟩ := H
                     replace H : (some t199) = some r := H
                     have A77 := Aside0.mk A770
                     clear A770
                     obtain rfl := Option.some.inj H
                     have hnb78 := NB188_164.out
                     have hnc78 := NB164_188.out
                     have hcz79_0 : wr.cell? ⟨gb188, 0, none⟩ = some (.slice Ao22 t179.length co22) := (blk_cell BK188.out 0).trans rfl
                     have hcz79_1 : wr.cell? ⟨gb188, 1, none⟩ = some (.slice Ao25 t182.length co25) := (blk_cell BK188.out 1).trans rfl
                     have hcz79_2 : wr.cell? ⟨gb188, 2, none⟩ = some (.bool false) := (blk_cell BK188.out 2).trans rfl
                     have hcz79_3 : wr.cell? ⟨gb188, 3, none⟩ = some (.string t186) := (blk_cell BK188.out 3).trans rfl
                     have hfz79_0 := blk_frozen BK188.out 0
                     have hfz79_1 := blk_frozen BK188.out 1
                     have hfz79_2 := blk_frozen BK188.out 2
                     have hfz79_3 := blk_frozen BK188.out 3
                     go_wp2_with (first | (go_at_call 14; (with_reducible refine (cellarerlaw07_awake.calls  t199 _ A77.out).mono ?_); rintro e w80 ⟨rfl, hb⟩; have n0_ := Aside0.mk (Kd.R_below (by (with_reducible repeat (first | apply Kd.R_alloc | apply Kd.R_drewN | apply Kd.R_drew)); exact HO_5.out) hb); have n1_ := Aside0.mk (PgMapS.MS_below (by (with_reducible repeat (first | apply PgMapS.MS_alloc | apply PgMapS.MS_drewN | apply PgMapS.MS_drew)); exact HO_14.out) hb); have n2_ := Aside0.mk (Kd.S_below (by (with_reducible repeat (first | apply Kd.S_alloc | apply Kd.S_drewN | apply Kd.S_drew)); exact HO_165000.out) hb); have n3_ := Aside0.mk (Kd.R_below (by (with_reducible repeat (first | apply Kd.R_alloc | apply Kd.R_drewN | apply Kd.R_drew)); exact HO_189000.out) hb); have n4_ := Aside0.mk (Kd.R_below (by (with_reducible repeat (first | apply Kd.R_alloc | apply Kd.R_drewN | apply Kd.R_drew)); exact HO_189001.out) hb); have n5_ := Aside0.mk (blk_below (g := gb164) (o := .cells #[.slice Ao9 t165.length co9, .string t168, .string t169, .string t170, .int .u64 t171, .int .i64 t172] 25 (0, 0)) (by (with_reducible repeat (first | refine blk_drewN ?_ _ | refine blk_drew ?_ | refine blk_alloc ?_ _)); exact BK164.out) hb); have n6_ := Aside0.mk (blk_below (g := gb188) (o := .cells #[.slice Ao22 t179.length co22, .slice Ao25 t182.length co25, .bool false, .string t186] 29 (0, 0)) (by (with_reducible repeat (first | refine blk_drewN ?_ _ | refine blk_drew ?_ | refine blk_alloc ?_ _)); exact BK188.out) hb); have n7_ := Aside0.mk (below_step (by repeat (first | (with_reducible first | exact HB.out | apply below_alloc | apply pw_below_drewN | apply below_drew1 | refine below_set ?_ GE164.out | refine below_set ?_ GE188.out) | exact HB.out)) hb); clear HO_5; clear HO_14; clear HO_165000; clear HO_189000; clear HO_189001; clear BK164; clear BK188; clear HB; have HO_5 := n0_; have HO_14 := n1_; have HO_165000 := n2_; have HO_189000 := n3_; have HO_189001 := n4_; have BK164 := n5_; have BK188 := n6_; have HB := n7_; clear n0_ n1_ n2_ n3_ n4_ n5_ n6_ n7_; (try clear hb); (try clear hb2); (try clear hk); (try clear hi)))
                     repeat (go_quiet (first | (go_at_call 14; (with_reducible refine (cellarerlaw07_awake.calls  t199 _ A77.out).mono ?_); rintro e w80 ⟨rfl, hb⟩; have n0_ := Aside0.mk (Kd.R_below (by (with_reducible repeat (first | apply Kd.R_alloc | apply Kd.R_drewN | apply Kd.R_drew)); exact HO_5.out) hb); have n1_ := Aside0.mk (PgMapS.MS_below (by (with_reducible repeat (first | apply PgMapS.MS_alloc | apply PgMapS.MS_drewN | apply PgMapS.MS_drew)); exact HO_14.out) hb); have n2_ := Aside0.mk (Kd.S_below (by (with_reducible repeat (first | apply Kd.S_alloc | apply Kd.S_drewN | apply Kd.S_drew)); exact HO_165000.out) hb); have n3_ := Aside0.mk (Kd.R_below (by (with_reducible repeat (first | apply Kd.R_alloc | apply Kd.R_drewN | apply Kd.R_drew)); exact HO_189000.out) hb); have n4_ := Aside0.mk (Kd.R_below (by (with_reducible repeat (first | apply Kd.R_alloc | apply Kd.R_drewN | apply Kd.R_drew)); exact HO_189001.out) hb); have n5_ := Aside0.mk (blk_below (g := gb164) (o := .cells #[.slice Ao9 t165.length co9, .string t168, .string t169, .string t170, .int .u64 t171, .int .i64 t172] 25 (0, 0)) (by (with_reducible repeat (first | refine blk_drewN ?_ _ | refine blk_drew ?_ | refine blk_alloc ?_ _)); exact BK164.out) hb); have n6_ := Aside0.mk (blk_below (g := gb188) (o := .cells #[.slice Ao22 t179.length co22, .slice Ao25 t182.length co25, .bool false, .string t186] 29 (0, 0)) (by (with_reducible repeat (first | refine blk_drewN ?_ _ | refine blk_drew ?_ | refine blk_alloc ?_ _)); exact BK188.out) hb); have n7_ := Aside0.mk (below_step (by repeat (first | (with_reducible first | exact HB.out | apply below_alloc | apply pw_below_drewN | apply below_drew1 | refine below_set ?_ GE164.out | refine below_set ?_ GE188.out) | exact HB.out)) hb); clear HO_5; clear HO_14; clear HO_165000; clear HO_189000; clear HO_189001; clear BK164; clear BK188; clear HB; have HO_5 := n0_; have HO_14 := n1_; have HO_165000 := n2_; have HO_189000 := n3_; have HO_189001 := n4_; have BK164 := n5_; have BK188 := n6_; have HB := n7_; clear n0_ n1_ n2_ n3_ n4_ n5_ n6_ n7_; (try clear hb); (try clear hb2); (try clear hk); (try clear hi))); try go_wp2_with (first | (go_at_call 14; (with_reducible refine (cellarerlaw07_awake.calls  t199 _ A77.out).mono ?_); rintro e w80 ⟨rfl, hb⟩; have n0_ := Aside0.mk (Kd.R_below (by (with_reducible repeat (first | apply Kd.R_alloc | apply Kd.R_drewN | apply Kd.R_drew)); exact HO_5.out) hb); have n1_ := Aside0.mk (PgMapS.MS_below (by (with_reducible repeat (first | apply PgMapS.MS_alloc | apply PgMapS.MS_drewN | apply PgMapS.MS_drew)); exact HO_14.out) hb); have n2_ := Aside0.mk (Kd.S_below (by (with_reducible repeat (first | apply Kd.S_alloc | apply Kd.S_drewN | apply Kd.S_drew)); exact HO_165000.out) hb); have n3_ := Aside0.mk (Kd.R_below (by (with_reducible repeat (first | apply Kd.R_alloc | apply Kd.R_drewN | apply Kd.R_drew)); exact HO_189000.out) hb); have n4_ := Aside0.mk (Kd.R_below (by (with_reducible repeat (first | apply Kd.R_alloc | apply Kd.R_drewN | apply Kd.R_drew)); exact HO_189001.out) hb); have n5_ := Aside0.mk (blk_below (g := gb164) (o := .cells #[.slice Ao9 t165.length co9, .string t168, .string t169, .string t170, .int .u64 t171, .int .i64 t172] 25 (0, 0)) (by (with_reducible repeat (first | refine blk_drewN ?_ _ | refine blk_drew ?_ | refine blk_alloc ?_ _)); exact BK164.out) hb); have n6_ := Aside0.mk (blk_below (g := gb188) (o := .cells #[.slice Ao22 t179.length co22, .slice Ao25 t182.length co25, .bool false, .string t186] 29 (0, 0)) (by (with_reducible repeat (first | refine blk_drewN ?_ _ | refine blk_drew ?_ | refine blk_alloc ?_ _)); exact BK188.out) hb); have n7_ := Aside0.mk (below_step (by repeat (first | (with_reducible first | exact HB.out | apply below_alloc | apply pw_below_drewN | apply below_drew1 | refine below_set ?_ GE164.out | refine below_set ?_ GE188.out) | exact HB.out)) hb); clear HO_5; clear HO_14; clear HO_165000; clear HO_189000; clear HO_189001; clear BK164; clear BK188; clear HB; have HO_5 := n0_; have HO_14 := n1_; have HO_165000 := n2_; have HO_189000 := n3_; have HO_189001 := n4_; have BK164 := n5_; have BK188 := n6_; have HB := n7_; clear n0_ n1_ n2_ n3_ n4_ n5_ n6_ n7_; (try clear hb); (try clear hb2); (try clear hk); (try clear hi))))
                     go_ret
                     exact ⟨by first | rfl | (simp [errW_none, errW_some] <;> rfl) | (simp [*, errW_none, errW_some] <;> rfl), by repeat (first | (with_reducible first | exact HB.out | apply below_alloc | apply pw_below_drewN | apply below_drew1 | refine below_set ?_ GE164.out | refine below_set ?_ GE188.out) | exact HB.out)⟩
                    ·rw [if_neg c76] at H
                     have c76b0 : ((wrap64 (x8_1 + (wrap64 ((t179.length : Int) + (t182.length : Int))))) == (t173.length : Int)) = false := beq_eq_false_iff_ne.mpr c76
                     have c76b1 : ((wrap64 (x8_1 + (wrap64 ((t179.length : Int) + (t182.length : Int))))) != (t173.length : Int)) = true := bne_iff_ne.mpr c76
                     obtain rfl := Option.some.inj H
                     exact absurd HTR_.out (by decide)
    ·rw [if_neg c12] at H
     have c12b0 : decide (x9_1 ≤ (t173.length : Int)) = false := decide_eq_false c12
     clear c12
     obtain rfl := Option.some.inj H
     exact absurd HTR_.out (by decide)
 ·rw [if_neg c5] at H
  have c5b0 : (t174 == 0) = false := beq_eq_false_iff_ne.mpr c5
  have c5b1 : (t174 != 0) = true := bne_iff_ne.mpr c5
  replace H := Option.bind_eq_some_iff.mp H
  obtain ⟨t177, A840, H⟩ := H
  replace H : (some t177) = some r := H
  have A84 := Aside0.mk A840
  clear A840
  obtain rfl := Option.some.inj H
  have hmm := @run_makeMap Try.prog
  go_enter Try.func4, Try.ntmps4
  go_wp2_with (first | ((with_reducible refine gate_dst (N := 2) rfl ?_); (try (refine gate_guard (by rfl) ?_; dsimp only)); refine box_event ?hg (N := 2) ?hd (cs := #[.slice A0_0 l0_0.length c0_0, .string a0_1, .string a0_2, .string a0_3, .int .u64 a0_4, .int .i64 a0_5]) (t := 25) ?hr ?_; (case hd => rfl); (case hg => rfl); (case hr => first | (go_simp; done) | (go_simp; rfl)); intro gb164 hg w85 hbox hb; have n0_ := Aside0.mk (below_step (by repeat (first | (with_reducible first | exact HB.out | apply below_alloc | apply pw_below_drewN | apply below_drew1) | exact HB.out)) hb); have n1_ := Aside0.mk (hbox); have n2_ := Aside0.mk ((by rw [hg]; exact (below_size (by repeat (first | (with_reducible first | exact HB.out | apply below_alloc | apply pw_below_drewN | apply below_drew1) | exact HB.out))) : w.heap.size ≤ gb164)); have n3_ := Aside0.mk ((by rw [hg]; exact (below_size (by repeat (first | (with_reducible first | exact HB.out | apply below_alloc | apply pw_below_drewN | apply below_drew1) | exact HB.out))) : w.heap.size ≤ gb164)); clear HB; have HB := n0_; have BK164 := n1_; have GW164 := n2_; have GE164 := n3_; clear n0_ n1_ n2_ n3_; clear hb hbox hg; have hcz86_0 : w85.cell? ⟨gb164, 0, none⟩ = some (.slice A0_0 l0_0.length c0_0) := (blk_cell BK164.out 0).trans rfl; have hcz86_1 : w85.cell? ⟨gb164, 1, none⟩ = some (.string a0_1) := (blk_cell BK164.out 1).trans rfl; have hcz86_2 : w85.cell? ⟨gb164, 2, none⟩ = some (.string a0_2) := (blk_cell BK164.out 2).trans rfl; have hcz86_3 : w85.cell? ⟨gb164, 3, none⟩ = some (.string a0_3) := (blk_cell BK164.out 3).trans rfl; have hcz86_4 : w85.cell? ⟨gb164, 4, none⟩ = some (.int .u64 a0_4) := (blk_cell BK164.out 4).trans rfl; have hcz86_5 : w85.cell? ⟨gb164, 5, none⟩ = some (.int .i64 a0_5) := (blk_cell BK164.out 5).trans rfl; have hfz86_0 := blk_frozen BK164.out 0; have hfz86_1 := blk_frozen BK164.out 1; have hfz86_2 := blk_frozen BK164.out 2; have hfz86_3 := blk_frozen BK164.out 3; have hfz86_4 := blk_frozen BK164.out 4; have hfz86_5 := blk_frozen BK164.out 5) | (go_at_call 10; (with_reducible refine (cellarerlaw07_cut.calls k _ _ l0_0 a0_1 a0_2 a0_3 a0_4 a0_5 t165 t168 t169 t170 t171 t172 _ ?side1 ?side2 A3.out).mono ?_); (case side1 => repeat (first | exact (Kd.C_below HR0_0.out HB.out) | (with_reducible refine Kd.C_alloc ?_ _) | (with_reducible refine Kd.C_drewN ?_ _) | (with_reducible refine Kd.C_drew ?_))); (case side2 => exact HC0_0.out); rintro e w87 ⟨v166, rfl, ho0, hb⟩; have n0_ := Aside0.mk (Kd.S_lower ho0 (below_size (by repeat (first | (with_reducible first | exact HB.out | apply below_alloc | apply pw_below_drewN | apply below_drew1 | refine below_set ?_ GE164.out) | exact HB.out)))); have n1_ := Aside0.mk (blk_below (g := gb164) (o := .cells #[.slice A0_0 l0_0.length c0_0, .string a0_1, .string a0_2, .string a0_3, .int .u64 a0_4, .int .i64 a0_5] 25 (0, 0)) (by (with_reducible repeat (first | refine blk_drewN ?_ _ | refine blk_drew ?_ | refine blk_alloc ?_ _)); exact BK164.out) hb); have n2_ := Aside0.mk (below_step (by repeat (first | (with_reducible first | exact HB.out | apply below_alloc | apply pw_below_drewN | apply below_drew1 | refine below_set ?_ GE164.out) | exact HB.out)) hb); clear BK164; clear HB; have HO167 := n0_; have BK164 := n1_; have HB := n2_; clear n0_ n1_ n2_; (try clear hb); (try clear hb2); (try clear hk); (try clear hi); (try clear ho0); obtain ⟨Ao88, co88, eo88⟩ := Kd.S_slice HO167.out; subst eo88; have hcz89_0 : w87.cell? ⟨gb164, 0, none⟩ = some (.slice A0_0 l0_0.length c0_0) := (blk_cell BK164.out 0).trans rfl; have hcz89_1 : w87.cell? ⟨gb164, 1, none⟩ = some (.string a0_1) := (blk_cell BK164.out 1).trans rfl; have hcz89_2 : w87.cell? ⟨gb164, 2, none⟩ = some (.string a0_2) := (blk_cell BK164.out 2).trans rfl; have hcz89_3 : w87.cell? ⟨gb164, 3, none⟩ = some (.string a0_3) := (blk_cell BK164.out 3).trans rfl; have hcz89_4 : w87.cell? ⟨gb164, 4, none⟩ = some (.int .u64 a0_4) := (blk_cell BK164.out 4).trans rfl; have hcz89_5 : w87.cell? ⟨gb164, 5, none⟩ = some (.int .i64 a0_5) := (blk_cell BK164.out 5).trans rfl; have hfz89_0 := blk_frozen BK164.out 0; have hfz89_1 := blk_frozen BK164.out 1; have hfz89_2 := blk_frozen BK164.out 2; have hfz89_3 := blk_frozen BK164.out 3; have hfz89_4 := blk_frozen BK164.out 4; have hfz89_5 := blk_frozen BK164.out 5) | (go_at_call 12; (with_reducible refine (pager_Things.calls k _ _ t165 t168 t169 t173 t174 _ ?side1 ?side2 A4.out).mono ?_); (case side1 => refine (Kd.S_reads' (e := 50) (base := w.heap.size) (ok := fun k_ => True) (n := t165.length) (c := co88) ?_).2.2; exact (by (with_reducible repeat (first | apply Kd.S_alloc | apply Kd.S_drewN | apply Kd.S_drew)); exact (Kd.S_mono (Kd.S_far (p := ⟨gb164, 5, none⟩) (Kd.S_far (p := ⟨gb164, 4, none⟩) (Kd.S_far (p := ⟨gb164, 3, none⟩) (Kd.S_far (p := ⟨gb164, 2, none⟩) (Kd.S_far (p := ⟨gb164, 1, none⟩) (Kd.S_far (p := ⟨gb164, 0, none⟩) (Kd.S_types HO167.out BK164.out (by decide)) (fun _ hk => hk.2) (.slice Ao88 t165.length co88)) (fun _ hk => hk.2) (.string t168)) (fun _ hk => hk.2) (.string t169)) (fun _ hk => hk.2) (.string t170)) (fun _ hk => hk.2) (.int .u64 t171)) (fun _ hk => hk.2) (.int .i64 t172)) (fun _ h_ => h_.1)))); (case side2 => exact (Kd.S_reads' HO167.out).2.1); rintro e w90 ⟨v175, rfl, ho0, hb⟩; have n0_ := Aside0.mk (Kd.S_below (by (with_reducible repeat (first | apply Kd.S_alloc | apply Kd.S_drewN | apply Kd.S_drew)); exact (Kd.S_mono (Kd.S_far (p := ⟨gb164, 5, none⟩) (Kd.S_far (p := ⟨gb164, 4, none⟩) (Kd.S_far (p := ⟨gb164, 3, none⟩) (Kd.S_far (p := ⟨gb164, 2, none⟩) (Kd.S_far (p := ⟨gb164, 1, none⟩) (Kd.S_far (p := ⟨gb164, 0, none⟩) (Kd.S_types HO167.out BK164.out (by decide)) (fun _ hk => hk.2) (.slice Ao88 t165.length co88)) (fun _ hk => hk.2) (.string t168)) (fun _ hk => hk.2) (.string t169)) (fun _ hk => hk.2) (.string t170)) (fun _ hk => hk.2) (.int .u64 t171)) (fun _ hk => hk.2) (.int .i64 t172)) (fun _ h_ => h_.1))) hb); have n1_ := Aside0.mk (Kd.R_lower ho0 (below_size (by repeat (first | (with_reducible first | exact HB.out | apply below_alloc | apply pw_below_drewN | apply below_drew1 | refine below_set ?_ GE164.out) | exact HB.out)))); have n2_ := Aside0.mk (blk_below (g := gb164) (o := .cells #[.slice Ao88 t165.length co88, .string t168, .string t169, .string t170, .int .u64 t171, .int .i64 t172] 25 (0, 0)) (by (with_reducible repeat (first | refine blk_drewN ?_ _ | refine blk_drew ?_ | refine blk_alloc ?_ _)); refine blk_put (cs := #[.slice Ao88 t165.length co88, .string t168, .string t169, .string t170, .int .u64 t171, .int .i64 a0_5]) ?_ 5 _ rfl; (with_reducible repeat (first | refine blk_drewN ?_ _ | refine blk_drew ?_ | refine blk_alloc ?_ _)); refine blk_put (cs := #[.slice Ao88 t165.length co88, .string t168, .string t169, .string t170, .int .u64 a0_4, .int .i64 a0_5]) ?_ 4 _ rfl; (with_reducible repeat (first | refine blk_drewN ?_ _ | refine blk_drew ?_ | refine blk_alloc ?_ _)); refine blk_put (cs := #[.slice Ao88 t165.length co88, .string t168, .string t169, .string a0_3, .int .u64 a0_4, .int .i64 a0_5]) ?_ 3 _ rfl; (with_reducible repeat (first | refine blk_drewN ?_ _ | refine blk_drew ?_ | refine blk_alloc ?_ _)); refine blk_put (cs := #[.slice Ao88 t165.length co88, .string t168, .string a0_2, .string a0_3, .int .u64 a0_4, .int .i64 a0_5]) ?_ 2 _ rfl; (with_reducible repeat (first | refine blk_drewN ?_ _ | refine blk_drew ?_ | refine blk_alloc ?_ _)); refine blk_put (cs := #[.slice Ao88 t165.length co88, .string a0_1, .string a0_2, .string a0_3, .int .u64 a0_4, .int .i64 a0_5]) ?_ 1 _ rfl; (with_reducible repeat (first | refine blk_drewN ?_ _ | refine blk_drew ?_ | refine blk_alloc ?_ _)); refine blk_put (cs := #[.slice A0_0 l0_0.length c0_0, .string a0_1, .string a0_2, .string a0_3, .int .u64 a0_4, .int .i64 a0_5]) ?_ 0 _ rfl; (with_reducible repeat (first | refine blk_drewN ?_ _ | refine blk_drew ?_ | refine blk_alloc ?_ _)); exact BK164.out) hb); have n3_ := Aside0.mk (below_step (by repeat (first | (with_reducible first | exact HB.out | apply below_alloc | apply pw_below_drewN | apply below_drew1 | refine below_set ?_ GE164.out) | exact HB.out)) hb); clear HO167; clear BK164; clear HB; have HO167 := n0_; have HO176 := n1_; have BK164 := n2_; have HB := n3_; clear n0_ n1_ n2_ n3_; (try clear hb); (try clear hb2); (try clear hk); (try clear hi); (try clear ho0)) | (go_at_call 14; (with_reducible refine (cellarerlaw07_awake.calls  t177 _ A84.out).mono ?_); rintro e w91 ⟨rfl, hb⟩; have n0_ := Aside0.mk (Kd.S_below (by (with_reducible repeat (first | apply Kd.S_alloc | apply Kd.S_drewN | apply Kd.S_drew)); exact HO167.out) hb); have n1_ := Aside0.mk (Kd.R_below (by (with_reducible repeat (first | apply Kd.R_alloc | apply Kd.R_drewN | apply Kd.R_drew)); exact HO176.out) hb); have n2_ := Aside0.mk (blk_below (g := gb164) (o := .cells #[.slice Ao88 t165.length co88, .string t168, .string t169, .string t170, .int .u64 t171, .int .i64 t172] 25 (0, 0)) (by (with_reducible repeat (first | refine blk_drewN ?_ _ | refine blk_drew ?_ | refine blk_alloc ?_ _)); exact BK164.out) hb); have n3_ := Aside0.mk (below_step (by repeat (first | (with_reducible first | exact HB.out | apply below_alloc | apply pw_below_drewN | apply below_drew1 | refine below_set ?_ GE164.out) | exact HB.out)) hb); clear HO167; clear HO176; clear BK164; clear HB; have HO167 := n0_; have HO176 := n1_; have BK164 := n2_; have HB := n3_; clear n0_ n1_ n2_ n3_; (try clear hb); (try clear hb2); (try clear hk); (try clear hi)))
  repeat (go_quiet (first | ((with_reducible refine gate_dst (N := 2) rfl ?_); (try (refine gate_guard (by rfl) ?_; dsimp only)); refine box_event ?hg (N := 2) ?hd (cs := #[.slice A0_0 l0_0.length c0_0, .string a0_1, .string a0_2, .string a0_3, .int .u64 a0_4, .int .i64 a0_5]) (t := 25) ?hr ?_; (case hd => rfl); (case hg => rfl); (case hr => first | (go_simp; done) | (go_simp; rfl)); intro gb164 hg w85 hbox hb; have n0_ := Aside0.mk (below_step (by repeat (first | (with_reducible first | exact HB.out | apply below_alloc | apply pw_below_drewN | apply below_drew1) | exact HB.out)) hb); have n1_ := Aside0.mk (hbox); have n2_ := Aside0.mk ((by rw [hg]; exact (below_size (by repeat (first | (with_reducible first | exact HB.out | apply below_alloc | apply pw_below_drewN | apply below_drew1) | exact HB.out))) : w.heap.size ≤ gb164)); have n3_ := Aside0.mk ((by rw [hg]; exact (below_size (by repeat (first | (with_reducible first | exact HB.out | apply below_alloc | apply pw_below_drewN | apply below_drew1) | exact HB.out))) : w.heap.size ≤ gb164)); clear HB; have HB := n0_; have BK164 := n1_; have GW164 := n2_; have GE164 := n3_; clear n0_ n1_ n2_ n3_; clear hb hbox hg; have hcz86_0 : w85.cell? ⟨gb164, 0, none⟩ = some (.slice A0_0 l0_0.length c0_0) := (blk_cell BK164.out 0).trans rfl; have hcz86_1 : w85.cell? ⟨gb164, 1, none⟩ = some (.string a0_1) := (blk_cell BK164.out 1).trans rfl; have hcz86_2 : w85.cell? ⟨gb164, 2, none⟩ = some (.string a0_2) := (blk_cell BK164.out 2).trans rfl; have hcz86_3 : w85.cell? ⟨gb164, 3, none⟩ = some (.string a0_3) := (blk_cell BK164.out 3).trans rfl; have hcz86_4 : w85.cell? ⟨gb164, 4, none⟩ = some (.int .u64 a0_4) := (blk_cell BK164.out 4).trans rfl; have hcz86_5 : w85.cell? ⟨gb164, 5, none⟩ = some (.int .i64 a0_5) := (blk_cell BK164.out 5).trans rfl; have hfz86_0 := blk_frozen BK164.out 0; have hfz86_1 := blk_frozen BK164.out 1; have hfz86_2 := blk_frozen BK164.out 2; have hfz86_3 := blk_frozen BK164.out 3; have hfz86_4 := blk_frozen BK164.out 4; have hfz86_5 := blk_frozen BK164.out 5) | (go_at_call 10; (with_reducible refine (cellarerlaw07_cut.calls k _ _ l0_0 a0_1 a0_2 a0_3 a0_4 a0_5 t165 t168 t169 t170 t171 t172 _ ?side1 ?side2 A3.out).mono ?_); (case side1 => repeat (first | exact (Kd.C_below HR0_0.out HB.out) | (with_reducible refine Kd.C_alloc ?_ _) | (with_reducible refine Kd.C_drewN ?_ _) | (with_reducible refine Kd.C_drew ?_))); (case side2 => exact HC0_0.out); rintro e w87 ⟨v166, rfl, ho0, hb⟩; have n0_ := Aside0.mk (Kd.S_lower ho0 (below_size (by repeat (first | (with_reducible first | exact HB.out | apply below_alloc | apply pw_below_drewN | apply below_drew1 | refine below_set ?_ GE164.out) | exact HB.out)))); have n1_ := Aside0.mk (blk_below (g := gb164) (o := .cells #[.slice A0_0 l0_0.length c0_0, .string a0_1, .string a0_2, .string a0_3, .int .u64 a0_4, .int .i64 a0_5] 25 (0, 0)) (by (with_reducible repeat (first | refine blk_drewN ?_ _ | refine blk_drew ?_ | refine blk_alloc ?_ _)); exact BK164.out) hb); have n2_ := Aside0.mk (below_step (by repeat (first | (with_reducible first | exact HB.out | apply below_alloc | apply pw_below_drewN | apply below_drew1 | refine below_set ?_ GE164.out) | exact HB.out)) hb); clear BK164; clear HB; have HO167 := n0_; have BK164 := n1_; have HB := n2_; clear n0_ n1_ n2_; (try clear hb); (try clear hb2); (try clear hk); (try clear hi); (try clear ho0); obtain ⟨Ao88, co88, eo88⟩ := Kd.S_slice HO167.out; subst eo88; have hcz89_0 : w87.cell? ⟨gb164, 0, none⟩ = some (.slice A0_0 l0_0.length c0_0) := (blk_cell BK164.out 0).trans rfl; have hcz89_1 : w87.cell? ⟨gb164, 1, none⟩ = some (.string a0_1) := (blk_cell BK164.out 1).trans rfl; have hcz89_2 : w87.cell? ⟨gb164, 2, none⟩ = some (.string a0_2) := (blk_cell BK164.out 2).trans rfl; have hcz89_3 : w87.cell? ⟨gb164, 3, none⟩ = some (.string a0_3) := (blk_cell BK164.out 3).trans rfl; have hcz89_4 : w87.cell? ⟨gb164, 4, none⟩ = some (.int .u64 a0_4) := (blk_cell BK164.out 4).trans rfl; have hcz89_5 : w87.cell? ⟨gb164, 5, none⟩ = some (.int .i64 a0_5) := (blk_cell BK164.out 5).trans rfl; have hfz89_0 := blk_frozen BK164.out 0; have hfz89_1 := blk_frozen BK164.out 1; have hfz89_2 := blk_frozen BK164.out 2; have hfz89_3 := blk_frozen BK164.out 3; have hfz89_4 := blk_frozen BK164.out 4; have hfz89_5 := blk_frozen BK164.out 5) | (go_at_call 12; (with_reducible refine (pager_Things.calls k _ _ t165 t168 t169 t173 t174 _ ?side1 ?side2 A4.out).mono ?_); (case side1 => refine (Kd.S_reads' (e := 50) (base := w.heap.size) (ok := fun k_ => True) (n := t165.length) (c := co88) ?_).2.2; exact (by (with_reducible repeat (first | apply Kd.S_alloc | apply Kd.S_drewN | apply Kd.S_drew)); exact (Kd.S_mono (Kd.S_far (p := ⟨gb164, 5, none⟩) (Kd.S_far (p := ⟨gb164, 4, none⟩) (Kd.S_far (p := ⟨gb164, 3, none⟩) (Kd.S_far (p := ⟨gb164, 2, none⟩) (Kd.S_far (p := ⟨gb164, 1, none⟩) (Kd.S_far (p := ⟨gb164, 0, none⟩) (Kd.S_types HO167.out BK164.out (by decide)) (fun _ hk => hk.2) (.slice Ao88 t165.length co88)) (fun _ hk => hk.2) (.string t168)) (fun _ hk => hk.2) (.string t169)) (fun _ hk => hk.2) (.string t170)) (fun _ hk => hk.2) (.int .u64 t171)) (fun _ hk => hk.2) (.int .i64 t172)) (fun _ h_ => h_.1)))); (case side2 => exact (Kd.S_reads' HO167.out).2.1); rintro e w90 ⟨v175, rfl, ho0, hb⟩; have n0_ := Aside0.mk (Kd.S_below (by (with_reducible repeat (first | apply Kd.S_alloc | apply Kd.S_drewN | apply Kd.S_drew)); exact (Kd.S_mono (Kd.S_far (p := ⟨gb164, 5, none⟩) (Kd.S_far (p := ⟨gb164, 4, none⟩) (Kd.S_far (p := ⟨gb164, 3, none⟩) (Kd.S_far (p := ⟨gb164, 2, none⟩) (Kd.S_far (p := ⟨gb164, 1, none⟩) (Kd.S_far (p := ⟨gb164, 0, none⟩) (Kd.S_types HO167.out BK164.out (by decide)) (fun _ hk => hk.2) (.slice Ao88 t165.length co88)) (fun _ hk => hk.2) (.string t168)) (fun _ hk => hk.2) (.string t169)) (fun _ hk => hk.2) (.string t170)) (fun _ hk => hk.2) (.int .u64 t171)) (fun _ hk => hk.2) (.int .i64 t172)) (fun _ h_ => h_.1))) hb); have n1_ := Aside0.mk (Kd.R_lower ho0 (below_size (by repeat (first | (with_reducible first | exact HB.out | apply below_alloc | apply pw_below_drewN | apply below_drew1 | refine below_set ?_ GE164.out) | exact HB.out)))); have n2_ := Aside0.mk (blk_below (g := gb164) (o := .cells #[.slice Ao88 t165.length co88, .string t168, .string t169, .string t170, .int .u64 t171, .int .i64 t172] 25 (0, 0)) (by (with_reducible repeat (first | refine blk_drewN ?_ _ | refine blk_drew ?_ | refine blk_alloc ?_ _)); refine blk_put (cs := #[.slice Ao88 t165.length co88, .string t168, .string t169, .string t170, .int .u64 t171, .int .i64 a0_5]) ?_ 5 _ rfl; (with_reducible repeat (first | refine blk_drewN ?_ _ | refine blk_drew ?_ | refine blk_alloc ?_ _)); refine blk_put (cs := #[.slice Ao88 t165.length co88, .string t168, .string t169, .string t170, .int .u64 a0_4, .int .i64 a0_5]) ?_ 4 _ rfl; (with_reducible repeat (first | refine blk_drewN ?_ _ | refine blk_drew ?_ | refine blk_alloc ?_ _)); refine blk_put (cs := #[.slice Ao88 t165.length co88, .string t168, .string t169, .string a0_3, .int .u64 a0_4, .int .i64 a0_5]) ?_ 3 _ rfl; (with_reducible repeat (first | refine blk_drewN ?_ _ | refine blk_drew ?_ | refine blk_alloc ?_ _)); refine blk_put (cs := #[.slice Ao88 t165.length co88, .string t168, .string a0_2, .string a0_3, .int .u64 a0_4, .int .i64 a0_5]) ?_ 2 _ rfl; (with_reducible repeat (first | refine blk_drewN ?_ _ | refine blk_drew ?_ | refine blk_alloc ?_ _)); refine blk_put (cs := #[.slice Ao88 t165.length co88, .string a0_1, .string a0_2, .string a0_3, .int .u64 a0_4, .int .i64 a0_5]) ?_ 1 _ rfl; (with_reducible repeat (first | refine blk_drewN ?_ _ | refine blk_drew ?_ | refine blk_alloc ?_ _)); refine blk_put (cs := #[.slice A0_0 l0_0.length c0_0, .string a0_1, .string a0_2, .string a0_3, .int .u64 a0_4, .int .i64 a0_5]) ?_ 0 _ rfl; (with_reducible repeat (first | refine blk_drewN ?_ _ | refine blk_drew ?_ | refine blk_alloc ?_ _)); exact BK164.out) hb); have n3_ := Aside0.mk (below_step (by repeat (first | (with_reducible first | exact HB.out | apply below_alloc | apply pw_below_drewN | apply below_drew1 | refine below_set ?_ GE164.out) | exact HB.out)) hb); clear HO167; clear BK164; clear HB; have HO167 := n0_; have HO176 := n1_; have BK164 := n2_; have HB := n3_; clear n0_ n1_ n2_ n3_; (try clear hb); (try clear hb2); (try clear hk); (try clear hi); (try clear ho0)) | (go_at_call 14; (with_reducible refine (cellarerlaw07_awake.calls  t177 _ A84.out).mono ?_); rintro e w91 ⟨rfl, hb⟩; have n0_ := Aside0.mk (Kd.S_below (by (with_reducible repeat (first | apply Kd.S_alloc | apply Kd.S_drewN | apply Kd.S_drew)); exact HO167.out) hb); have n1_ := Aside0.mk (Kd.R_below (by (with_reducible repeat (first | apply Kd.R_alloc | apply Kd.R_drewN | apply Kd.R_drew)); exact HO176.out) hb); have n2_ := Aside0.mk (blk_below (g := gb164) (o := .cells #[.slice Ao88 t165.length co88, .string t168, .string t169, .string t170, .int .u64 t171, .int .i64 t172] 25 (0, 0)) (by (with_reducible repeat (first | refine blk_drewN ?_ _ | refine blk_drew ?_ | refine blk_alloc ?_ _)); exact BK164.out) hb); have n3_ := Aside0.mk (below_step (by repeat (first | (with_reducible first | exact HB.out | apply below_alloc | apply pw_below_drewN | apply below_drew1 | refine below_set ?_ GE164.out) | exact HB.out)) hb); clear HO167; clear HO176; clear BK164; clear HB; have HO167 := n0_; have HO176 := n1_; have BK164 := n2_; have HB := n3_; clear n0_ n1_ n2_ n3_; (try clear hb); (try clear hb2); (try clear hk); (try clear hi))); try go_wp2_with (first | ((with_reducible refine gate_dst (N := 2) rfl ?_); (try (refine gate_guard (by rfl) ?_; dsimp only)); refine box_event ?hg (N := 2) ?hd (cs := #[.slice A0_0 l0_0.length c0_0, .string a0_1, .string a0_2, .string a0_3, .int .u64 a0_4, .int .i64 a0_5]) (t := 25) ?hr ?_; (case hd => rfl); (case hg => rfl); (case hr => first | (go_simp; done) | (go_simp; rfl)); intro gb164 hg w85 hbox hb; have n0_ := Aside0.mk (below_step (by repeat (first | (with_reducible first | exact HB.out | apply below_alloc | apply pw_below_drewN | apply below_drew1) | exact HB.out)) hb); have n1_ := Aside0.mk (hbox); have n2_ := Aside0.mk ((by rw [hg]; exact (below_size (by repeat (first | (with_reducible first | exact HB.out | apply below_alloc | apply pw_below_drewN | apply below_drew1) | exact HB.out))) : w.heap.size ≤ gb164)); have n3_ := Aside0.mk ((by rw [hg]; exact (below_size (by repeat (first | (with_reducible first | exact HB.out | apply below_alloc | apply pw_below_drewN | apply below_drew1) | exact HB.out))) : w.heap.size ≤ gb164)); clear HB; have HB := n0_; have BK164 := n1_; have GW164 := n2_; have GE164 := n3_; clear n0_ n1_ n2_ n3_; clear hb hbox hg; have hcz86_0 : w85.cell? ⟨gb164, 0, none⟩ = some (.slice A0_0 l0_0.length c0_0) := (blk_cell BK164.out 0).trans rfl; have hcz86_1 : w85.cell? ⟨gb164, 1, none⟩ = some (.string a0_1) := (blk_cell BK164.out 1).trans rfl; have hcz86_2 : w85.cell? ⟨gb164, 2, none⟩ = some (.string a0_2) := (blk_cell BK164.out 2).trans rfl; have hcz86_3 : w85.cell? ⟨gb164, 3, none⟩ = some (.string a0_3) := (blk_cell BK164.out 3).trans rfl; have hcz86_4 : w85.cell? ⟨gb164, 4, none⟩ = some (.int .u64 a0_4) := (blk_cell BK164.out 4).trans rfl; have hcz86_5 : w85.cell? ⟨gb164, 5, none⟩ = some (.int .i64 a0_5) := (blk_cell BK164.out 5).trans rfl; have hfz86_0 := blk_frozen BK164.out 0; have hfz86_1 := blk_frozen BK164.out 1; have hfz86_2 := blk_frozen BK164.out 2; have hfz86_3 := blk_frozen BK164.out 3; have hfz86_4 := blk_frozen BK164.out 4; have hfz86_5 := blk_frozen BK164.out 5) | (go_at_call 10; (with_reducible refine (cellarerlaw07_cut.calls k _ _ l0_0 a0_1 a0_2 a0_3 a0_4 a0_5 t165 t168 t169 t170 t171 t172 _ ?side1 ?side2 A3.out).mono ?_); (case side1 => repeat (first | exact (Kd.C_below HR0_0.out HB.out) | (with_reducible refine Kd.C_alloc ?_ _) | (with_reducible refine Kd.C_drewN ?_ _) | (with_reducible refine Kd.C_drew ?_))); (case side2 => exact HC0_0.out); rintro e w87 ⟨v166, rfl, ho0, hb⟩; have n0_ := Aside0.mk (Kd.S_lower ho0 (below_size (by repeat (first | (with_reducible first | exact HB.out | apply below_alloc | apply pw_below_drewN | apply below_drew1 | refine below_set ?_ GE164.out) | exact HB.out)))); have n1_ := Aside0.mk (blk_below (g := gb164) (o := .cells #[.slice A0_0 l0_0.length c0_0, .string a0_1, .string a0_2, .string a0_3, .int .u64 a0_4, .int .i64 a0_5] 25 (0, 0)) (by (with_reducible repeat (first | refine blk_drewN ?_ _ | refine blk_drew ?_ | refine blk_alloc ?_ _)); exact BK164.out) hb); have n2_ := Aside0.mk (below_step (by repeat (first | (with_reducible first | exact HB.out | apply below_alloc | apply pw_below_drewN | apply below_drew1 | refine below_set ?_ GE164.out) | exact HB.out)) hb); clear BK164; clear HB; have HO167 := n0_; have BK164 := n1_; have HB := n2_; clear n0_ n1_ n2_; (try clear hb); (try clear hb2); (try clear hk); (try clear hi); (try clear ho0); obtain ⟨Ao88, co88, eo88⟩ := Kd.S_slice HO167.out; subst eo88; have hcz89_0 : w87.cell? ⟨gb164, 0, none⟩ = some (.slice A0_0 l0_0.length c0_0) := (blk_cell BK164.out 0).trans rfl; have hcz89_1 : w87.cell? ⟨gb164, 1, none⟩ = some (.string a0_1) := (blk_cell BK164.out 1).trans rfl; have hcz89_2 : w87.cell? ⟨gb164, 2, none⟩ = some (.string a0_2) := (blk_cell BK164.out 2).trans rfl; have hcz89_3 : w87.cell? ⟨gb164, 3, none⟩ = some (.string a0_3) := (blk_cell BK164.out 3).trans rfl; have hcz89_4 : w87.cell? ⟨gb164, 4, none⟩ = some (.int .u64 a0_4) := (blk_cell BK164.out 4).trans rfl; have hcz89_5 : w87.cell? ⟨gb164, 5, none⟩ = some (.int .i64 a0_5) := (blk_cell BK164.out 5).trans rfl; have hfz89_0 := blk_frozen BK164.out 0; have hfz89_1 := blk_frozen BK164.out 1; have hfz89_2 := blk_frozen BK164.out 2; have hfz89_3 := blk_frozen BK164.out 3; have hfz89_4 := blk_frozen BK164.out 4; have hfz89_5 := blk_frozen BK164.out 5) | (go_at_call 12; (with_reducible refine (pager_Things.calls k _ _ t165 t168 t169 t173 t174 _ ?side1 ?side2 A4.out).mono ?_); (case side1 => refine (Kd.S_reads' (e := 50) (base := w.heap.size) (ok := fun k_ => True) (n := t165.length) (c := co88) ?_).2.2; exact (by (with_reducible repeat (first | apply Kd.S_alloc | apply Kd.S_drewN | apply Kd.S_drew)); exact (Kd.S_mono (Kd.S_far (p := ⟨gb164, 5, none⟩) (Kd.S_far (p := ⟨gb164, 4, none⟩) (Kd.S_far (p := ⟨gb164, 3, none⟩) (Kd.S_far (p := ⟨gb164, 2, none⟩) (Kd.S_far (p := ⟨gb164, 1, none⟩) (Kd.S_far (p := ⟨gb164, 0, none⟩) (Kd.S_types HO167.out BK164.out (by decide)) (fun _ hk => hk.2) (.slice Ao88 t165.length co88)) (fun _ hk => hk.2) (.string t168)) (fun _ hk => hk.2) (.string t169)) (fun _ hk => hk.2) (.string t170)) (fun _ hk => hk.2) (.int .u64 t171)) (fun _ hk => hk.2) (.int .i64 t172)) (fun _ h_ => h_.1)))); (case side2 => exact (Kd.S_reads' HO167.out).2.1); rintro e w90 ⟨v175, rfl, ho0, hb⟩; have n0_ := Aside0.mk (Kd.S_below (by (with_reducible repeat (first | apply Kd.S_alloc | apply Kd.S_drewN | apply Kd.S_drew)); exact (Kd.S_mono (Kd.S_far (p := ⟨gb164, 5, none⟩) (Kd.S_far (p := ⟨gb164, 4, none⟩) (Kd.S_far (p := ⟨gb164, 3, none⟩) (Kd.S_far (p := ⟨gb164, 2, none⟩) (Kd.S_far (p := ⟨gb164, 1, none⟩) (Kd.S_far (p := ⟨gb164, 0, none⟩) (Kd.S_types HO167.out BK164.out (by decide)) (fun _ hk => hk.2) (.slice Ao88 t165.length co88)) (fun _ hk => hk.2) (.string t168)) (fun _ hk => hk.2) (.string t169)) (fun _ hk => hk.2) (.string t170)) (fun _ hk => hk.2) (.int .u64 t171)) (fun _ hk => hk.2) (.int .i64 t172)) (fun _ h_ => h_.1))) hb); have n1_ := Aside0.mk (Kd.R_lower ho0 (below_size (by repeat (first | (with_reducible first | exact HB.out | apply below_alloc | apply pw_below_drewN | apply below_drew1 | refine below_set ?_ GE164.out) | exact HB.out)))); have n2_ := Aside0.mk (blk_below (g := gb164) (o := .cells #[.slice Ao88 t165.length co88, .string t168, .string t169, .string t170, .int .u64 t171, .int .i64 t172] 25 (0, 0)) (by (with_reducible repeat (first | refine blk_drewN ?_ _ | refine blk_drew ?_ | refine blk_alloc ?_ _)); refine blk_put (cs := #[.slice Ao88 t165.length co88, .string t168, .string t169, .string t170, .int .u64 t171, .int .i64 a0_5]) ?_ 5 _ rfl; (with_reducible repeat (first | refine blk_drewN ?_ _ | refine blk_drew ?_ | refine blk_alloc ?_ _)); refine blk_put (cs := #[.slice Ao88 t165.length co88, .string t168, .string t169, .string t170, .int .u64 a0_4, .int .i64 a0_5]) ?_ 4 _ rfl; (with_reducible repeat (first | refine blk_drewN ?_ _ | refine blk_drew ?_ | refine blk_alloc ?_ _)); refine blk_put (cs := #[.slice Ao88 t165.length co88, .string t168, .string t169, .string a0_3, .int .u64 a0_4, .int .i64 a0_5]) ?_ 3 _ rfl; (with_reducible repeat (first | refine blk_drewN ?_ _ | refine blk_drew ?_ | refine blk_alloc ?_ _)); refine blk_put (cs := #[.slice Ao88 t165.length co88, .string t168, .string a0_2, .string a0_3, .int .u64 a0_4, .int .i64 a0_5]) ?_ 2 _ rfl; (with_reducible repeat (first | refine blk_drewN ?_ _ | refine blk_drew ?_ | refine blk_alloc ?_ _)); refine blk_put (cs := #[.slice Ao88 t165.length co88, .string a0_1, .string a0_2, .string a0_3, .int .u64 a0_4, .int .i64 a0_5]) ?_ 1 _ rfl; (with_reducible repeat (first | refine blk_drewN ?_ _ | refine blk_drew ?_ | refine blk_alloc ?_ _)); refine blk_put (cs := #[.slice A0_0 l0_0.length c0_0, .string a0_1, .string a0_2, .string a0_3, .int .u64 a0_4, .int .i64 a0_5]) ?_ 0 _ rfl; (with_reducible repeat (first | refine blk_drewN ?_ _ | refine blk_drew ?_ | refine blk_alloc ?_ _)); exact BK164.out) hb); have n3_ := Aside0.mk (below_step (by repeat (first | (with_reducible first | exact HB.out | apply below_alloc | apply pw_below_drewN | apply below_drew1 | refine below_set ?_ GE164.out) | exact HB.out)) hb); clear HO167; clear BK164; clear HB; have HO167 := n0_; have HO176 := n1_; have BK164 := n2_; have HB := n3_; clear n0_ n1_ n2_ n3_; (try clear hb); (try clear hb2); (try clear hk); (try clear hi); (try clear ho0)) | (go_at_call 14; (with_reducible refine (cellarerlaw07_awake.calls  t177 _ A84.out).mono ?_); rintro e w91 ⟨rfl, hb⟩; have n0_ := Aside0.mk (Kd.S_below (by (with_reducible repeat (first | apply Kd.S_alloc | apply Kd.S_drewN | apply Kd.S_drew)); exact HO167.out) hb); have n1_ := Aside0.mk (Kd.R_below (by (with_reducible repeat (first | apply Kd.R_alloc | apply Kd.R_drewN | apply Kd.R_drew)); exact HO176.out) hb); have n2_ := Aside0.mk (blk_below (g := gb164) (o := .cells #[.slice Ao88 t165.length co88, .string t168, .string t169, .string t170, .int .u64 t171, .int .i64 t172] 25 (0, 0)) (by (with_reducible repeat (first | refine blk_drewN ?_ _ | refine blk_drew ?_ | refine blk_alloc ?_ _)); exact BK164.out) hb); have n3_ := Aside0.mk (below_step (by repeat (first | (with_reducible first | exact HB.out | apply below_alloc | apply pw_below_drewN | apply below_drew1 | refine below_set ?_ GE164.out) | exact HB.out)) hb); clear HO167; clear HO176; clear BK164; clear HB; have HO167 := n0_; have HO176 := n1_; have BK164 := n2_; have HB := n3_; clear n0_ n1_ n2_ n3_; (try clear hb); (try clear hb2); (try clear hk); (try clear hi))))
  go_ret
  exact ⟨by first | rfl | (simp [errW_none, errW_some] <;> rfl) | (simp [*, errW_none, errW_some] <;> rfl), by repeat (first | (with_reducible first | exact HB.out | apply below_alloc | apply pw_below_drewN | apply below_drew1 | refine below_set ?_ GE164.out) | exact HB.out)⟩

/-- THE ONE PURE STATEMENT of cellarerlaw07_PagerWhole. -/
-- GIVEN cellarerlaw07_PagerWhole.Pure
def cellarerlaw07_PagerWhole.Pure : Prop := ∀ (l0_0 : List (S50)) (a0_1 : ByteArray) (a0_2 : ByteArray) (a0_3 : ByteArray) (a0_4 : Int) (a0_5 : Int) (l1 : List Int), okS25 (⟨l0_0, a0_1, a0_2, a0_3, a0_4, a0_5⟩ : S25) → (l1.length ≤ maxLen ∧ ∀ y1_ ∈ l1, (Lit.int .u8 y1_).wf = true) → ∃ k, cellarerlaw07_PagerWhole.f k l0_0 a0_1 a0_2 a0_3 a0_4 a0_5 l1 = some true
end Go.Proofs.Ytcnnijkgiioniaa.P
