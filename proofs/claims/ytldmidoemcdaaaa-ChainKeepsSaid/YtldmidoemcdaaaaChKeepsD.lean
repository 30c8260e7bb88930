/-
  cellarerlaw05.ChainKeeps, what it computes.
-/
import Derived.Test.YtldmidoemcdaaaaPx2
import Derived.Test.YtldmidoemcdaaaaPx7
import Derived.Test.YtldmidoemcdaaaaPx3
import Derived.Test.YtldmidoemcdaaaaPx10
import Derived.Test.YtldmidoemcdaaaaPx16
import Derived.Test.YtldmidoemcdaaaaPx11
import Derived.Test.YtldmidoemcdaaaaChMap
import Derived.OpenShut
import Derived.Test.YtldmidoemcdaaaaPxOpens
import Derived.Test.YtldmidoemcdaaaaPx1
set_option linter.unusedVariables false
set_option linter.unusedSimpArgs false
namespace Go.Proofs.Ytldmidoemcdaaaa.P
open Go Go.RowKit Go.Maps Go.Proofs.YtldmidoemcdaaaaW.PrintWords Go.Proofs.YtldmidoemcdaaaaW.PrintLast Go.Proofs.YtldmidoemcdaaaaW.PrintMore Go.Proofs.Ytldmidoemcdaaaa Go.Proofs.Ytldmidoemcdaaaa.IdxV
attribute [local go_sem] max2_int min2_int max_two min_two max_three min_three max_four min_four
attribute [local go_sem high] eqA25

mutual
def cellarerlaw05_ChainKeeps.l0 : Nat → List (S42) → List (S25) → List (S25) → Int → Option (Bool)
  | 0, _, _, _, _ => none
  | k + 1, x0, x3, x4, x5 => if x5 < (x0.length : Int) then (cellarerlaw05_ChainKeeps.j1 k x0 x3 x4 x5 (decide (x5 < 30))) else (cellarerlaw05_ChainKeeps.j1 k x0 x3 x4 x5 false)
def cellarerlaw05_ChainKeeps.j1 : Nat → List (S42) → List (S25) → List (S25) → Int → Bool → Option (Bool)
  | 0, _, _, _, _, _ => none
  | k + 1, x0, x3, x4, x5, x25 => if x25 = true then (if 0 ≤ x5 then (if x5 < (x0.length : Int) then ((cellarerlaw05_One.f (IntKind.u64.wrap (wrap64 (x5 + 1))) ((rd_T42 x0 x5).f2) false x5).bind fun bt148 => (if (rd_T42 x0 x5).f1 = true then ((chain_Delete.f k x3 (wrap64 (Int.tmod ((rd_T42 x0 x5).f0) 3)) (IntKind.u64.wrap (wrap64 (x5 + 1))) x5).bind fun bt154 => (cellarerlaw05_ChainKeeps.j2 k x0 x3 x4 x5 (wrap64 (Int.tmod ((rd_T42 x0 x5).f0) 3)) bt154.1 bt154.2 bt148.1 (⟨#[]⟩ : ByteArray) true bt148.2.2.2)) else ((chain_Put.f x3 (wrap64 (Int.tmod ((rd_T42 x0 x5).f0) 3)) bt148.1 bt148.2.1 bt148.2.2.1 bt148.2.2.2).bind fun bt158 => (cellarerlaw05_ChainKeeps.j2 k x0 x3 x4 x5 (wrap64 (Int.tmod ((rd_T42 x0 x5).f0) 3)) bt158.1 bt158.2 bt148.1 bt148.2.1 bt148.2.2.1 bt148.2.2.2)))) else (none)) else (none)) else ((cellarerlaw05_awake.f).bind fun t145 => (some t145))
def cellarerlaw05_ChainKeeps.j2 : Nat → List (S42) → List (S25) → List (S25) → Int → Int → List (S25) → Int → Int → ByteArray → Bool → Int → Option (Bool)
  | 0, _, _, _, _, _, _, _, _, _, _, _ => none
  | k + 1, x0, x3, x4, x5, x6, x9, x10, x153000, x153001, x153002, x153003 => if x10 = 0 then (if x6 = 1 then (if x4.length < 3518437208883 then (cellarerlaw05_ChainKeeps.j4 k x0 (x4 ++ [(⟨x153000, x153001, x153002, x153003⟩ : S25)]) x5 x6 x9 x153000 x153001 x153002 x153003) else (none)) else (cellarerlaw05_ChainKeeps.j4 k x0 x4 x5 x6 x9 x153000 x153001 x153002 x153003)) else (if x10 = 6 then (if (x3.length : Int) < 20 then (cellarerlaw05_ChainKeeps.j3 k x0 x3 x4 x5 true) else (if x10 = 4 then (if 0 ≤ x5 then (if x5 < (x0.length : Int) then (if ((rd_T42 x0 x5).f1 = true) then (if x10 = 1 then (cellarerlaw05_ChainKeeps.j3 k x0 x3 x4 x5 (decide ((x153001.size : Int) ≤ 2000))) else (cellarerlaw05_ChainKeeps.j3 k x0 x3 x4 x5 false)) else (cellarerlaw05_ChainKeeps.j3 k x0 x3 x4 x5 true)) else (none)) else (none)) else (if x10 = 1 then (cellarerlaw05_ChainKeeps.j3 k x0 x3 x4 x5 (decide ((x153001.size : Int) ≤ 2000))) else (cellarerlaw05_ChainKeeps.j3 k x0 x3 x4 x5 false)))) else (if x10 = 4 then (if 0 ≤ x5 then (if x5 < (x0.length : Int) then (if ((rd_T42 x0 x5).f1 = true) then (if x10 = 1 then (cellarerlaw05_ChainKeeps.j3 k x0 x3 x4 x5 (decide ((x153001.size : Int) ≤ 2000))) else (cellarerlaw05_ChainKeeps.j3 k x0 x3 x4 x5 false)) else (cellarerlaw05_ChainKeeps.j3 k x0 x3 x4 x5 true)) else (none)) else (none)) else (if x10 = 1 then (cellarerlaw05_ChainKeeps.j3 k x0 x3 x4 x5 (decide ((x153001.size : Int) ≤ 2000))) else (cellarerlaw05_ChainKeeps.j3 k x0 x3 x4 x5 false))))
def cellarerlaw05_ChainKeeps.j4 : Nat → List (S42) → List (S25) → Int → Int → List (S25) → Int → ByteArray → Bool → Int → Option (Bool)
  | 0, _, _, _, _, _, _, _, _, _ => none
  | k + 1, x0, x4, x5, x6, x9, x153000, x153001, x153002, x153003 => if x6 = 1 then (cellarerlaw05_ChainKeeps.j5 k x0 x4 x5 x6 x9 x153000 x153001 x153002 x153003) else (cellarerlaw05_ChainKeeps.j5 k x0 x4 x5 x6 x9 0 x153001 x153002 x153003)
def cellarerlaw05_ChainKeeps.j5 : Nat → List (S42) → List (S25) → Int → Int → List (S25) → Int → ByteArray → Bool → Int → Option (Bool)
  | 0, _, _, _, _, _, _, _, _, _ => none
  | k + 1, x0, x4, x5, x6, x9, x153000, x153001, x153002, x153003 => (chain_Get.f k x9).bind fun bt167 => (if x6 = 0 then (if 0 ≤ x5 then (if x5 < (x0.length : Int) then (cellarerlaw05_ChainKeeps.j6 k x0 x4 x5 x9 bt167.2.2.2.2 (!((rd_T42 x0 x5).f1)) x153000 x153001 x153002 x153003 bt167.1 bt167.2.1 bt167.2.2.1 bt167.2.2.2.1) else (none)) else (none)) else (cellarerlaw05_ChainKeeps.j6 k x0 x4 x5 x9 bt167.2.2.2.2 true x153000 x153001 x153002 x153003 bt167.1 bt167.2.1 bt167.2.2.1 bt167.2.2.2.1))
def cellarerlaw05_ChainKeeps.j6 : Nat → List (S42) → List (S25) → Int → List (S25) → Int → Bool → Int → ByteArray → Bool → Int → Int → ByteArray → Bool → Int → Option (Bool)
  | 0, _, _, _, _, _, _, _, _, _, _, _, _, _, _ => none
  | k + 1, x0, x4, x5, x9, x12, x123, x153000, x153001, x153002, x153003, x173000, x173001, x173002, x173003 => if x123 = true then (if (!(x173000 == x153000) || (!(x173001.toList == x153001.toList) || (!(x173002 == x153002) || (!(x173003 == x153003))))) = true then (some false) else (if ((x12 == 13) != x153002) = true then (some false) else (cellarerlaw05_ChainKeeps.j7 k x0 x4 x5 x9))) else (cellarerlaw05_ChainKeeps.j7 k x0 x4 x5 x9)
def cellarerlaw05_ChainKeeps.j7 : Nat → List (S42) → List (S25) → Int → List (S25) → Option (Bool)
  | 0, _, _, _, _ => none
  | k + 1, x0, x4, x5, x9 => (ChMap.laidAt x9 x4).bind fun t174 => (if t174 = true then ((chain_Check.f k x9).bind fun t175 => (if t175 = 0 then (cellarerlaw05_ChainKeeps.l0 k x0 x9 x4 (wrap64 (x5 + 1))) else (some false))) else (some false))
def cellarerlaw05_ChainKeeps.j3 : Nat → List (S42) → List (S25) → List (S25) → Int → Bool → Option (Bool)
  | 0, _, _, _, _, _ => none
  | k + 1, x0, x3, x4, x5, x100 => if x100 = true then (some false) else (cellarerlaw05_ChainKeeps.l0 k x0 x3 x4 (wrap64 (x5 + 1)))
end
def cellarerlaw05_ChainKeeps.f (k : Nat) (l0 : List (S42)) : Option (Bool) := cellarerlaw05_ChainKeeps.l0 k l0 ([] : List (S25)) ([] : List (S25)) 0
theorem cellarerlaw05_ChainKeeps.mono_l : ∀ k, (∀ y0 y1 y2 y3, LeO (cellarerlaw05_ChainKeeps.l0 k y0 y1 y2 y3) (cellarerlaw05_ChainKeeps.l0 (k + 1) y0 y1 y2 y3)) ∧ (∀ y0 y1 y2 y3 y4, LeO (cellarerlaw05_ChainKeeps.j1 k y0 y1 y2 y3 y4) (cellarerlaw05_ChainKeeps.j1 (k + 1) y0 y1 y2 y3 y4)) ∧ (∀ y0 y1 y2 y3 y4 y5 y6 y7 y8 y9 y10, LeO (cellarerlaw05_ChainKeeps.j2 k y0 y1 y2 y3 y4 y5 y6 y7 y8 y9 y10) (cellarerlaw05_ChainKeeps.j2 (k + 1) y0 y1 y2 y3 y4 y5 y6 y7 y8 y9 y10)) ∧ (∀ y0 y1 y2 y3 y4 y5 y6 y7 y8, LeO (cellarerlaw05_ChainKeeps.j4 k y0 y1 y2 y3 y4 y5 y6 y7 y8) (cellarerlaw05_ChainKeeps.j4 (k + 1) y0 y1 y2 y3 y4 y5 y6 y7 y8)) ∧ (∀ y0 y1 y2 y3 y4 y5 y6 y7 y8, LeO (cellarerlaw05_ChainKeeps.j5 k y0 y1 y2 y3 y4 y5 y6 y7 y8) (cellarerlaw05_ChainKeeps.j5 (k + 1) y0 y1 y2 y3 y4 y5 y6 y7 y8)) ∧ (∀ y0 y1 y2 y3 y4 y5 y6 y7 y8 y9 y10 y11 y12 y13, LeO (cellarerlaw05_ChainKeeps.j6 k y0 y1 y2 y3 y4 y5 y6 y7 y8 y9 y10 y11 y12 y13) (cellarerlaw05_ChainKeeps.j6 (k + 1) y0 y1 y2 y3 y4 y5 y6 y7 y8 y9 y10 y11 y12 y13)) ∧ (∀ y0 y1 y2 y3, LeO (cellarerlaw05_ChainKeeps.j7 k y0 y1 y2 y3) (cellarerlaw05_ChainKeeps.j7 (k + 1) y0 y1 y2 y3)) ∧ (∀ y0 y1 y2 y3 y4, LeO (cellarerlaw05_ChainKeeps.j3 k y0 y1 y2 y3 y4) (cellarerlaw05_ChainKeeps.j3 (k + 1) y0 y1 y2 y3 y4))
  | 0 => ⟨fun _ _ _ _ r h => by simp [cellarerlaw05_ChainKeeps.l0] at h, fun _ _ _ _ _ r h => by simp [cellarerlaw05_ChainKeeps.j1] at h, fun _ _ _ _ _ _ _ _ _ _ _ r h => by simp [cellarerlaw05_ChainKeeps.j2] at h, fun _ _ _ _ _ _ _ _ _ r h => by simp [cellarerlaw05_ChainKeeps.j4] at h, fun _ _ _ _ _ _ _ _ _ r h => by simp [cellarerlaw05_ChainKeeps.j5] at h, fun _ _ _ _ _ _ _ _ _ _ _ _ _ _ r h => by simp [cellarerlaw05_ChainKeeps.j6] at h, fun _ _ _ _ r h => by simp [cellarerlaw05_ChainKeeps.j7] at h, fun _ _ _ _ _ r h => by simp [cellarerlaw05_ChainKeeps.j3] at h⟩
  | k + 1 => by
    obtain ⟨ih0, ih1, ih2, ih3, ih4, ih5, ih6, ih7⟩ := cellarerlaw05_ChainKeeps.mono_l k
    refine ⟨?_, ?_, ?_, ?_, ?_, ?_, ?_, ?_⟩
    · intro y0 y1 y2 y3
      unfold cellarerlaw05_ChainKeeps.l0
      repeat' first
      | (with_reducible exact ih0 _ _ _ _)
      | (with_reducible exact ih1 _ _ _ _ _)
      | (with_reducible exact ih2 _ _ _ _ _ _ _ _ _ _ _)
      | (with_reducible exact ih3 _ _ _ _ _ _ _ _ _)
      | (with_reducible exact ih4 _ _ _ _ _ _ _ _ _)
      | (with_reducible exact ih5 _ _ _ _ _ _ _ _ _ _ _ _ _ _)
      | (with_reducible exact ih6 _ _ _ _)
      | (with_reducible exact ih7 _ _ _ _ _)
      | (with_reducible exact chain_Check.mono _ _)
      | (with_reducible exact chain_Delete.mono _ _ _ _ _)
      | (with_reducible exact chain_Get.mono _ _)
      | (with_reducible exact LeO.refl _)
      | (with_reducible exact LeO.none _)
      | (with_reducible refine LeO.ite ?_ ?_)
      | (with_reducible refine LeO.bind ?_ (fun _ => ?_))
      | exact ih0 _ _ _ _
      | exact ih1 _ _ _ _ _
      | exact ih2 _ _ _ _ _ _ _ _ _ _ _
      | exact ih3 _ _ _ _ _ _ _ _ _
      | exact ih4 _ _ _ _ _ _ _ _ _
      | exact ih5 _ _ _ _ _ _ _ _ _ _ _ _ _ _
      | exact ih6 _ _ _ _
      | exact ih7 _ _ _ _ _
      | exact chain_Check.mono _ _
      | exact chain_Delete.mono _ _ _ _ _
      | exact chain_Get.mono _ _
      | exact LeO.none _
      | refine LeO.ite ?_ ?_
      | refine LeO.bind ?_ (fun _ => ?_)
    · intro y0 y1 y2 y3 y4
      unfold cellarerlaw05_ChainKeeps.j1
      repeat' first
      | (with_reducible exact ih0 _ _ _ _)
      | (with_reducible exact ih1 _ _ _ _ _)
      | (with_reducible exact ih2 _ _ _ _ _ _ _ _ _ _ _)
      | (with_reducible exact ih3 _ _ _ _ _ _ _ _ _)
      | (with_reducible exact ih4 _ _ _ _ _ _ _ _ _)
      | (with_reducible exact ih5 _ _ _ _ _ _ _ _ _ _ _ _ _ _)
      | (with_reducible exact ih6 _ _ _ _)
      | (with_reducible exact ih7 _ _ _ _ _)
      | (with_reducible exact chain_Check.mono _ _)
      | (with_reducible exact chain_Delete.mono _ _ _ _ _)
      | (with_reducible exact chain_Get.mono _ _)
      | (with_reducible exact LeO.refl _)
      | (with_reducible exact LeO.none _)
      | (with_reducible refine LeO.ite ?_ ?_)
      | (with_reducible refine LeO.bind ?_ (fun _ => ?_))
      | exact ih0 _ _ _ _
      | exact ih1 _ _ _ _ _
      | exact ih2 _ _ _ _ _ _ _ _ _ _ _
      | exact ih3 _ _ _ _ _ _ _ _ _
      | exact ih4 _ _ _ _ _ _ _ _ _
      | exact ih5 _ _ _ _ _ _ _ _ _ _ _ _ _ _
      | exact ih6 _ _ _ _
      | exact ih7 _ _ _ _ _
      | exact chain_Check.mono _ _
      | exact chain_Delete.mono _ _ _ _ _
      | exact chain_Get.mono _ _
      | exact LeO.none _
      | refine LeO.ite ?_ ?_
      | refine LeO.bind ?_ (fun _ => ?_)
    · intro y0 y1 y2 y3 y4 y5 y6 y7 y8 y9 y10
      unfold cellarerlaw05_ChainKeeps.j2
      repeat' first
      | (with_reducible exact ih0 _ _ _ _)
      | (with_reducible exact ih1 _ _ _ _ _)
      | (with_reducible exact ih2 _ _ _ _ _ _ _ _ _ _ _)
      | (with_reducible exact ih3 _ _ _ _ _ _ _ _ _)
      | (with_reducible exact ih4 _ _ _ _ _ _ _ _ _)
      | (with_reducible exact ih5 _ _ _ _ _ _ _ _ _ _ _ _ _ _)
      | (with_reducible exact ih6 _ _ _ _)
      | (with_reducible exact ih7 _ _ _ _ _)
      | (with_reducible exact chain_Check.mono _ _)
      | (with_reducible exact chain_Delete.mono _ _ _ _ _)
      | (with_reducible exact chain_Get.mono _ _)
      | (with_reducible exact LeO.refl _)
      | (with_reducible exact LeO.none _)
      | (with_reducible refine LeO.ite ?_ ?_)
      | (with_reducible refine LeO.bind ?_ (fun _ => ?_))
      | exact ih0 _ _ _ _
      | exact ih1 _ _ _ _ _
      | exact ih2 _ _ _ _ _ _ _ _ _ _ _
      | exact ih3 _ _ _ _ _ _ _ _ _
      | exact ih4 _ _ _ _ _ _ _ _ _
      | exact ih5 _ _ _ _ _ _ _ _ _ _ _ _ _ _
      | exact ih6 _ _ _ _
      | exact ih7 _ _ _ _ _
      | exact chain_Check.mono _ _
      | exact chain_Delete.mono _ _ _ _ _
      | exact chain_Get.mono _ _
      | exact LeO.none _
      | refine LeO.ite ?_ ?_
      | refine LeO.bind ?_ (fun _ => ?_)
    · intro y0 y1 y2 y3 y4 y5 y6 y7 y8
      unfold cellarerlaw05_ChainKeeps.j4
      repeat' first
      | (with_reducible exact ih0 _ _ _ _)
      | (with_reducible exact ih1 _ _ _ _ _)
      | (with_reducible exact ih2 _ _ _ _ _ _ _ _ _ _ _)
      | (with_reducible exact ih3 _ _ _ _ _ _ _ _ _)
      | (with_reducible exact ih4 _ _ _ _ _ _ _ _ _)
      | (with_reducible exact ih5 _ _ _ _ _ _ _ _ _ _ _ _ _ _)
      | (with_reducible exact ih6 _ _ _ _)
      | (with_reducible exact ih7 _ _ _ _ _)
      | (with_reducible exact chain_Check.mono _ _)
      | (with_reducible exact chain_Delete.mono _ _ _ _ _)
      | (with_reducible exact chain_Get.mono _ _)
      | (with_reducible exact LeO.refl _)
      | (with_reducible exact LeO.none _)
      | (with_reducible refine LeO.ite ?_ ?_)
      | (with_reducible refine LeO.bind ?_ (fun _ => ?_))
      | exact ih0 _ _ _ _
      | exact ih1 _ _ _ _ _
      | exact ih2 _ _ _ _ _ _ _ _ _ _ _
      | exact ih3 _ _ _ _ _ _ _ _ _
      | exact ih4 _ _ _ _ _ _ _ _ _
      | exact ih5 _ _ _ _ _ _ _ _ _ _ _ _ _ _
      | exact ih6 _ _ _ _
      | exact ih7 _ _ _ _ _
      | exact chain_Check.mono _ _
      | exact chain_Delete.mono _ _ _ _ _
      | exact chain_Get.mono _ _
      | exact LeO.none _
      | refine LeO.ite ?_ ?_
      | refine LeO.bind ?_ (fun _ => ?_)
    · intro y0 y1 y2 y3 y4 y5 y6 y7 y8
      unfold cellarerlaw05_ChainKeeps.j5
      repeat' first
      | (with_reducible exact ih0 _ _ _ _)
      | (with_reducible exact ih1 _ _ _ _ _)
      | (with_reducible exact ih2 _ _ _ _ _ _ _ _ _ _ _)
      | (with_reducible exact ih3 _ _ _ _ _ _ _ _ _)
      | (with_reducible exact ih4 _ _ _ _ _ _ _ _ _)
      | (with_reducible exact ih5 _ _ _ _ _ _ _ _ _ _ _ _ _ _)
      | (with_reducible exact ih6 _ _ _ _)
      | (with_reducible exact ih7 _ _ _ _ _)
      | (with_reducible exact chain_Check.mono _ _)
      | (with_reducible exact chain_Delete.mono _ _ _ _ _)
      | (with_reducible exact chain_Get.mono _ _)
      | (with_reducible exact LeO.refl _)
      | (with_reducible exact LeO.none _)
      | (with_reducible refine LeO.ite ?_ ?_)
      | (with_reducible refine LeO.bind ?_ (fun _ => ?_))
      | exact ih0 _ _ _ _
      | exact ih1 _ _ _ _ _
      | exact ih2 _ _ _ _ _ _ _ _ _ _ _
      | exact ih3 _ _ _ _ _ _ _ _ _
      | exact ih4 _ _ _ _ _ _ _ _ _
      | exact ih5 _ _ _ _ _ _ _ _ _ _ _ _ _ _
      | exact ih6 _ _ _ _
      | exact ih7 _ _ _ _ _
      | exact chain_Check.mono _ _
      | exact chain_Delete.mono _ _ _ _ _
      | exact chain_Get.mono _ _
      | exact LeO.none _
      | refine LeO.ite ?_ ?_
      | refine LeO.bind ?_ (fun _ => ?_)
    · intro y0 y1 y2 y3 y4 y5 y6 y7 y8 y9 y10 y11 y12 y13
      unfold cellarerlaw05_ChainKeeps.j6
      repeat' first
      | (with_reducible exact ih0 _ _ _ _)
      | (with_reducible exact ih1 _ _ _ _ _)
      | (with_reducible exact ih2 _ _ _ _ _ _ _ _ _ _ _)
      | (with_reducible exact ih3 _ _ _ _ _ _ _ _ _)
      | (with_reducible exact ih4 _ _ _ _ _ _ _ _ _)
      | (with_reducible exact ih5 _ _ _ _ _ _ _ _ _ _ _ _ _ _)
      | (with_reducible exact ih6 _ _ _ _)
      | (with_reducible exact ih7 _ _ _ _ _)
      | (with_reducible exact chain_Check.mono _ _)
      | (with_reducible exact chain_Delete.mono _ _ _ _ _)
      | (with_reducible exact chain_Get.mono _ _)
      | (with_reducible exact LeO.refl _)
      | (with_reducible exact LeO.none _)
      | (with_reducible refine LeO.ite ?_ ?_)
      | (with_reducible refine LeO.bind ?_ (fun _ => ?_))
      | exact ih0 _ _ _ _
      | exact ih1 _ _ _ _ _
      | exact ih2 _ _ _ _ _ _ _ _ _ _ _
      | exact ih3 _ _ _ _ _ _ _ _ _
      | exact ih4 _ _ _ _ _ _ _ _ _
      | exact ih5 _ _ _ _ _ _ _ _ _ _ _ _ _ _
      | exact ih6 _ _ _ _
      | exact ih7 _ _ _ _ _
      | exact chain_Check.mono _ _
      | exact chain_Delete.mono _ _ _ _ _
      | exact chain_Get.mono _ _
      | exact LeO.none _
      | refine LeO.ite ?_ ?_
      | refine LeO.bind ?_ (fun _ => ?_)
    · intro y0 y1 y2 y3
      unfold cellarerlaw05_ChainKeeps.j7
      repeat' first
      | (with_reducible exact ih0 _ _ _ _)
      | (with_reducible exact ih1 _ _ _ _ _)
      | (with_reducible exact ih2 _ _ _ _ _ _ _ _ _ _ _)
      | (with_reducible exact ih3 _ _ _ _ _ _ _ _ _)
      | (with_reducible exact ih4 _ _ _ _ _ _ _ _ _)
      | (with_reducible exact ih5 _ _ _ _ _ _ _ _ _ _ _ _ _ _)
      | (with_reducible exact ih6 _ _ _ _)
      | (with_reducible exact ih7 _ _ _ _ _)
      | (with_reducible exact chain_Check.mono _ _)
      | (with_reducible exact chain_Delete.mono _ _ _ _ _)
      | (with_reducible exact chain_Get.mono _ _)
      | (with_reducible exact LeO.refl _)
      | (with_reducible exact LeO.none _)
      | (with_reducible refine LeO.ite ?_ ?_)
      | (with_reducible refine LeO.bind ?_ (fun _ => ?_))
      | exact ih0 _ _ _ _
      | exact ih1 _ _ _ _ _
      | exact ih2 _ _ _ _ _ _ _ _ _ _ _
      | exact ih3 _ _ _ _ _ _ _ _ _
      | exact ih4 _ _ _ _ _ _ _ _ _
      | exact ih5 _ _ _ _ _ _ _ _ _ _ _ _ _ _
      | exact ih6 _ _ _ _
      | exact ih7 _ _ _ _ _
      | exact chain_Check.mono _ _
      | exact chain_Delete.mono _ _ _ _ _
      | exact chain_Get.mono _ _
      | exact LeO.none _
      | refine LeO.ite ?_ ?_
      | refine LeO.bind ?_ (fun _ => ?_)
    · intro y0 y1 y2 y3 y4
      unfold cellarerlaw05_ChainKeeps.j3
      repeat' first
      | (with_reducible exact ih0 _ _ _ _)
      | (with_reducible exact ih1 _ _ _ _ _)
      | (with_reducible exact ih2 _ _ _ _ _ _ _ _ _ _ _)
      | (with_reducible exact ih3 _ _ _ _ _ _ _ _ _)
      | (with_reducible exact ih4 _ _ _ _ _ _ _ _ _)
      | (with_reducible exact ih5 _ _ _ _ _ _ _ _ _ _ _ _ _ _)
      | (with_reducible exact ih6 _ _ _ _)
      | (with_reducible exact ih7 _ _ _ _ _)
      | (with_reducible exact chain_Check.mono _ _)
      | (with_reducible exact chain_Delete.mono _ _ _ _ _)
      | (with_reducible exact chain_Get.mono _ _)
      | (with_reducible exact LeO.refl _)
      | (with_reducible exact LeO.none _)
      | (with_reducible refine LeO.ite ?_ ?_)
      | (with_reducible refine LeO.bind ?_ (fun _ => ?_))
      | exact ih0 _ _ _ _
      | exact ih1 _ _ _ _ _
      | exact ih2 _ _ _ _ _ _ _ _ _ _ _
      | exact ih3 _ _ _ _ _ _ _ _ _
      | exact ih4 _ _ _ _ _ _ _ _ _
      | exact ih5 _ _ _ _ _ _ _ _ _ _ _ _ _ _
      | exact ih6 _ _ _ _
      | exact ih7 _ _ _ _ _
      | exact chain_Check.mono _ _
      | exact chain_Delete.mono _ _ _ _ _
      | exact chain_Get.mono _ _
      | exact LeO.none _
      | refine LeO.ite ?_ ?_
      | refine LeO.bind ?_ (fun _ => ?_)
theorem cellarerlaw05_ChainKeeps.mono : ∀ a0 k, LeO (cellarerlaw05_ChainKeeps.f k a0) (cellarerlaw05_ChainKeeps.f (k + 1) a0) := by
  intro a0 k
  obtain ⟨ih0, ih1, ih2, ih3, ih4, ih5, ih6, ih7⟩ := cellarerlaw05_ChainKeeps.mono_l k
  unfold cellarerlaw05_ChainKeeps.f
  repeat' first
      | (with_reducible exact ih0 _ _ _ _)
      | (with_reducible exact ih1 _ _ _ _ _)
      | (with_reducible exact ih2 _ _ _ _ _ _ _ _ _ _ _)
      | (with_reducible exact ih3 _ _ _ _ _ _ _ _ _)
      | (with_reducible exact ih4 _ _ _ _ _ _ _ _ _)
      | (with_reducible exact ih5 _ _ _ _ _ _ _ _ _ _ _ _ _ _)
      | (with_reducible exact ih6 _ _ _ _)
      | (with_reducible exact ih7 _ _ _ _ _)
      | (with_reducible exact chain_Check.mono _ _)
      | (with_reducible exact chain_Delete.mono _ _ _ _ _)
      | (with_reducible exact chain_Get.mono _ _)
      | (with_reducible exact LeO.refl _)
      | (with_reducible exact LeO.none _)
      | (with_reducible refine LeO.ite ?_ ?_)
      | (with_reducible refine LeO.bind ?_ (fun _ => ?_))
      | exact ih0 _ _ _ _
      | exact ih1 _ _ _ _ _
      | exact ih2 _ _ _ _ _ _ _ _ _ _ _
      | exact ih3 _ _ _ _ _ _ _ _ _
      | exact ih4 _ _ _ _ _ _ _ _ _
      | exact ih5 _ _ _ _ _ _ _ _ _ _ _ _ _ _
      | exact ih6 _ _ _ _
      | exact ih7 _ _ _ _ _
      | exact chain_Check.mono _ _
      | exact chain_Delete.mono _ _ _ _ _
      | exact chain_Get.mono _ _
      | exact LeO.none _
      | refine LeO.ite ?_ ?_
      | refine LeO.bind ?_ (fun _ => ?_)
end Go.Proofs.Ytldmidoemcdaaaa.P
