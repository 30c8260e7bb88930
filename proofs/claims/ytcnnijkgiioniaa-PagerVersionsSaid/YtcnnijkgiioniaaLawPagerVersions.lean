/- For every input PagerVersions returns true, and each argument reads behind the call as it read before: no further condition. -/
import Derived.WalkKit
import Derived.ProofKit
import Derived.OpenShut
import Derived.ShutString
import Derived.ChangeOld
import Derived.Below
import Derived.SizedLaws
import Derived.Carry
import Derived.Lib.SmallJoins
import Derived.Test.YtcnnijkgiioniaaProg
import Derived.Test.YtcnnijkgiioniaaCmp
import Derived.Test.YtcnnijkgiioniaaIdxSpec
import Derived.Test.YtcnnijkgiioniaaNmSpec
import Derived.Test.YtcnnijkgiioniaaOpens
import Derived.Test.YtcnnijkgiioniaaPgAwake
import Derived.Test.YtcnnijkgiioniaaPgRowI
import Derived.Test.YtcnnijkgiioniaaPgVers
import Derived.Test.YtcnnijkgiioniaaPurePagerVersions
import Derived.Test.YtcnnijkgiioniaaPx0
import Derived.Test.YtcnnijkgiioniaaPxOpens
import Derived.Test.YtcnnijkgiioniaaRows
import Derived.Test.YtcnnijkgiioniaaV0
namespace Go.Proofs.Ytcnnijkgiioniaa.pagerVersions
open Go.ChangeShapes Go.WideShapes Go.ChangeAt Go.RowKit
open Go.ChangeMaps (open_string shut_string)
open Go.Proofs.YtcnnijkgiioniaaW.Opens Go.Proofs.YtcnnijkgiioniaaW.PrintWords
set_option linter.unusedVariables false
set_option linter.unusedSimpArgs false
theorem own : ownKnob Try.prog.godebug = none := by kernel_rfl
theorem laidOut : laidOutB Try.prog = true := by kernel_rfl
set_option maxRecDepth 100000 in
set_option maxHeartbeats 1600000 in
theorem lifted (os : Os) (started : os.Started) (H : Type) (enc : TypeId × Value → H) :
    ReturnsInHanded {} Try.checked os 9 .any (Rows.pagerVersionsSpec.pre6 enc Try.prog Try.f9 Rows.pagerVersionsRow.domain false) (Rows.pagerVersionsSpec.post enc Try.prog Try.f9 false true false false) := by
  refine returnsInHanded_of_change_sized (C := Try.checked) own started (by kernel_rfl) Try.func9
    (ChangeSpec.witness6 (enc := enc) (C := Try.checked) false ⟨#[], #[.slice none 0 0, .slice none 0 0], []⟩ 8 (by kernel_rfl) (by kernel_rfl) (by kernel_rfl) (by kernel_rfl)) ?_
  intro W base args ds gs before hval0 hW hcnd hsz0 _
  have hval : ∀ (j : Nat) t v, Try.f9.params[j]? = some t → args[j]? = some v → Value.okWide Try.prog W .any base t v := hval0
  have hW' := hW
  obtain ⟨p, q, hA0, hV, rfl, hfz, hnd⟩ := hW
  have hA : DataW.TrodAll enc Try.prog W 0 (fun _ => true) true Try.f9.params.toList args.toList ds p := hA0
  rw [Try.params9] at hA hval
  obtain ⟨v0, vs0, d0, ds0, p0, q0, hargs, rfl, rfl, h0, r0⟩ := trodAll_cons hA
  obtain ⟨v1, vs1, d1, ds1, p1, q1, rfl, rfl, rfl, h1, r1⟩ := trodAll_cons r0
  obtain ⟨rfl, rfl, rfl⟩ := trodAll_nil r1
  obtain rfl : args = #[v0, v1] := by cases args; simp_all
  obtain ⟨rfl, rfl⟩ := trodVars_none hV
  obtain ⟨a0, len0, cap0, rfl⟩ := okWide_slice Try.underlying22 (hval 0 22 v0 rfl rfl)
  have kk0 := h0
  have lt0 : ∀ x ∈ p0, x.block < W.heap.size := by obtain ⟨m, hm⟩ := kk0; exact DataW.trod_lt m _ _ _ hm
  obtain ⟨fuel0, hf0⟩ := h0
  obtain ⟨l0, hK0, ok0⟩ := (show Opens Try.prog (Kd.slice 50 P.k50) 22 _ from (Opens.slice Try.underlying22 (by kernel_rfl) P.opens50)).2 _ _ _ _ _ _ _ hf0
  obtain ⟨A0, c0, he0, hc0, hr0⟩ := hK0
  simp [Value.cells] at he0
  obtain ⟨rfl, rfl, rfl⟩ := he0
  obtain ⟨a1, len1, cap1, rfl⟩ := okWide_slice Try.underlying41 (hval 1 41 v1 rfl rfl)
  have kk1 := h1
  have lt1 : ∀ x ∈ p1, x.block < W.heap.size := by obtain ⟨m, hm⟩ := kk1; exact DataW.trod_lt m _ _ _ hm
  obtain ⟨fuel1, hf1⟩ := h1
  obtain ⟨l1, hK1, ok1⟩ := (show Opens Try.prog (Kd.slice 5 (Kd.int .u8)) 41 _ from (Opens.slice Try.underlying41 (by kernel_rfl) (Opens.int Try.underlying5 (by kernel_rfl)))).2 _ _ _ _ _ _ _ hf1
  obtain ⟨A1, c1, he1, hc1, hr1⟩ := hK1
  simp [Value.cells] at he1
  obtain ⟨rfl, rfl, rfl⟩ := he1
  clear hA0 hval0 hsz0
  obtain ⟨k, h⟩ := Pure.PagerVersions l0 l1 ok0 ok1
  refine (P.cellarerlaw07_PagerVersions.calls k _ _ l0 _ _ l1 true W hr0 hc0 hr1 hc1 h rfl).mono fun e W' ⟨he, bel0⟩ => ?_
  have bel : Below W.heap.size W W' := bel0
  subst he
  exact ⟨_, rfl, _, _, _, [], _, [], hW', trodAll_mk1 (shut_bool Try.underlying4 _), (trodAll_cons_mk (Below.trod laidOut (by kernel_rfl) (of_decide_eq_true (by kernel_rfl)) kk0 bel lt0) (trodAll_cons_mk (Below.trod laidOut (by kernel_rfl) (of_decide_eq_true (by kernel_rfl)) kk1 bel lt1) trodAll_mk0)), rfl, bel.frame _, fun h => by cases h⟩
theorem over : Rows.pagerVersionsRow.holds Try.pinned (OpenSpec.ofChange Rows.pagerVersionsSpec) :=
  OpenClaim.holds_of_wide 9 Try.f9 rfl rfl rfl rfl rfl rfl rfl ⟨rfl, rfl, rfl, rfl, rfl⟩ rfl rfl rfl rfl rfl (by kernel_rfl) Try.func9 (by kernel_rfl)
    (of_decide_eq_true (by kernel_rfl)) (by unfold Func.isWrapper; first | (rw [if_pos (by decide +kernel)]; kernel_rfl) | (rw [if_neg (by decide +kernel)]; exact ⟨rfl, rfl⟩))
    (fun os started H enc _ => lifted os started H enc)
theorem proved : Rows.PagerVersionsSaid := over
#print axioms proved
end Go.Proofs.Ytcnnijkgiioniaa.pagerVersions
namespace Go.Proofs.Ytcnnijkgiioniaa
/-- The row, under a short name, for the claim. -/
theorem pagerVersions_holds : Rows.PagerVersionsSaid := pagerVersions.proved
end Go.Proofs.Ytcnnijkgiioniaa
