/- For every input PagerWhole returns true, and each argument reads behind the call as it read before: no further condition. -/
import Derived.Test.YtcnnijkgiioniaaRows
import Derived.Test.YtcnnijkgiioniaaPgWhole
import Derived.Test.YtcnnijkgiioniaaPxOpens
import Derived.Test.YtcnnijkgiioniaaPurePagerWhole
import Derived.WalkKit
import Derived.ProofKit
import Derived.OpenShut
import Derived.ShutString
import Derived.ChangeOld
import Derived.Below
import Derived.SizedLaws
import Derived.Carry
import Derived.Lib.SmallJoins
namespace Go.Proofs.Ytcnnijkgiioniaa.pagerWhole
open Go.ChangeShapes Go.WideShapes Go.ChangeAt Go.RowKit
open Go.ChangeMaps (open_string shut_string)
open Go.Proofs.YtcnnijkgiioniaaW.Opens Go.Proofs.YtcnnijkgiioniaaW.PrintWords
set_option linter.unusedVariables false
set_option linter.unusedSimpArgs false
theorem own : ownKnob Try.prog.godebug = none := by kernel_rfl
theorem laidOut : laidOutB Try.prog = true := by kernel_rfl
set_option maxRecDepth 100000 in
set_option maxHeartbeats 1600000 in
theorem lifted (os : Os) (started : os.Started) (H : Type) (enc : TypeId × Value → H) :
    ReturnsInHanded {} Try.checked os 4 .any (Rows.pagerWholeSpec.pre6 enc Try.prog Try.f4 Rows.pagerWholeRow.domain false) (Rows.pagerWholeSpec.post enc Try.prog Try.f4 false true false false) := by
  refine returnsInHanded_of_change_sized (C := Try.checked) own started (by kernel_rfl) Try.func4
    (ChangeSpec.witness6 (enc := enc) (C := Try.checked) false ⟨#[], #[.agg #[.slice none 0 0, .string ByteArray.empty, .string ByteArray.empty, .string ByteArray.empty, .int .u64 0, .int .i64 0], .slice none 0 0], []⟩ 8 (by kernel_rfl) (by kernel_rfl) (by kernel_rfl) (by kernel_rfl)) ?_
  intro W base args ds gs before hval0 hW hcnd hsz0 _
  have hval : ∀ (j : Nat) t v, Try.f4.params[j]? = some t → args[j]? = some v → Value.okWide Try.prog W .any base t v := hval0
  have hW' := hW
  obtain ⟨p, q, hA0, hV, rfl, hfz, hnd⟩ := hW
  have hA : DataW.TrodAll enc Try.prog W 0 (fun _ => true) true Try.f4.params.toList args.toList ds p := hA0
  rw [Try.params4] at hA hval
  obtain ⟨v0, vs0, d0, ds0, p0, q0, hargs, rfl, rfl, h0, r0⟩ := trodAll_cons hA
  obtain ⟨v1, vs1, d1, ds1, p1, q1, rfl, rfl, rfl, h1, r1⟩ := trodAll_cons r0
  obtain ⟨rfl, rfl, rfl⟩ := trodAll_nil r1
  obtain rfl : args = #[v0, v1] := by cases args; simp_all
  obtain ⟨rfl, rfl⟩ := trodVars_none hV
  obtain ⟨cs0, rfl, hs0⟩ := okWide_struct Try.underlying25 (hval 0 25 v0 rfl rfl)
  have kk0 := h0
  have lt0 : ∀ x ∈ p0, x.block < W.heap.size := by obtain ⟨m, hm⟩ := kk0; exact DataW.trod_lt m _ _ _ hm
  obtain ⟨fuel0, hf0⟩ := h0
  obtain ⟨y0, hK0, ok0⟩ := P.opens25.2 _ _ _ _ _ _ _ hf0
  obtain ⟨A0_0, c0_0, he0, hc0_0, hr0_0⟩ := P.k25_open hK0
  obtain rfl : cs0 = #[.slice A0_0 y0.f0.length c0_0, .string y0.f1, .string y0.f2, .string y0.f3, .int .u64 y0.f4, .int .i64 y0.f5] := by cases cs0; simpa [Value.cells] using he0
  obtain ⟨a1, len1, cap1, rfl⟩ := okWide_slice Try.underlying41 (hval 1 41 v1 rfl rfl)
  have kk1 := h1
  have lt1 : ∀ x ∈ p1, x.block < W.heap.size := by obtain ⟨m, hm⟩ := kk1; exact DataW.trod_lt m _ _ _ hm
  obtain ⟨fuel1, hf1⟩ := h1
  obtain ⟨l1, hK1, ok1⟩ := (show Opens Try.prog (Kd.slice 5 (Kd.int .u8)) 41 _ from (Opens.slice Try.underlying41 (by kernel_rfl) (Opens.int Try.underlying5 (by kernel_rfl)))).2 _ _ _ _ _ _ _ hf1
  obtain ⟨A1, c1, he1, hc1, hr1⟩ := hK1
  simp [Value.cells] at he1
  obtain ⟨rfl, rfl, rfl⟩ := he1
  clear hA0 hval0 hsz0
  obtain ⟨k, h⟩ := Pure.PagerWhole y0.f0 y0.f1 y0.f2 y0.f3 y0.f4 y0.f5 l1 ok0 ok1
  refine (P.cellarerlaw07_PagerWhole.calls k _ _ y0.f0 y0.f1 y0.f2 y0.f3 y0.f4 y0.f5 _ _ l1 true W hr0_0 hc0_0 hr1 hc1 h rfl).mono fun e W' ⟨he, bel0⟩ => ?_
  have bel : Below W.heap.size W W' := bel0
  subst he
  exact ⟨_, rfl, _, _, _, [], _, [], hW', trodAll_mk1 (shut_bool Try.underlying4 _), (trodAll_cons_mk (Below.trod laidOut (by kernel_rfl) (of_decide_eq_true (by kernel_rfl)) kk0 bel lt0) (trodAll_cons_mk (Below.trod laidOut (by kernel_rfl) (of_decide_eq_true (by kernel_rfl)) kk1 bel lt1) trodAll_mk0)), rfl, bel.frame _, fun h => by cases h⟩
theorem over : Rows.pagerWholeRow.holds Try.pinned (OpenSpec.ofChange Rows.pagerWholeSpec) :=
  OpenClaim.holds_of_wide 4 Try.f4 rfl rfl rfl rfl rfl rfl rfl ⟨rfl, rfl, rfl, rfl, rfl⟩ rfl rfl rfl rfl rfl (by kernel_rfl) Try.func4 (by kernel_rfl)
    (of_decide_eq_true (by kernel_rfl)) (by unfold Func.isWrapper; first | (rw [if_pos (by decide +kernel)]; kernel_rfl) | (rw [if_neg (by decide +kernel)]; exact ⟨rfl, rfl⟩))
    (fun os started H enc _ => lifted os started H enc)
theorem proved : Rows.PagerWholeSaid := over
#print axioms proved
end Go.Proofs.Ytcnnijkgiioniaa.pagerWhole
namespace Go.Proofs.Ytcnnijkgiioniaa
/-- The row, under a short name, for the claim. -/
theorem pagerWhole_holds : Rows.PagerWholeSaid := pagerWhole.proved
end Go.Proofs.Ytcnnijkgiioniaa
