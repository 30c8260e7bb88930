/- For every input IndexTurns returns true, and each argument reads behind the call as it read before: no further condition. -/
import Derived.Test.YtgolfeglabmkkaaRows
import Derived.Test.YtgolfeglabmkkaaPx11
import Derived.Test.YtgolfeglabmkkaaPxOpens
import Derived.Test.YtgolfeglabmkkaaPureIndexTurns
import Derived.WalkKit
import Derived.ProofKit
import Derived.OpenShut
import Derived.ShutString
import Derived.ChangeOld
import Derived.Below
import Derived.SizedLaws
import Derived.Carry
import Derived.Lib.SmallJoins
namespace Go.Proofs.Ytgolfeglabmkkaa.indexTurns
open Go.ChangeShapes Go.WideShapes Go.ChangeAt Go.RowKit
open Go.ChangeMaps (open_string shut_string)
open Go.Proofs.YtgolfeglabmkkaaW.Opens Go.Proofs.YtgolfeglabmkkaaW.PrintWords
set_option linter.unusedVariables false
set_option linter.unusedSimpArgs false
theorem own : ownKnob Try.prog.godebug = none := by kernel_rfl
theorem laidOut : laidOutB Try.prog = true := by kernel_rfl
set_option maxRecDepth 100000 in
set_option maxHeartbeats 1600000 in
theorem lifted (os : Os) (started : os.Started) (H : Type) (enc : TypeId × Value → H) :
    ReturnsInHanded {} Try.checked os 4 .any (Rows.indexTurnsSpec.pre6 enc Try.prog Try.f4 Rows.indexTurnsRow.domain false) (Rows.indexTurnsSpec.post enc Try.prog Try.f4 false true false false) := by
  refine returnsInHanded_of_change_sized (C := Try.checked) own started (by kernel_rfl) Try.func4
    (ChangeSpec.witness6 (enc := enc) (C := Try.checked) false ⟨#[], #[.slice none 0 0, .agg #[.string ByteArray.empty, .slice none 0 0], .agg #[.string ByteArray.empty, .slice none 0 0]], []⟩ 8 (by kernel_rfl) (by kernel_rfl) (by kernel_rfl) (by kernel_rfl)) ?_
  intro W base args ds gs before hval0 hW hcnd hsz0 _
  have hval : ∀ (j : Nat) t v, Try.f4.params[j]? = some t → args[j]? = some v → Value.okWide Try.prog W .any base t v := hval0
  have hW' := hW
  obtain ⟨p, q, hA0, hV, rfl, hfz, hnd⟩ := hW
  have hA : DataW.TrodAll enc Try.prog W 0 (fun _ => true) true Try.f4.params.toList args.toList ds p := hA0
  rw [Try.params4] at hA hval
  obtain ⟨v0, vs0, d0, ds0, p0, q0, hargs, rfl, rfl, h0, r0⟩ := trodAll_cons hA
  obtain ⟨v1, vs1, d1, ds1, p1, q1, rfl, rfl, rfl, h1, r1⟩ := trodAll_cons r0
  obtain ⟨v2, vs2, d2, ds2, p2, q2, rfl, rfl, rfl, h2, r2⟩ := trodAll_cons r1
  obtain ⟨rfl, rfl, rfl⟩ := trodAll_nil r2
  obtain rfl : args = #[v0, v1, v2] := by cases args; simp_all
  obtain ⟨rfl, rfl⟩ := trodVars_none hV
  obtain ⟨a0, len0, cap0, rfl⟩ := okWide_slice Try.underlying22 (hval 0 22 v0 rfl rfl)
  have kk0 := h0
  have lt0 : ∀ x ∈ p0, x.block < W.heap.size := by obtain ⟨m, hm⟩ := kk0; exact DataW.trod_lt m _ _ _ hm
  obtain ⟨fuel0, hf0⟩ := h0
  obtain ⟨l0, hK0, ok0⟩ := (show Opens Try.prog (Kd.slice 38 P.k38) 22 _ from (Opens.slice Try.underlying22 (by kernel_rfl) P.opens38)).2 _ _ _ _ _ _ _ hf0
  obtain ⟨A0, c0, he0, hc0, hr0⟩ := hK0
  simp [Value.cells] at he0
  obtain ⟨rfl, rfl, rfl⟩ := he0
  obtain ⟨cs1, rfl, hs1⟩ := okWide_struct Try.underlying38 (hval 1 38 v1 rfl rfl)
  have kk1 := h1
  have lt1 : ∀ x ∈ p1, x.block < W.heap.size := by obtain ⟨m, hm⟩ := kk1; exact DataW.trod_lt m _ _ _ hm
  obtain ⟨fuel1, hf1⟩ := h1
  obtain ⟨y1, hK1, ok1⟩ := P.opens38.2 _ _ _ _ _ _ _ hf1
  obtain ⟨A1_1, c1_1, he1, hc1_1, hr1_1⟩ := P.k38_open hK1
  obtain rfl : cs1 = #[.string y1.f0, .slice A1_1 y1.f1.length c1_1] := by cases cs1; simpa [Value.cells] using he1
  obtain ⟨cs2, rfl, hs2⟩ := okWide_struct Try.underlying38 (hval 2 38 v2 rfl rfl)
  have kk2 := h2
  have lt2 : ∀ x ∈ p2, x.block < W.heap.size := by obtain ⟨m, hm⟩ := kk2; exact DataW.trod_lt m _ _ _ hm
  obtain ⟨fuel2, hf2⟩ := h2
  obtain ⟨y2, hK2, ok2⟩ := P.opens38.2 _ _ _ _ _ _ _ hf2
  obtain ⟨A2_1, c2_1, he2, hc2_1, hr2_1⟩ := P.k38_open hK2
  obtain rfl : cs2 = #[.string y2.f0, .slice A2_1 y2.f1.length c2_1] := by cases cs2; simpa [Value.cells] using he2
  clear hA0 hval0 hsz0
  obtain ⟨k, h⟩ := Pure.IndexTurns l0 y1.f0 y1.f1 y2.f0 y2.f1 ok0 ok1 ok2
  refine (P.cellarerlaw06_IndexTurns.calls k _ _ l0 y1.f0 (fun k_ => k_ < W.heap.size) _ _ y1.f1 y2.f0 (fun k_ => k_ < W.heap.size) _ _ y2.f1 true W hr0 hc0 (Kd.V_mk hc1_1 (Kd.C_F (by (try unfold P.k38); (try unfold P.k50); repeat' (first | exact Kd.heap_int _ | exact Kd.heap_bool | exact Kd.heap_string | apply Kd.heap_slice | apply Kd.heap_iso | apply Kd.heap_pair)) hr1_1)) (Kd.V_mk hc2_1 (Kd.C_F (by (try unfold P.k38); (try unfold P.k50); repeat' (first | exact Kd.heap_int _ | exact Kd.heap_bool | exact Kd.heap_string | apply Kd.heap_slice | apply Kd.heap_iso | apply Kd.heap_pair)) hr2_1)) h).mono fun e W' ⟨he, bel0⟩ => ?_
  have bel : Below W.heap.size W W' := bel0
  subst he
  exact ⟨_, rfl, _, _, _, [], _, [], hW', trodAll_mk1 (shut_bool Try.underlying4 _), (trodAll_cons_mk (Below.trod laidOut (by kernel_rfl) (of_decide_eq_true (by kernel_rfl)) kk0 bel lt0) (trodAll_cons_mk (Below.trod laidOut (by kernel_rfl) (of_decide_eq_true (by kernel_rfl)) kk1 bel lt1) (trodAll_cons_mk (Below.trod laidOut (by kernel_rfl) (of_decide_eq_true (by kernel_rfl)) kk2 bel lt2) trodAll_mk0))), rfl, bel.frame _, fun h => by cases h⟩
theorem over : Rows.indexTurnsRow.holds Try.pinned (OpenSpec.ofChange Rows.indexTurnsSpec) :=
  OpenClaim.holds_of_wide 4 Try.f4 rfl rfl rfl rfl rfl rfl rfl ⟨rfl, rfl, rfl, rfl, rfl⟩ rfl rfl rfl rfl rfl (by kernel_rfl) Try.func4 (by kernel_rfl)
    (of_decide_eq_true (by kernel_rfl)) (by unfold Func.isWrapper; first | (rw [if_pos (by decide +kernel)]; kernel_rfl) | (rw [if_neg (by decide +kernel)]; exact ⟨rfl, rfl⟩))
    (fun os started H enc _ => lifted os started H enc)
theorem proved : Rows.IndexTurnsSaid := over
#print axioms proved
end Go.Proofs.Ytgolfeglabmkkaa.indexTurns
namespace Go.Proofs.Ytgolfeglabmkkaa
/-- The row, under a short name, for the claim. -/
theorem indexTurns_holds : Rows.IndexTurnsSaid := indexTurns.proved
end Go.Proofs.Ytgolfeglabmkkaa
