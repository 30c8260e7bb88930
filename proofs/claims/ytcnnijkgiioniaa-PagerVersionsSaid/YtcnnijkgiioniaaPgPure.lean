/-
  layer 7: WHAT Things and Keys ANSWER of any index (as the contracts say), and what is known of things.
-/
import Derived.Test.YtcnnijkgiioniaaProg
import Derived.LoopIn
import Derived.LoopNIn
import Derived.Maps.OwnIn
import Derived.OwnWalkIn
import Derived.RangeFuncBound
import Derived.RangeFuncCalls
import Derived.RangeFuncLeaves
import Derived.RangeFuncNested
import Derived.Shelf.Abstract
import Derived.TacticsInMore
import Derived.Test.YtcnnijkgiioniaaCmp
import Derived.Test.YtcnnijkgiioniaaIdxE
import Derived.Test.YtcnnijkgiioniaaIdxLaws
import Derived.Test.YtcnnijkgiioniaaIdxSpec
import Derived.Test.YtcnnijkgiioniaaName
import Derived.Test.YtcnnijkgiioniaaNameW
import Derived.Test.YtcnnijkgiioniaaNmSpec
import Derived.Test.YtcnnijkgiioniaaPgSpec
import Derived.Test.YtcnnijkgiioniaaPureChk
import Derived.Test.YtcnnijkgiioniaaPureKit
import Derived.Test.YtcnnijkgiioniaaPx3
import Derived.Test.YtcnnijkgiioniaaV0
namespace Go.Proofs.Ytcnnijkgiioniaa.PgPure
open Go.RowKit Go.Proofs.Ytcnnijkgiioniaa.P Go.Proofs.YtcnnijkgiioniaaW.PrintWords Go.Proofs.YtcnnijkgiioniaaW.PrintLast Go.Proofs.YtcnnijkgiioniaaW.PrintMore Go.Proofs.Ytcnnijkgiioniaa.PureKit Go.Proofs.Ytcnnijkgiioniaa.IdxSpec Go.Proofs.Ytcnnijkgiioniaa.IdxLaws Go.Proofs.Ytcnnijkgiioniaa.PureRd Go.Proofs.Ytcnnijkgiioniaa.PgSpec

/-- May it be asked? -/
def goodB (l : List PgSpec.E) (pre after : ByteArray) (most : Int) : Bool := indexB l && NameW.prefixB pre && (decide (after.toList = []) || Name.keyB after) && decide (0 ≤ most) && decide (most ≤ 1000)
theorem good_is (l : List PgSpec.E) (pre after : ByteArray) (most : Int) : Ev (fun k => pager_good.f k l pre after most) (goodB l pre after most) := by
  have hi := PureChk.index_is l
  unfold pager_good.f goodB
  cases h1 : indexB l with
  | false =>
    rw [h1] at hi
    refine ev_bind hi (ev_neg (by simp) ?_)
    simpa using ev_now _
  | true =>
    rw [h1] at hi
    refine ev_bind hi (ev_pos (by simp) (ev_is (x := NameW.prefixB pre) rfl ?_))
    cases h2 : NameW.prefixB pre with
    | false =>
      refine ev_neg (by simp) ?_
      simpa using ev_now _
    | true =>
      refine ev_pos rfl ?_
      by_cases h3 : after.toList = []
      · refine ev_pos h3 ?_
        by_cases h4 : most ≥ 0
        · refine ev_pos h4 ?_
          rw [show (true && true && (decide (after.toList = []) || Name.keyB after) && decide (0 ≤ most) && decide (most ≤ 1000)) = decide (most ≤ 1000) by rw [decide_eq_true h3, decide_eq_true (show (0:Int) ≤ most from h4)]; simp]
          exact ev_now _
        · refine ev_neg h4 ?_
          rw [show (true && true && (decide (after.toList = []) || Name.keyB after) && decide (0 ≤ most) && decide (most ≤ 1000)) = false by rw [decide_eq_false (show ¬ (0:Int) ≤ most from h4)]; simp]
          exact ev_now _
      · refine ev_neg h3 (ev_is (x := Name.keyB after) rfl ?_)
        cases h5 : Name.keyB after with
        | false =>
          refine ev_neg (by simp) ?_
          rw [show (true && true && (decide (after.toList = []) || false) && decide (0 ≤ most) && decide (most ≤ 1000)) = false by rw [decide_eq_false h3]; simp]
          exact ev_now _
        | true =>
          refine ev_pos rfl ?_
          by_cases h4 : most ≥ 0
          · refine ev_pos h4 ?_
            rw [show (true && true && (decide (after.toList = []) || true) && decide (0 ≤ most) && decide (most ≤ 1000)) = decide (most ≤ 1000) by rw [decide_eq_true (show (0:Int) ≤ most from h4)]; simp]
            exact ev_now _
          · refine ev_neg h4 ?_
            rw [show (true && true && (decide (after.toList = []) || true) && decide (0 ≤ most) && decide (most ≤ 1000)) = false by rw [decide_eq_false (show ¬ (0:Int) ≤ most from h4)]; simp]
            exact ev_now _
theorem index_small {l : List PgSpec.E} (h : indexB l = true) : (∀ x ∈ l, x.f1 ≠ []) ∧ l.length ≤ 60 ∧ (∀ x ∈ l, x.f0.size ≤ 60 ∧ 1 ≤ x.f0.size ∧ Name.keyB x.f0 = true) ∧ Rise l := by
  obtain ⟨h1, h2, h3⟩ := (index_iff l).1 h
  refine ⟨fun x hx => ?_, h1, fun x hx => ?_, h3⟩
  · have := h2 x hx
    simp only [okE, Bool.and_eq_true, Bool.not_eq_true'] at this
    intro e
    rw [e] at this
    simp at this
  · have := h2 x hx
    simp only [okE, Bool.and_eq_true, Bool.not_eq_true'] at this
    have h4 := this.1.1
    have h5 := h4
    unfold Name.keyB Name.isB at h5
    simp only [Bool.and_eq_true, decide_eq_true_eq] at h5
    exact ⟨h5.1.2, h5.1.1, h4⟩
theorem good_parts {l : List PgSpec.E} {pre after : ByteArray} {most : Int} (h : goodB l pre after most = true) : indexB l = true ∧ NameW.prefixB pre = true ∧ (after.toList = [] ∨ Name.keyB after = true) ∧ 0 ≤ most ∧ most ≤ 1000 := by
  simp only [goodB, Bool.and_eq_true, Bool.or_eq_true, decide_eq_true_eq] at h
  exact ⟨h.1.1.1.1, h.1.1.1.2, h.1.1.2, h.1.2, h.2⟩
end Go.Proofs.Ytcnnijkgiioniaa.PgPure
