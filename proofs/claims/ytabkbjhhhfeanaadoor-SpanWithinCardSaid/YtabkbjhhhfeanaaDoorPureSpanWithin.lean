/- What a span is of so many octets is one at the least, and stands among them; of more octets it is no fewer. -/
import Derived.Test.YtabkbjhhhfeanaaDoorPx2
import Derived.Test.YtabkbjhhhfeanaaDoorPxOpens
import Derived.Test.YtabkbjhhhfeanaaDoorSpSpec
set_option linter.unusedVariables false
set_option linter.unusedSimpArgs false
namespace Go.Proofs.YtabkbjhhhfeanaaDoor.Pure
open Go.RowKit Go.Proofs.YtabkbjhhhfeanaaDoor.P Go.Proofs.YtabkbjhhhfeanaaDoorW.PrintWords Go.Proofs.YtabkbjhhhfeanaaDoorW.PrintLast Go.Proofs.YtabkbjhhhfeanaaDoorW.PrintMore Go.Proofs.YtabkbjhhhfeanaaDoor.PureKit Go.Proofs.YtabkbjhhhfeanaaDoor.SpSpec
theorem SpanWithin : cellarerlaw03_SpanWithin.Pure := by
  intro f t o b x y hs hx hy
  apply Ev.rounds
  unfold cellarerlaw03_SpanWithin.f
  obtain ⟨x0, x1⟩ := wf_i64 hx
  obtain ⟨y0, y1⟩ := wf_i64 hy
  refine ev_bind (of_is f t o b x x0 x1) (ev_bind (of_is f t o b y y0 y1) ?_)
  rcases of_cases f t o b x with ⟨e, he, h⟩ | ⟨i, m, he, h0, h1, h2, hm, hx0, hi, him⟩
  · rw [he]
    exact ev_neg (by simp only; omega) (ev_pos rfl (ev_pos rfl (ev_bind awake_is (ev_now _))))
  · rw [he]
    dsimp only
    refine ev_pos rfl (ev_neg (by omega) (ev_neg (by omega) (ev_neg (by omega) ?_)))
    rw [wrap_id (by omega) (by omega), decide_eq_false (by omega)]
    refine ev_succ ?_
    simp only [cellarerlaw03_SpanWithin.j0]
    refine ev_neg (by simp) ?_
    by_cases hyx : y < x
    · exact ev_pos hyx (ev_bind awake_is (ev_now _))
    · refine ev_neg hyx ?_
      obtain ⟨f0, f1, t0, t1, ho⟩ := may_in hm
      have e2 : ofS f t o b y = (fromS f t b y, toS t o b y - fromS f t b y, 0) ∧ toS t o b y - fromS f t b y ≥ m := by
        have hcmp : ¬ fromS f t b y ≥ toS t o b y ∧ toS t o b y - fromS f t b y ≥ m := by
          unfold fromS toS at *
          cases b <;> cases o <;> simp only [if_true, if_false, Bool.false_eq_true] at * <;> (repeat' split at *) <;> omega
        unfold ofS
        rw [if_pos ⟨hm, by omega⟩, if_neg hcmp.1]
        exact ⟨rfl, hcmp.2⟩
      rw [e2.1]
      exact ev_pos rfl (ev_pos e2.2 (ev_bind awake_is (ev_now _)))
end Go.Proofs.YtabkbjhhhfeanaaDoor.Pure
