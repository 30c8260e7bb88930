/- What any span is of so many octets, and which octets these are, is as the document says, or refused with its error. -/
import Derived.Test.YtabkbjhhhfeanaaDoorPx1
import Derived.Test.YtabkbjhhhfeanaaDoorPxOpens
import Derived.Test.YtabkbjhhhfeanaaDoorSpSpec
set_option linter.unusedVariables false
set_option linter.unusedSimpArgs false
namespace Go.Proofs.YtabkbjhhhfeanaaDoor.Pure
open Go.RowKit Go.Proofs.YtabkbjhhhfeanaaDoor.P Go.Proofs.YtabkbjhhhfeanaaDoorW.PrintWords Go.Proofs.YtabkbjhhhfeanaaDoorW.PrintLast Go.Proofs.YtabkbjhhhfeanaaDoorW.PrintMore Go.Proofs.YtabkbjhhhfeanaaDoor.PureKit Go.Proofs.YtabkbjhhhfeanaaDoor.SpSpec
theorem SpanOfs : cellarerlaw03_SpanOfs.Pure := by
  intro f t o b n d0 hs hn _
  apply Ev.rounds
  unfold cellarerlaw03_SpanOfs.f
  refine ev_bind (few_is d0) ?_
  have hd := small_cut2 d0
  generalize cut2 d0 = d at *
  obtain ⟨n0, n1⟩ := wf_i64 hn
  refine ev_bind (of_is f t o b n n0 n1) (ev_bind (ref_of f t o b n n0 n1) (ev_pos rfl (ev_pos rfl ?_)))
  rw [bne_self_eq_false]
  refine ev_succ ?_
  simp only [cellarerlaw03_SpanOfs.j0]
  refine ev_neg (by simp) (ev_bind (cut_is f t o b d (by omega)) (ev_bind (ref_of f t o b _ (by omega) (by omega)) ?_))
  rcases of_cases f t o b (d.size : Int) with ⟨e, he, h⟩ | ⟨i, m, he, h0, h1, h2, _⟩
  · have hne : e ≠ 0 := by omega
    rw [cut_no he hne, he]
    exact ev_pos rfl (ev_neg hne (ev_pos (toList_nil.2 rfl) (ev_bind awake_is (ev_now _))))
  · rw [cut_yes he, he]
    dsimp only
    rw [wrap_id (by omega) (by omega)]
    exact ev_pos rfl (ev_pos rfl (ev_pos (by omega) (ev_pos (by omega) (ev_pos (by omega) (ev_pos rfl (ev_bind awake_is (ev_now _)))))))
end Go.Proofs.YtabkbjhhhfeanaaDoor.Pure
