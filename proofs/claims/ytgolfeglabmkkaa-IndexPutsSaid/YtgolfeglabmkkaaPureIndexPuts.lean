/- The index that is put to is the document's, or it is refused as the document refuses it. -/
import Derived.Test.YtgolfeglabmkkaaPx10
import Derived.Test.YtgolfeglabmkkaaPureIdx
import Derived.Test.YtgolfeglabmkkaaPureRefPut
import Derived.Test.YtgolfeglabmkkaaPureSame
namespace Go.Proofs.Ytgolfeglabmkkaa.Pure
open Go.RowKit Go.Proofs.Ytgolfeglabmkkaa.P Go.Proofs.YtgolfeglabmkkaaW.PrintWords Go.Proofs.YtgolfeglabmkkaaW.PrintLast Go.Proofs.YtgolfeglabmkkaaW.PrintMore Go.Proofs.Ytgolfeglabmkkaa.PureKit Go.Proofs.Ytgolfeglabmkkaa.IdxSpec Go.Proofs.Ytgolfeglabmkkaa.IdxLaws Go.Proofs.Ytgolfeglabmkkaa.PureRd Go.Proofs.Ytgolfeglabmkkaa.PureRef Go.Proofs.Ytgolfeglabmkkaa.PureFew Go.Proofs.Ytgolfeglabmkkaa.PureRefPut Go.Proofs.Ytgolfeglabmkkaa.PureIdx Go.Proofs.Ytgolfeglabmkkaa.PureSameI
theorem IndexPuts : cellarerlaw06_IndexPuts.Pure := by
  intro l0 key0 c0 hl hk hc
  apply Ev.rounds
  unfold cellarerlaw06_IndexPuts.f
  refine ev_bind (index_few l0) (ev_is (key_few key0) (ev_bind (chain_few c0) ?_))
  have hsl := small_cutI l0 (ids38 hl.2)
  have hsk := small_cutK key0
  have hsc := small_cutC c0 (ids50 hc.2)
  generalize cutI l0 = l at *
  generalize cutK key0 = key at *
  generalize cutC c0 = c at *
  have hself := index_few l
  rw [cutI_id hsl] at hself
  refine ev_bind hself (ev_is (put_is l key c) (ev_bind (ref_put l key c hsl hsc) (ev_bind (same_refl _ (small_put hsl hsk hsc)) (ev_pos rfl (ev_pos rfl (ev_bind (PureChk.index_is l) (ev_bind (ref_may l hsl) (ev_pos ?_ (ev_bind (same_refl l hsl) (ev_pos rfl (ev_bind awake_is (ev_now true))))))))))))
  cases indexB l <;> rfl
end Go.Proofs.Ytgolfeglabmkkaa.Pure
