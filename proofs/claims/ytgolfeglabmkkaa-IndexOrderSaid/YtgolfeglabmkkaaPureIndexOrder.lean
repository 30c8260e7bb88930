/- A key that is put goes where as many keys are less than it; each key's place is how many are less. -/
import Derived.Test.YtgolfeglabmkkaaPx11
import Derived.Test.YtgolfeglabmkkaaPureGet
import Derived.Test.YtgolfeglabmkkaaPureSame
namespace Go.Proofs.Ytgolfeglabmkkaa.Pure
open Go.RowKit Go.Proofs.Ytgolfeglabmkkaa.P Go.Proofs.YtgolfeglabmkkaaW.PrintWords Go.Proofs.YtgolfeglabmkkaaW.PrintLast Go.Proofs.YtgolfeglabmkkaaW.PrintMore Go.Proofs.Ytgolfeglabmkkaa.PureKit Go.Proofs.Ytgolfeglabmkkaa.IdxSpec Go.Proofs.Ytgolfeglabmkkaa.IdxLaws Go.Proofs.Ytgolfeglabmkkaa.PureRd Go.Proofs.Ytgolfeglabmkkaa.PureFew Go.Proofs.Ytgolfeglabmkkaa.IdxPut Go.Proofs.Ytgolfeglabmkkaa.PureIdx Go.Proofs.Ytgolfeglabmkkaa.PureGet Go.Proofs.Ytgolfeglabmkkaa.PureSame
theorem places (m : List E) (hm : m.length ≤ 1000) (hr : Rise m) : ∀ (rest pre : List E), m = pre ++ rest → Ev (fun k => cellarerlaw06_IndexOrder.l0 k m (pre.length : Int)) true
  | [], pre, h => by
    refine ev_succ ?_
    simp only [cellarerlaw06_IndexOrder.l0]
    exact ev_neg (by rw [h]; simp) (ev_bind awake_is (ev_now _))
  | x :: rest, pre, h => by
    have hlen : m.length = pre.length + rest.length + 1 := by rw [h]; simp; omega
    have ih := places m hm hr rest (pre ++ [x]) (by simp [h])
    have ha := PureChk.at_is m x.f0 hm
    rw [at_rise hr h] at ha
    refine ev_succ ?_
    simp only [cellarerlaw06_IndexOrder.l0, rd38 h]
    refine ev_pos (by omega) (ev_pos (by omega) (ev_bind ha (ev_pos rfl ?_)))
    rw [wrap_id (by omega) (by omega)]
    simpa using ih
theorem IndexOrder : cellarerlaw06_IndexOrder.Pure := by
  intro l0 key0 c0 hl hk hc
  apply Ev.rounds
  unfold cellarerlaw06_IndexOrder.f
  refine ev_bind (index_few l0) (ev_is (key_few key0) (ev_bind (chain_few c0) ?_))
  have hsl := small_cutI l0 (ids38 hl.2)
  have hsk := small_cutK key0
  have hsc := small_cutC c0 (ids50 hc.2)
  generalize cutI l0 = l at *
  generalize cutK key0 = key at *
  generalize cutC c0 = c at *
  have hm := hsl.many
  have quit : ∀ m, Ev (fun k => cellarerlaw06_IndexOrder.j0 k l key c m true) true := fun m => by
    refine ev_succ ?_
    simp only [cellarerlaw06_IndexOrder.j0]
    exact ev_pos trivial (ev_bind awake_is (ev_now _))
  refine ev_is (put_is l key c) ?_
  by_cases h0 : (put l key c).2 = 0
  · refine ev_pos h0 ?_
    by_cases hc0 : c = []
    · rw [show ((c.length : Int) == 0) = true by simp [hc0]]
      exact quit _
    · obtain ⟨h1, h2, h3, h4, h5⟩ := put_ok h0
      obtain ⟨hI, hR, hO⟩ := index_putL h0
      obtain ⟨e, he⟩ := putL_at (c := c) (key := key) hR hc0
      have hR' := rise_putL (key := key) (c := c) hR
      rw [h5]
      rw [show ((c.length : Int) == 0) = false by simpa using hc0]
      have hat := PureChk.at_is (putL l key c) key (by omega)
      rw [at_putL hR] at hat
      have hlen : (putL l key c).length = at_ l key + (F2 l key).length + 1 := by rw [e, List.length_append, List.length_cons, he]; omega
      have hrd : rd_T38 (putL l key c) ((at_ l key : Nat) : Int) = ⟨key, c⟩ := by rw [← he]; exact rd38 e
      have hsame := same_chain c c (by have := hsc.many; omega)
      rw [sameC_refl] at hsame
      refine ev_succ ?_
      simp only [cellarerlaw06_IndexOrder.j0]
      refine ev_neg (by simp) (ev_bind (PureChk.at_is l key (by omega)) (ev_bind hat (ev_pos rfl (ev_neg (by omega) (ev_neg (by omega) (ev_pos (by omega) (ev_pos (by omega) ?_)))))))
      rw [hrd]
      refine ev_pos rfl (ev_bind hsame ?_)
      refine ev_succ ?_
      simp only [cellarerlaw06_IndexOrder.j1]
      exact ev_neg (by simp) (places _ (by omega) hR' _ [] rfl)
  · exact ev_neg h0 (quit _)
end Go.Proofs.Ytgolfeglabmkkaa.Pure
