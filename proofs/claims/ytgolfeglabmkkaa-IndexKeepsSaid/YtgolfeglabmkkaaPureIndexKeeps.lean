/- What is put is got; all other keys have what they had; put as it was, the index is as it was. -/
import Derived.Test.YtgolfeglabmkkaaPx13
import Derived.Test.YtgolfeglabmkkaaPureGet
import Derived.Test.YtgolfeglabmkkaaPureSame
import Derived.Test.YtgolfeglabmkkaaPureSameI
namespace Go.Proofs.Ytgolfeglabmkkaa.Pure
open Go.RowKit Go.Proofs.Ytgolfeglabmkkaa.P Go.Proofs.YtgolfeglabmkkaaW.PrintWords Go.Proofs.YtgolfeglabmkkaaW.PrintLast Go.Proofs.YtgolfeglabmkkaaW.PrintMore Go.Proofs.Ytgolfeglabmkkaa.PureKit Go.Proofs.Ytgolfeglabmkkaa.IdxSpec Go.Proofs.Ytgolfeglabmkkaa.IdxLaws Go.Proofs.Ytgolfeglabmkkaa.PureRd Go.Proofs.Ytgolfeglabmkkaa.PureFew Go.Proofs.Ytgolfeglabmkkaa.IdxPut Go.Proofs.Ytgolfeglabmkkaa.PureIdx Go.Proofs.Ytgolfeglabmkkaa.PureGet Go.Proofs.Ytgolfeglabmkkaa.PureSame Go.Proofs.Ytgolfeglabmkkaa.PureSameI
theorem IndexKeeps : cellarerlaw06_IndexKeeps.Pure := by
  intro l0 key0 other0 c0 hok
  obtain ⟨hl, hk, ho, hc⟩ := hok
  apply Ev.rounds
  unfold cellarerlaw06_IndexKeeps.f
  refine ev_bind (index_few l0) (ev_is (key_few key0) (ev_is (key_few other0) (ev_bind (chain_few c0) ?_)))
  have hsl := small_cutI l0 (ids38 hl.2)
  have hsk := small_cutK key0
  have hsc := small_cutC c0 (ids50 hc.2)
  generalize cutI l0 = l at *
  generalize cutK key0 = key at *
  generalize cutK other0 = other at *
  generalize cutC c0 = c at *
  refine ev_is (get_is l key hsl) (ev_is (put_is l key c) ?_)
  by_cases h0 : (put l key c).2 = 0
  · refine ev_pos h0 ?_
    obtain ⟨h1, h2, h3, h4, h5⟩ := put_ok h0
    obtain ⟨hI, hR, hO⟩ := index_putL h0
    have hsn := small_put hsl hsk hsc
    rw [h5] at hsn ⊢
    have hN : ∀ x ∈ l, x.f1 ≠ [] := fun x hx => okE_some (hO x hx)
    have hgc := same_chain (getL (putL l key c) key) c (by rw [get_put hR]; have := hsc.many; omega)
    rw [get_put hR, sameC_refl] at hgc
    have hw : chainB (getL l key) = true := by
      rcases getL_cases l key with ⟨x, hx, _, e⟩ | ⟨_, e⟩
      · rw [e]
        have := hO x hx
        simp only [okE, Bool.and_eq_true] at this
        exact this.2
      · rw [e]
        rfl
    have hback : put (putL l key c) key (getL l key) = (l, 0) := by
      unfold put
      rw [if_pos ⟨hI, h2, hw⟩, back hR hN]
      have := ((index_iff l).1 h1).1
      rw [if_neg (by omega)]
    have fin : Ev (fun k => cellarerlaw06_IndexKeeps.j0 k l key (getL l key) (putL l key c) false) true := by
      refine ev_succ ?_
      simp only [cellarerlaw06_IndexKeeps.j0]
      refine ev_neg (by simp) (ev_is ((put_is _ _ _).trans (congrArg some hback)) (ev_pos rfl (ev_bind (same_refl l hsl) (ev_pos rfl (ev_bind awake_is (ev_now _))))))
    have hchk := PureChk.index_is (putL l key c)
    rw [hI] at hchk
    refine ev_is (get_is _ key hsn) ?_
    rw [get_put hR]
    refine ev_bind hgc (ev_pos rfl (ev_bind hchk (ev_pos rfl ?_)))
    by_cases he : other.toList = key.toList
    · exact ev_pos he fin
    · have hne : other ≠ key := fun h => he (by rw [h])
      refine ev_neg he (ev_is (get_is _ other hsn) (ev_is (get_is l other hsl) ?_))
      rw [get_other hR hne]
      have hs := same_chain (getL l other) (getL l other) (by have := (small_get other hsl).many; omega)
      rw [sameC_refl] at hs
      exact ev_bind hs fin
  · refine ev_neg h0 ?_
    rw [put_no h0]
    exact ev_pos rfl (ev_bind awake_is (ev_now _))
end Go.Proofs.Ytgolfeglabmkkaa.Pure
