/-
  The document's Same of chains (as printed).
-/
import Derived.Test.YtgolfeglabmkkaaPx7
import Derived.Test.YtgolfeglabmkkaaPureFew
import Derived.Test.YtgolfeglabmkkaaPx8
namespace Go.Proofs.Ytgolfeglabmkkaa.PureSame
open Go.RowKit Go.Proofs.Ytgolfeglabmkkaa.P Go.Proofs.YtgolfeglabmkkaaW.PrintWords Go.Proofs.YtgolfeglabmkkaaW.PrintLast Go.Proofs.YtgolfeglabmkkaaW.PrintMore Go.Proofs.Ytgolfeglabmkkaa.PureKit Go.Proofs.Ytgolfeglabmkkaa.IdxSpec Go.Proofs.Ytgolfeglabmkkaa.PureRd Go.Proofs.Ytgolfeglabmkkaa.PureFew

theorem sameC_loop (a b : List V) (ha : a.length ≤ 1000) (he : a.length = b.length) : ∀ (ra pa rb pb : List V), a = pa ++ ra → b = pb ++ rb → pa.length = pb.length →
    Ev (fun k => cellarerref05_Same.l0 k a b (pa.length : Int)) (sameC ra rb)
  | [], pa, rb, pb, h1, h2, h3 => by
    have : rb = [] := by
      rw [h1, h2] at he
      simp at he
      exact List.eq_nil_of_length_eq_zero (by omega)
    subst this
    refine ev_succ ?_
    simp only [cellarerref05_Same.l0]
    refine ev_neg (by rw [h1]; simp) ?_
    simpa [sameC] using ev_now _
  | u :: ra, pa, [], pb, h1, h2, h3 => by rw [h1, h2] at he; simp at he; omega
  | u :: ra, pa, v :: rb, pb, h1, h2, h3 => by
    have l1 : a.length = pa.length + ra.length + 1 := by rw [h1]; simp; omega
    have l2 : b.length = pb.length + rb.length + 1 := by rw [h2]; simp; omega
    have hv : rd_T50 b (pa.length : Int) = v := by rw [h3]; exact rd50 h2
    refine ev_succ ?_
    simp only [cellarerref05_Same.l0, rd50 h1, hv]
    refine ev_pos (by omega) (ev_pos (by omega) (ev_pos (by omega) ?_))
    rw [show (!(u.f0 == v.f0) || (!(u.f1.toList == v.f1.toList) || (!(u.f2 == v.f2) || !(u.f3 == v.f3)))) = !eqV u v by simp [eqV, Bool.not_and]]
    cases hq : eqV u v with
    | false => exact ev_pos rfl (by simpa [sameC, hq] using ev_now _)
    | true =>
      refine ev_neg (by simp) ?_
      rw [wrap_id (by omega) (by omega)]
      have := sameC_loop a b ha he ra (pa ++ [u]) rb (pb ++ [v]) (by simp [h1]) (by simp [h2]) (by simp [h3])
      simpa [sameC, hq] using this
theorem same_chain (a b : List V) (ha : a.length ≤ 1000) : Ev (fun k => cellarerref05_Same.f k a b) (sameC a b) := by
  unfold cellarerref05_Same.f
  by_cases he : a.length = b.length
  · refine ev_pos (by omega) ?_
    have := sameC_loop a b ha he a [] b [] rfl rfl rfl
    simpa using this
  · refine ev_neg (by omega) ?_
    rw [sameC_len a b he]
    exact ev_now _
end Go.Proofs.Ytgolfeglabmkkaa.PureSame

/-
  The document's Same of indices (as printed).
-/
namespace Go.Proofs.Ytgolfeglabmkkaa.PureSameI
open Go.RowKit Go.Proofs.Ytgolfeglabmkkaa.P Go.Proofs.YtgolfeglabmkkaaW.PrintWords Go.Proofs.YtgolfeglabmkkaaW.PrintLast Go.Proofs.YtgolfeglabmkkaaW.PrintMore Go.Proofs.Ytgolfeglabmkkaa.PureKit Go.Proofs.Ytgolfeglabmkkaa.IdxSpec Go.Proofs.Ytgolfeglabmkkaa.PureRd Go.Proofs.Ytgolfeglabmkkaa.PureFew Go.Proofs.Ytgolfeglabmkkaa.PureSame

theorem sameI_loop (a b : List E) (ha : SmallI a) (he : a.length = b.length) : ∀ (ra pa rb pb : List E), a = pa ++ ra → b = pb ++ rb → pa.length = pb.length →
    Ev (fun k => cellarerref06_Same.l0 k a b (pa.length : Int)) (sameI ra rb)
  | [], pa, rb, pb, h1, h2, h3 => by
    have : rb = [] := by
      rw [h1, h2] at he
      simp at he
      exact List.eq_nil_of_length_eq_zero (by omega)
    subst this
    refine ev_succ ?_
    simp only [cellarerref06_Same.l0]
    refine ev_neg (by rw [h1]; simp) ?_
    simpa [sameI] using ev_now _
  | u :: ra, pa, [], pb, h1, h2, h3 => by rw [h1, h2] at he; simp at he; omega
  | u :: ra, pa, v :: rb, pb, h1, h2, h3 => by
    have hm := ha.many
    have hu := ha.each u (by simp [h1])
    have l1 : a.length = pa.length + ra.length + 1 := by rw [h1]; simp; omega
    have l2 : b.length = pb.length + rb.length + 1 := by rw [h2]; simp; omega
    have hv : rd_T38 b (pa.length : Int) = v := by rw [h3]; exact rd38 h2
    refine ev_succ ?_
    simp only [cellarerref06_Same.l0, rd38 h1, hv]
    refine ev_pos (by omega) (ev_pos (by omega) (ev_pos (by omega) ?_))
    by_cases hk : u.f0.toList = v.f0.toList
    · refine ev_pos hk (ev_bind (same_chain u.f1 v.f1 (by have := hu.vers.many; omega)) ?_)
      cases hq : sameC u.f1 v.f1 with
      | false => exact ev_neg (by simp) (by simpa [sameI, hq] using ev_now _)
      | true =>
        refine ev_pos rfl ?_
        rw [wrap_id (by omega) (by omega)]
        have := sameI_loop a b ha he ra (pa ++ [u]) rb (pb ++ [v]) (by simp [h1]) (by simp [h2]) (by simp [h3])
        simpa [sameI, hk, hq] using this
    · refine ev_neg hk ?_
      have hk' : (u.f0.toList == v.f0.toList) = false := by simpa using hk
      rw [show sameI (u :: ra) (v :: rb) = false by simp only [sameI, hk', Bool.false_and]]
      exact ev_now _
theorem same_index (a b : List E) (ha : SmallI a) : Ev (fun k => cellarerref06_Same.f k a b) (sameI a b) := by
  unfold cellarerref06_Same.f
  by_cases he : a.length = b.length
  · refine ev_pos (by omega) ?_
    have := sameI_loop a b ha he a [] b [] rfl rfl rfl
    simpa using this
  · refine ev_neg (by omega) ?_
    rw [sameI_len a b he]
    exact ev_now _
theorem same_refl (a : List E) (ha : SmallI a) : Ev (fun k => cellarerref06_Same.f k a a) true := by
  have := same_index a a ha
  rwa [sameI_refl] at this

end Go.Proofs.Ytgolfeglabmkkaa.PureSameI
