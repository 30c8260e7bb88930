/-
  layer 5: the document's Same of chains (as printed).
-/
import Derived.Test.YtldmidoemcdaaaaPx9
import Derived.Test.YtldmidoemcdaaaaChFew
namespace Go.Proofs.Ytldmidoemcdaaaa.ChSame
open Go.RowKit Go.Proofs.Ytldmidoemcdaaaa.P Go.Proofs.YtldmidoemcdaaaaW.PrintWords Go.Proofs.YtldmidoemcdaaaaW.PrintLast Go.Proofs.YtldmidoemcdaaaaW.PrintMore Go.Proofs.Ytldmidoemcdaaaa.PureKit Go.Proofs.Ytldmidoemcdaaaa.ChSpec Go.Proofs.Ytldmidoemcdaaaa.ChFew

theorem sameC_loop (a b : List V) (ha : a.length ≤ 1000) (he : a.length = b.length) : ∀ (ra pa rb pb : List V), a = pa ++ ra → b = pb ++ rb → pa.length = pb.length →
    Ev (fun k => cellarerref05_Same.l0 k a b (pa.length : Int)) (sameC ra rb)
  | [], pa, rb, pb, h1, h2, h3 => by
    have : rb = [] := by
      rw [h1, h2] at he
      simp at he
      exact List.eq_nil_of_length_eq_zero (by omega)
    subst this
    refine ev_succ ?_
    simp only [cellarerref05_Same.l0]
    refine ev_neg (by rw [h1]; simp) ?_
    simpa [sameC] using ev_now _
  | u :: ra, pa, [], pb, h1, h2, h3 => by rw [h1, h2] at he; simp at he; omega
  | u :: ra, pa, v :: rb, pb, h1, h2, h3 => by
    have l1 : a.length = pa.length + ra.length + 1 := by rw [h1]; simp; omega
    have l2 : b.length = pb.length + rb.length + 1 := by rw [h2]; simp; omega
    have hv : rd_T25 b (pa.length : Int) = v := by rw [h3]; exact rd50 h2
    refine ev_succ ?_
    simp only [cellarerref05_Same.l0, rd50 h1, hv]
    refine ev_pos (by omega) (ev_pos (by omega) (ev_pos (by omega) ?_))
    rw [show (!(u.f0 == v.f0) || (!(u.f1.toList == v.f1.toList) || (!(u.f2 == v.f2) || !(u.f3 == v.f3)))) = !eqV u v by simp [eqV, Bool.not_and]]
    cases hq : eqV u v with
    | false => exact ev_pos rfl (by simpa [sameC, hq] using ev_now _)
    | true =>
      refine ev_neg (by simp) ?_
      rw [wrap_id (by omega) (by omega)]
      have := sameC_loop a b ha he ra (pa ++ [u]) rb (pb ++ [v]) (by simp [h1]) (by simp [h2]) (by simp [h3])
      simpa [sameC, hq] using this
theorem same_chain (a b : List V) (ha : a.length ≤ 1000) : Ev (fun k => cellarerref05_Same.f k a b) (sameC a b) := by
  unfold cellarerref05_Same.f
  by_cases he : a.length = b.length
  · refine ev_pos (by omega) ?_
    have := sameC_loop a b ha he a [] b [] rfl rfl rfl
    simpa using this
  · refine ev_neg (by omega) ?_
    rw [sameC_len a b he]
    exact ev_now _
end Go.Proofs.Ytldmidoemcdaaaa.ChSame
