/- Each octet of a span is the one that stands as far behind its beginning. -/
import Derived.Test.YtabkbjhhhfeanaaDoorPx2
import Derived.Test.YtabkbjhhhfeanaaDoorPxOpens
import Derived.Test.YtabkbjhhhfeanaaDoorSpSpec
set_option linter.unusedVariables false
set_option linter.unusedSimpArgs false
namespace Go.Proofs.YtabkbjhhhfeanaaDoor.Pure
open Go.RowKit Go.Proofs.YtabkbjhhhfeanaaDoor.P Go.Proofs.YtabkbjhhhfeanaaDoorW.PrintWords Go.Proofs.YtabkbjhhhfeanaaDoorW.PrintLast Go.Proofs.YtabkbjhhhfeanaaDoorW.PrintMore Go.Proofs.YtabkbjhhhfeanaaDoor.PureKit Go.Proofs.YtabkbjhhhfeanaaDoor.SpSpec
theorem SpanOctets : cellarerlaw03_SpanOctets.Pure := by
  intro f t o b d0 a hs _ ha
  apply Ev.rounds
  unfold cellarerlaw03_SpanOctets.f
  refine ev_bind (few_is d0) ?_
  have hd := small_cut2 d0
  generalize cut2 d0 = d at *
  obtain ⟨a0, a1⟩ := wf_u16 ha
  refine ev_bind (of_is f t o b _ (by omega) (by omega)) (ev_bind (cut_is f t o b d (by omega)) ?_)
  rcases of_cases f t o b (d.size : Int) with ⟨e, he, h⟩ | ⟨i, m, he, h0, h1, h2, _⟩
  · rw [cut_no he (by omega), he]
    exact ev_neg (by simp only; omega) (ev_pos rfl (ev_pos (toList_nil.2 rfl) (ev_bind awake_is (ev_now _))))
  · rw [cut_yes he, he]
    obtain ⟨i, rfl⟩ : ∃ q : Nat, i = q := ⟨i.toNat, by omega⟩
    obtain ⟨m, rfl⟩ : ∃ q : Nat, m = q := ⟨m.toNat, by omega⟩
    dsimp only
    rw [Int.toNat_natCast, show ((i : Int) + (m : Int)).toNat = i + m by omega]
    have hes : (d.extract i (i + m)).size = m := by rw [ByteArray.size_extract]; omega
    refine ev_pos rfl (ev_neg (by omega) (ev_pos (by omega) (ev_neg (by omega) ?_)))
    rw [wrap_id (by omega) (by omega), decide_eq_false (by omega)]
    refine ev_succ ?_
    simp only [cellarerlaw03_SpanOctets.j0]
    refine ev_neg (by simp) (ev_neg (by omega) ?_)
    rw [wrap_id (x := a) (by omega) (by omega), Int.tmod_eq_emod_of_nonneg a0]
    have m0 := Int.emod_nonneg a (show (m : Int) ≠ 0 by omega)
    have m1 := Int.emod_lt_of_pos a (show 0 < (m : Int) by omega)
    generalize a % (m : Int) = k at *
    obtain ⟨k, rfl⟩ : ∃ q : Nat, k = q := ⟨k.toNat, by omega⟩
    rw [wrap_id (x := (i : Int) + k) (by omega) (by omega), wrap_id (x := (k : Int) + 1) (by omega) (by omega)]
    refine ev_bind (cut_is _ _ _ _ d (by omega)) ?_
    rw [cut_yes (of_plain (by omega) (by omega) (by omega) (by omega))]
    refine ev_pos (by omega) (ev_pos (by omega) (ev_pos (by omega) (ev_pos ?_ (ev_pos rfl (ev_bind awake_is (ev_now _))))))
    dsimp only
    rw [Int.toNat_natCast, show ((k : Int) + 1).toNat = k + 1 by omega, show ((i : Int) + k).toNat = i + k by omega, show ((i : Int) + k + ((i : Int) + k + 1 - ((i : Int) + k))).toNat = i + k + 1 by omega, toList_oc]
    rw [oc_mid, oc_mid, oc_mid, List.drop_take, List.take_take, List.drop_drop]
    congr 1
    omega
end Go.Proofs.YtabkbjhhhfeanaaDoor.Pure
