/- An Open span from 0 on, one up to the last octet, and the last as many as there are, are all octets, of one octet at the least. -/
import Derived.Test.YtabkbjhhhfeanaaDoorPx2
import Derived.Test.YtabkbjhhhfeanaaDoorPxOpens
import Derived.Test.YtabkbjhhhfeanaaDoorSpSpec
set_option linter.unusedVariables false
set_option linter.unusedSimpArgs false
namespace Go.Proofs.YtabkbjhhhfeanaaDoor.Pure
open Go.RowKit Go.Proofs.YtabkbjhhhfeanaaDoor.P Go.Proofs.YtabkbjhhhfeanaaDoorW.PrintWords Go.Proofs.YtabkbjhhhfeanaaDoorW.PrintLast Go.Proofs.YtabkbjhhhfeanaaDoorW.PrintMore Go.Proofs.YtabkbjhhhfeanaaDoor.PureKit Go.Proofs.YtabkbjhhhfeanaaDoor.SpSpec
theorem SpanWhole : cellarerlaw03_SpanWhole.Pure := by
  intro d0 _
  apply Ev.rounds
  unfold cellarerlaw03_SpanWhole.f
  refine ev_bind (few_is d0) ?_
  have hd := small_cut2 d0
  generalize cut2 d0 = d at *
  have hmx : mx 0 (wrap64 ((d.size : Int) - 1)) = if (d.size : Int) - 1 < 0 then 0 else (d.size : Int) - 1 := by
    rw [wrap_id (by omega) (by omega)]
    unfold mx
    split <;> split <;> omega
  rw [hmx]
  refine ev_bind (cut_is 0 0 true false d (by omega)) (ev_bind (cut_is 0 _ false false d (by omega)) (ev_bind (cut_is 0 _ false true d (by omega)) ?_))
  by_cases h0 : d.size = 0
  · have e1 : ofS 0 0 true false d.size = (0, 0, 12) := by rw [h0]; decide
    have e2 : ofS 0 (if (d.size : Int) - 1 < 0 then 0 else (d.size : Int) - 1) false false d.size = (0, 0, 12) := by rw [h0]; decide
    have e3 : ofS 0 (d.size : Int) false true d.size = (0, 0, 12) := by rw [h0]; decide
    rw [cut_no e1 (by decide), cut_no e2 (by decide), cut_no e3 (by decide)]
    exact ev_pos (size_nil.2 h0) (ev_pos rfl (ev_pos rfl (ev_pos rfl (ev_bind awake_is (ev_now _)))))
  · have all : ∀ (i j : Int), i = 0 → i + j = d.size → d.extract i.toNat (i + j).toNat = d := fun i j hi hj => by
      apply oc_inj
      rw [hj, hi, oc_mid]
      simp only [Int.toNat_zero, List.drop_zero, Nat.sub_zero, Int.toNat_natCast]
      exact List.take_of_length_le (by rw [oc_length]; exact Nat.le_refl _)
    rw [if_neg (show ¬ (d.size : Int) - 1 < 0 by omega)]
    rw [cut_yes (of_open (Int.le_refl 0) (by omega) (by omega)), cut_yes (of_plain (Int.le_refl 0) (by omega) (by omega) (by omega)), cut_yes (of_back (by omega) (Int.le_refl _) (by omega))]
    rw [all _ _ rfl (by omega), all _ _ rfl (by omega), all _ _ (by omega) (by omega)]
    exact ev_neg (fun h => h0 (size_nil.1 h)) (ev_pos rfl (ev_pos rfl (ev_pos rfl (ev_pos rfl (ev_pos rfl (ev_pos rfl (ev_bind awake_is (ev_now _))))))))
end Go.Proofs.YtabkbjhhhfeanaaDoor.Pure
