/- What is ahead of an Open span, and it, are all octets; the last n are what an Open span is, n ahead of the end. -/
import Derived.Test.YtabkbjhhhfeanaaDoorPx2
import Derived.Test.YtabkbjhhhfeanaaDoorPxOpens
import Derived.Test.YtabkbjhhhfeanaaDoorSpSpec
set_option linter.unusedVariables false
set_option linter.unusedSimpArgs false
namespace Go.Proofs.YtabkbjhhhfeanaaDoor.Pure
open Go.RowKit Go.Proofs.YtabkbjhhhfeanaaDoor.P Go.Proofs.YtabkbjhhhfeanaaDoorW.PrintWords Go.Proofs.YtabkbjhhhfeanaaDoorW.PrintLast Go.Proofs.YtabkbjhhhfeanaaDoorW.PrintMore Go.Proofs.YtabkbjhhhfeanaaDoor.PureKit Go.Proofs.YtabkbjhhhfeanaaDoor.SpSpec
theorem SpanParts : cellarerlaw03_SpanParts.Pure := by
  intro d0 a _ ha
  apply Ev.rounds
  unfold cellarerlaw03_SpanParts.f
  refine ev_bind (few_is d0) ?_
  have hd := small_cut2 d0
  generalize cut2 d0 = d at *
  obtain ⟨a0, a1⟩ := wf_u16 ha
  by_cases h2 : (d.size : Int) < 2
  · exact ev_pos h2 (ev_bind awake_is (ev_now _))
  · refine ev_neg h2 ?_
    rw [wrap_id (x := (d.size : Int) - 1) (by omega) (by omega), wrap_id (x := a) (by omega) (by omega), Int.tmod_eq_emod_of_nonneg a0]
    have m0 := Int.emod_nonneg a (show (d.size : Int) - 1 ≠ 0 by omega)
    have m1 := Int.emod_lt_of_pos a (show 0 < (d.size : Int) - 1 by omega)
    generalize a % ((d.size : Int) - 1) = m at *
    obtain ⟨k, hk⟩ : ∃ k : Nat, 1 + m = k := ⟨(1 + m).toNat, by omega⟩
    have hk1 : 1 ≤ k := by omega
    have hk2 : k < d.size := by omega
    rw [wrap_id (x := 1 + m) (by omega) (by omega), hk, wrap_id (x := (k : Int) - 1) (by omega) (by omega), wrap_id (x := (d.size : Int) - k) (by omega) (by omega)]
    refine ev_neg (by omega) (ev_bind (cut_is _ _ _ _ d (by omega)) (ev_bind (cut_is _ _ _ _ d (by omega)) (ev_bind (cut_is _ _ _ _ d (by omega)) ?_)))
    rw [cut_yes (of_plain (Int.le_refl 0) (by omega) (by omega) (by omega)), cut_yes (of_open (by omega) (by omega) (by omega)), cut_yes (of_back (by omega) (by omega) (by omega))]
    have e1 : d.extract (0 : Int).toNat (0 + ((k : Int) - 1 + 1 - 0)).toNat = d.extract 0 k := by congr 1; omega
    have e2 : d.extract (k : Int).toNat ((k : Int) + ((d.size : Int) - k)).toNat = d.extract k d.size := by congr 1; omega
    have e3 : d.extract ((d.size : Int) - ((d.size : Int) - k)).toNat ((d.size : Int) - ((d.size : Int) - k) + ((d.size : Int) - k)).toNat = d.extract k d.size := by congr 1 <;> omega
    rw [e1, e2, e3]
    have o1 : oc (d.extract 0 k) = (oc d).take k := by rw [oc_mid]; simp
    have o2 : oc (d.extract k d.size) = (oc d).drop k := by rw [oc_mid, List.take_of_length_le (by rw [List.length_drop, oc_length]; omega)]
    have s1 : (d.extract 0 k).size = k := by rw [ByteArray.size_extract]; omega
    have s2 : (d.extract k d.size).size = d.size - k := by rw [ByteArray.size_extract]; omega
    have hall : d.extract 0 k ++ d.extract k d.size = d := by
      apply oc_inj
      rw [oc_append, o1, o2, List.take_append_drop]
    refine ev_pos rfl (ev_pos rfl (ev_pos rfl (ev_pos (by dsimp only; omega) (ev_pos (by dsimp only; rw [hall]) (ev_pos rfl (ev_pos (by dsimp only; omega) (ev_bind awake_is (ev_now _))))))))
end Go.Proofs.YtabkbjhhhfeanaaDoor.Pure
