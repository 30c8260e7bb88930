/- A prefix of a key is a prefix; a key is a prefix, and has itself as one; what is behind all that begin with a text is a prefix, too, and begins with none of it. -/
import Derived.Test.YthlemogcaoehbaaPx3
import Derived.Test.YthlemogcaoehbaaNmRef
set_option linter.unusedVariables false
set_option linter.unusedSimpArgs false
namespace Go.Proofs.Ythlemogcaoehbaa.Pure
open Go.RowKit Go.Proofs.Ythlemogcaoehbaa.P Go.Proofs.YthlemogcaoehbaaW.PrintWords Go.Proofs.YthlemogcaoehbaaW.PrintLast Go.Proofs.YthlemogcaoehbaaW.PrintMore Go.Proofs.Ythlemogcaoehbaa.PureKit Go.Proofs.Ythlemogcaoehbaa.Name Go.Proofs.Ythlemogcaoehbaa.NameW Go.Proofs.Ythlemogcaoehbaa.NmSpec Go.Proofs.Ythlemogcaoehbaa.NmRef
theorem NameKeys : cellarerlaw01_NameKeys.Pure := by
  intro s0 c _ hc
  apply Ev.rounds
  unfold cellarerlaw01_NameKeys.f
  refine ev_is (key_few s0) (ev_is rfl ?_)
  have h1 := small_cutK s0
  generalize cutK s0 = s at *
  obtain ⟨c0, c1⟩ := wf_u8 hc
  by_cases hk : keyB s = true
  · refine ev_pos hk ?_
    obtain ⟨k1, k2, k3⟩ := keyB_iff.1 hk
    rw [oc_length] at k1 k2
    have hp : prefixB s = true := prefixB_iff.2 ⟨by rw [oc_length]; exact k2, k3⟩
    rw [wrap_id (x := (s.size : Int) + 1) (by omega) (by omega), wrap_id (x := c) (by omega) (by omega)]
    rw [Int.tmod_eq_emod_of_nonneg c0]
    have m0 := Int.emod_nonneg c (show (s.size : Int) + 1 ≠ 0 by omega)
    have m1 := Int.emod_lt_of_pos c (show 0 < (s.size : Int) + 1 by omega)
    generalize c % ((s.size : Int) + 1) = m at *
    obtain ⟨n, rfl⟩ : ∃ n : Nat, m = n := ⟨m.toNat, by omega⟩
    refine ev_neg (by omega) (ev_bind (after_is s (by omega)) (ev_is rfl (ev_pos hp (ev_pos m0 (ev_pos (by omega) (ev_is rfl ?_))))))
    rw [Int.toNat_natCast]
    have hq : prefixB (s.extract 0 n) = true := by
      rw [prefixB_iff, oc_take]
      exact ⟨by rw [List.length_take, oc_length]; omega, fun x hx => k3 x (List.mem_of_mem_take hx)⟩
    have hu : oc (s.extract 0 n) <+: oc s := by rw [oc_take]; exact List.take_prefix _ _
    have hoa := oc_afterB hp
    have ha : prefixB (afterB s) = true := by
      rw [prefixB_iff, hoa]
      exact ⟨by have := after_len (oc s); rw [oc_length] at this; omega, after_plain k3⟩
    refine ev_pos hq (ev_is (under_is _ _) (ev_pos (by simpa using hu) (ev_is rfl (ev_pos ha ?_))))
    by_cases hn : (afterB s).toList = []
    · exact ev_pos hn (ev_bind awake_is (ev_now _))
    · refine ev_neg hn (ev_is (under_is _ _) (ev_neg ?_ (ev_pos ?_ (ev_bind awake_is (ev_now _)))))
      · rw [decide_eq_true_iff, hoa]
        exact not_under_after fun e => hn (by rw [toList_nil, hoa]; exact e)
      · have := after_len (oc s)
        rw [← hoa, oc_length, oc_length] at this
        omega
  · refine ev_neg hk (ev_is rfl ?_)
    by_cases h0 : s.toList = []
    · refine ev_pos h0 (ev_pos ?_ (ev_bind awake_is (ev_now _)))
      have : prefixB s = true := by rw [prefixB_iff, toList_nil.1 h0]; exact ⟨by simp, fun x hx => by simp at hx⟩
      rw [this]
      rfl
    · refine ev_neg h0 (ev_is rfl (ev_pos ?_ (ev_bind awake_is (ev_now _))))
      have : prefixB s = keyB s := by
        rw [Bool.eq_iff_iff, prefixB_iff, keyB_iff]
        have : 1 ≤ (oc s).length := List.length_pos_iff.2 fun e => h0 (toList_nil.2 e)
        exact ⟨fun h => ⟨this, h⟩, fun h => h.2⟩
      rw [this]
      simp
end Go.Proofs.Ythlemogcaoehbaa.Pure
