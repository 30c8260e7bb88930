/- A tag of many tells of how many; another with one more is another. -/
import Derived.Test.YtmlnkdknpogknaaDoorTagPure
import Derived.Test.YtmlnkdknpogknaaDoorPx5
import Derived.Test.YtmlnkdknpogknaaDoorPxOpens
set_option linter.unusedVariables false
set_option linter.unusedSimpArgs false
namespace Go.Proofs.YtmlnkdknpogknaaDoor.Pure
open Go.RowKit Go.Proofs.YtmlnkdknpogknaaDoor.P Go.Proofs.YtmlnkdknpogknaaDoorW.PrintWords Go.Proofs.YtmlnkdknpogknaaDoorW.PrintLast Go.Proofs.YtmlnkdknpogknaaDoorW.PrintMore Go.Proofs.YtmlnkdknpogknaaDoor.PureKit Go.Proofs.YtmlnkdknpogknaaDoor.Laid Go.Proofs.YtmlnkdknpogknaaDoor.Dig Go.Proofs.YtmlnkdknpogknaaDoor.TagTx Go.Proofs.YtmlnkdknpogknaaDoor.TagPure

theorem many_any (l : List Int) (hok : ok l) : ∃ r : ByteArray × Int, Ev (fun k => tag_Many.f k l) r ∧ ((r.2 == 0) = decide (1 ≤ l.length ∧ l.length ≤ 100)) ∧ ((1 ≤ l.length ∧ l.length ≤ 100) → r = (ofL (manyL l), 0)) ∧ (¬ (1 ≤ l.length ∧ l.length ≤ 100) → r = ((⟨#[]⟩ : ByteArray), 1)) := by
  by_cases h : 1 ≤ l.length ∧ l.length ≤ 100
  · exact ⟨_, many_is l hok h.1 h.2, by simp [h], fun _ => rfl, fun q => absurd h q⟩
  · exact ⟨_, many_none l (by omega), by rw [decide_eq_false h]; rfl, fun q => absurd q h, fun _ => rfl⟩
theorem bt_eight (l : List Int) : bt (ofL (manyL l)) 8 = 45 := by
  have := bt_split (s := ofL (manyL l)) (pre := hexL (TagNat.more 0 (cat l))) (x := 45) (rest := dig l.length) (oc_ofL (manyL_lt l))
  rw [hexL_len] at this
  exact this
theorem many_j0 (l : List Int) (hl : l.length ≤ 101) (hok : ok l) (v : Int) (hv : 0 ≤ v ∧ v < 4294967296) : Ev (fun k => cellarerlaw04_TagMany.j0 k l v) true := by
  have hok2 : ok (l ++ [v]) := fun x hx' => by
    rcases List.mem_append.1 hx' with q | q
    · exact hok x q
    · rw [List.mem_singleton.1 q]
      exact hv
  obtain ⟨r, hr, r1, r2, r3⟩ := many_any l hok
  obtain ⟨q, hq, q1, q2, q3⟩ := many_any (l ++ [v]) hok2
  rw [List.length_append, List.length_singleton] at q1 q2 q3
  refine ev_succ ?_
  simp only [cellarerlaw04_TagMany.j0]
  refine ev_bind hr (ev_some (ev_pos (by simp; omega) (ev_some (ev_pos (by simp; omega) (ev_bind hq ?_)))))
  by_cases h : 1 ≤ l.length ∧ l.length ≤ 100
  · obtain rfl := r2 h
    have hz := size_of (oc_ofL (manyL_lt l))
    have hm := manyL_len (l := l) (by omega)
    have hm2 := manyL_long l
    have hrd := read_yes (ofL (manyL l)) (by omega) (by rw [oc_ofL (manyL_lt _)]; exact manyL_T h.1 h.2)
    simp only
    refine ev_pos trivial (ev_bind hrd (ev_pos rfl (ev_pos rfl (ev_neg (by omega) (ev_is (text_is _ (more_hex l)) (ev_pos (by omega) (ev_pos (by omega) (ev_pos ?_ (ev_pos (by omega) ?_)))))))))
    · rw [toList_oc, oc_ofL (hexL_lt _), oc_take, oc_ofL (manyL_lt l)]
      exact (List.take_left' (hexL_len _)).symm
    · rw [bt_eight]
      refine ev_succ ?_
      simp only [cellarerlaw04_TagMany.j1]
      refine ev_neg (by decide) (ev_pos ?_ (ev_neg ?_ (ev_is awake_is (ev_now _))))
      · rw [q1, beq_iff_eq]
        congr 1
        exact propext (by omega)
      · rw [toList_oc, oc_ofL (manyL_lt l)]
        intro e
        by_cases h2 : l.length + 1 ≤ 100
        · rw [q2 ⟨by omega, h2⟩, oc_ofL (manyL_lt _)] at e
          have := List.append_inj_right e (by rw [hexL_len, hexL_len])
          have := dig_inj (List.cons.inj this).2
          rw [List.length_append, List.length_singleton] at this
          omega
        · rw [q3 (by omega)] at e
          have h0 : (manyL l).length = 0 := by rw [e]; rfl
          omega
  · obtain rfl := r3 h
    refine ev_neg (by decide) (ev_pos ?_ (ev_is awake_is (ev_now _)))
    rw [q1, beq_iff_eq, Bool.eq_iff_iff, beq_iff_eq, decide_eq_true_eq]
    omega
theorem TagMany : cellarerlaw04_TagMany.Pure := by
  intro l v hl hv
  have hv := wf_u32 hv
  have hok : ok l := fun x hx' => by
    have := wf_u32 (hl.2 x hx')
    omega
  apply Ev.rounds
  unfold cellarerlaw04_TagMany.f
  by_cases h : (l.length : Int) > 101
  · exact ev_pos h (ev_pos (by omega) (many_j0 (l.take 101) (by rw [List.length_take]; omega) (fun x hx' => hok x (List.mem_of_mem_take hx')) v (by omega)))
  · exact ev_neg h (many_j0 l (by omega) hok v (by omega))
end Go.Proofs.YtmlnkdknpogknaaDoor.Pure
