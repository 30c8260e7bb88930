/- Whatever text there is, the parse and the read are the document's; a tag's text and a tag of many are the document's. -/
import Derived.Test.YtmlnkdknpogknaaDoorTagPure
import Derived.Test.YtmlnkdknpogknaaDoorPx4
import Derived.Test.YtmlnkdknpogknaaDoorPxOpens
set_option linter.unusedVariables false
set_option linter.unusedSimpArgs false
namespace Go.Proofs.YtmlnkdknpogknaaDoor.Pure
open Go.RowKit Go.Proofs.YtmlnkdknpogknaaDoor.P Go.Proofs.YtmlnkdknpogknaaDoorW.PrintWords Go.Proofs.YtmlnkdknpogknaaDoorW.PrintLast Go.Proofs.YtmlnkdknpogknaaDoorW.PrintMore Go.Proofs.YtmlnkdknpogknaaDoor.PureKit Go.Proofs.YtmlnkdknpogknaaDoor.Laid Go.Proofs.YtmlnkdknpogknaaDoor.Dig Go.Proofs.YtmlnkdknpogknaaDoor.TagTx Go.Proofs.YtmlnkdknpogknaaDoor.TagPure

theorem texts_j1 (l : List Int) (hl : l.length ≤ 101) (hok : ok l) : Ev (fun k => cellarerlaw04_TagTexts.j1 k l false) true := by
  refine ev_succ ?_
  simp only [cellarerlaw04_TagTexts.j1]
  refine ev_neg (by simp) ?_
  by_cases h : l.length = 0 ∨ 100 < l.length
  · have fin : ∀ b, b = true → Ev (fun k => cellarerlaw04_TagTexts.j2 k l (⟨#[]⟩ : ByteArray) 1 b) true := fun b hb => by
      subst hb
      refine ev_succ ?_
      simp only [cellarerlaw04_TagTexts.j2]
      exact ev_pos trivial (ev_pos (toList_nil.2 rfl) (ev_pos trivial (ev_is awake_is (ev_now _))))
    refine ev_bind (many_none l h) ?_
    by_cases h0 : l.length = 0
    · exact ev_pos (by omega) (fin _ rfl)
    · exact ev_neg (by omega) (fin _ (by simp; omega))
  · have h1 : 1 ≤ l.length := by omega
    have h2 : l.length ≤ 100 := by omega
    refine ev_bind (many_is l hok h1 h2) (ev_neg (by omega) ?_)
    rw [show decide ((l.length : Int) > 100) = false from decide_eq_false (by omega)]
    obtain ⟨v, r, rfl⟩ : ∃ v r, l = v :: r := by
      cases l with
      | nil => simp at h1
      | cons v r => exact ⟨v, r, rfl⟩
    have e0 : rd (v :: r) 0 = v := rfl
    obtain ⟨v0, v1⟩ := hok v (by simp)
    obtain ⟨u, rfl⟩ := Int.eq_ofNat_of_zero_le v0
    have hu : u < 4294967296 := by omega
    refine ev_succ ?_
    simp only [cellarerlaw04_TagTexts.j2]
    rw [e0]
    have hp := parse_is (ofL (hexL u))
    rw [oc_ofL (hexL_lt u), parseT_iff.2 ⟨rfl, hu⟩] at hp
    have hz := size_of (oc_ofL (manyL_lt ((u : Int) :: r)))
    have hm := manyL_len (l := (u : Int) :: r) (by omega)
    have hr := read_yes (ofL (manyL ((u : Int) :: r))) (by omega) (by rw [oc_ofL (manyL_lt _)]; exact manyL_T h1 h2)
    exact ev_neg (by simp) (ev_pos (by omega) (ev_is (text_is u hu) (ev_bind hp (ev_bind hr (ev_bind (ref_text u hu) (ev_pos rfl (ev_pos rfl (ev_pos rfl (ev_bind (rmany_is _ (by omega) h1 hok) (ev_pos rfl (ev_pos trivial (ev_pos rfl (ev_pos rfl (ev_is awake_is (ev_now _)))))))))))))))
theorem texts_j0 (l : List Int) (hl : l.length ≤ 101) (hok : ok l) (s0 : ByteArray) : Ev (fun k => cellarerlaw04_TagTexts.j0 k l s0) true := by
  have J := texts_j1 l hl hok
  refine ev_succ ?_
  simp only [cellarerlaw04_TagTexts.j0]
  obtain ⟨s, hs, hsz⟩ := few s0
  refine ev_bind hs (ev_bind (parse_is s) (ev_bind (ref_parse s) ?_))
  have e1 : (P (parseT (oc s))).1 = (R (parseT (oc s))).1 := by cases parseT (oc s) <;> rfl
  have e2 : ((P (parseT (oc s))).2 == 0) = (R (parseT (oc s))).2 := by cases parseT (oc s) <;> rfl
  have e3 : (R (parseT (oc s))).2 = false → (P (parseT (oc s))).2 = 2 := by cases parseT (oc s) <;> simp [P, R]
  by_cases h : ∃ t n, T (oc s) t n
  · obtain ⟨t, n, h⟩ := h
    refine ev_bind (read_yes s hsz h) (ev_bind (rread_yes s hsz h) (ev_pos e1 (ev_neg (by rw [e2]; simp) ?_)))
    have K := ev_pos (A := fun k => if (n : Int) = (n : Int) then (if (((0 : Int) == 0) != true) = true then (cellarerlaw04_TagTexts.j1 k l true) else (if true = true then (cellarerlaw04_TagTexts.j1 k l false) else (cellarerlaw04_TagTexts.j1 k l ((0 : Int) != 2)))) else (cellarerlaw04_TagTexts.j1 k l true)) (B := fun k => cellarerlaw04_TagTexts.j1 k l true) (show (t : Int) = (t : Int) from rfl) (ev_pos rfl (ev_neg (by decide) (ev_pos rfl J)))
    cases hq : (R (parseT (oc s))).2 with
    | true => exact ev_pos rfl K
    | false => exact ev_neg (by simp) (ev_pos (e3 hq) K)
  · refine ev_bind (read_no s hsz (fun t n q => h ⟨t, n, q⟩)) (ev_bind (rread_no s hsz (fun t n q => h ⟨t, n, q⟩)) (ev_pos e1 (ev_neg (by rw [e2]; simp) ?_)))
    have K := ev_pos (A := fun k => if (0 : Int) = 0 then (if (((2 : Int) == 0) != false) = true then (cellarerlaw04_TagTexts.j1 k l true) else (if false = true then (cellarerlaw04_TagTexts.j1 k l false) else (cellarerlaw04_TagTexts.j1 k l ((2 : Int) != 2)))) else (cellarerlaw04_TagTexts.j1 k l true)) (B := fun k => cellarerlaw04_TagTexts.j1 k l true) (show (0 : Int) = 0 from rfl) (ev_pos rfl (ev_neg (by decide) (ev_neg (by simp) J)))
    cases hq : (R (parseT (oc s))).2 with
    | true => exact ev_pos rfl K
    | false => exact ev_neg (by simp) (ev_pos (e3 hq) K)
theorem TagTexts : cellarerlaw04_TagTexts.Pure := by
  intro l s hl _
  have hok : ok l := fun v hv => by
    have := wf_u32 (hl.2 v hv)
    omega
  apply Ev.rounds
  unfold cellarerlaw04_TagTexts.f
  by_cases h : (l.length : Int) > 101
  · exact ev_pos h (ev_pos (by omega) (texts_j0 (l.take 101) (by rw [List.length_take]; omega) (fun v hv => hok v (List.mem_of_mem_take hv)) s))
  · exact ev_neg h (texts_j0 l (by omega) hok s)
end Go.Proofs.YtmlnkdknpogknaaDoor.Pure
