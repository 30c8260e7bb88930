/- Two keys are given versions either way round: the index is the same. -/
import Derived.Test.YtgolfeglabmkkaaPx11
import Derived.Test.YtgolfeglabmkkaaPureIdx
import Derived.Test.YtgolfeglabmkkaaPureSame
set_option linter.unusedVariables false
set_option linter.unusedSimpArgs false
namespace Go.Proofs.Ytgolfeglabmkkaa.Pure
open Go.RowKit Go.Proofs.Ytgolfeglabmkkaa.P Go.Proofs.YtgolfeglabmkkaaW.PrintWords Go.Proofs.YtgolfeglabmkkaaW.PrintLast Go.Proofs.YtgolfeglabmkkaaW.PrintMore Go.Proofs.Ytgolfeglabmkkaa.PureKit Go.Proofs.Ytgolfeglabmkkaa.IdxSpec Go.Proofs.Ytgolfeglabmkkaa.IdxLaws Go.Proofs.Ytgolfeglabmkkaa.PureRd Go.Proofs.Ytgolfeglabmkkaa.PureFew Go.Proofs.Ytgolfeglabmkkaa.IdxPut Go.Proofs.Ytgolfeglabmkkaa.PureIdx Go.Proofs.Ytgolfeglabmkkaa.PureGet Go.Proofs.Ytgolfeglabmkkaa.PureSame Go.Proofs.Ytgolfeglabmkkaa.PureSameI
theorem rise_ext : ∀ (a b : List E), Rise a → Rise b → (∀ x, x ∈ a ↔ x ∈ b) → a = b
  | [], [], _, _, _ => rfl
  | [], y :: b, _, _, h => by have := (h y).2 (by simp); simp at this
  | x :: a, [], _, _, h => by have := (h x).1 (by simp); simp at this
  | x :: a, y :: b, ha, hb, h => by
    obtain ⟨ha1, ha2⟩ := List.pairwise_cons.1 ha
    obtain ⟨hb1, hb2⟩ := List.pairwise_cons.1 hb
    have hxy : x = y := by
      rcases List.mem_cons.1 ((h x).1 (by simp)) with e | h1
      · exact e
      · rcases List.mem_cons.1 ((h y).2 (by simp)) with e | h2
        · exact e.symm
        · have := lt_asymm (hb1 x h1)
          rw [ha1 y h2] at this
          cases this
    subst hxy
    congr 1
    refine rise_ext a b ha2 hb2 fun z => ?_
    constructor
    · intro hz
      rcases List.mem_cons.1 ((h z).1 (List.mem_cons_of_mem _ hz)) with e | h1
      · have := ha1 z hz
        rw [e, lt_irrefl] at this
        cases this
      · exact h1
    · intro hz
      rcases List.mem_cons.1 ((h z).2 (List.mem_cons_of_mem _ hz)) with e | h1
      · have := hb1 z hz
        rw [e, lt_irrefl] at this
        cases this
      · exact h1
theorem putL_in {l : List E} {key : ByteArray} {c : List V} (h : Rise l) {x : E} : x ∈ putL l key c ↔ (x ∈ l ∧ x.f0 ≠ key) ∨ x ∈ new key c := by
  rw [putL_mem h]
  constructor
  · rintro (⟨h1, h2⟩ | h1 | ⟨h1, h2⟩)
    · exact .inl ⟨h1, fun e => by rw [e, lt_irrefl] at h2; cases h2⟩
    · exact .inr h1
    · exact .inl ⟨h1, fun e => by rw [e, lt_irrefl] at h2; cases h2⟩
  · rintro (⟨h1, h2⟩ | h1)
    · rcases tri x.f0 key with h3 | h3 | h3
      · exact .inl ⟨h1, h3⟩
      · exact absurd h3 h2
      · exact .inr (.inr ⟨h1, h3⟩)
    · exact .inr (.inl h1)
theorem turns {l : List E} {p q : ByteArray} {c d : List V} (h : Rise l) (hpq : p ≠ q) : putL (putL l p c) q d = putL (putL l q d) p c := by
  have key : ∀ {k : ByteArray} {e : List V} {x : E}, x ∈ new k e → x.f0 = k := fun hx => by rw [(mem_new hx).1]
  refine rise_ext _ _ (rise_putL (rise_putL h)) (rise_putL (rise_putL h)) fun x => ?_
  rw [putL_in (rise_putL h), putL_in h, putL_in (rise_putL h), putL_in h]
  constructor
  · rintro (⟨⟨h1, h2⟩ | h1, h3⟩ | h1)
    · exact .inl ⟨.inl ⟨h1, h3⟩, h2⟩
    · exact .inr h1
    · exact .inl ⟨.inr h1, by rw [key h1]; exact Ne.symm hpq⟩
  · rintro (⟨⟨h1, h2⟩ | h1, h3⟩ | h1)
    · exact .inl ⟨.inl ⟨h1, h3⟩, h2⟩
    · exact .inr h1
    · exact .inl ⟨.inr h1, by rw [key h1]; exact hpq⟩
theorem IndexTurns : cellarerlaw06_IndexTurns.Pure := by
  intro l0 p0 c0 q0 d0 hl hp hq
  apply Ev.rounds
  unfold cellarerlaw06_IndexTurns.f
  have e1 : cutI [(⟨p0, c0⟩ : E)] = [cutE ⟨p0, c0⟩] := rfl
  have e2 : cutI [(⟨q0, d0⟩ : E)] = [cutE ⟨q0, d0⟩] := rfl
  have w1 := index_few [(⟨p0, c0⟩ : E)]
  have w2 := index_few [(⟨q0, d0⟩ : E)]
  rw [e1] at w1
  rw [e2] at w2
  refine ev_bind (index_few l0) (ev_bind w1 (ev_bind w2 ?_))
  have hsl := small_cutI l0 (ids38 hl.2)
  have hsp : SmallE (cutE ⟨p0, c0⟩) := ⟨small_cutK _, small_cutC _ (ids50 hp.2.2)⟩
  have hsq : SmallE (cutE ⟨q0, d0⟩) := ⟨small_cutK _, small_cutC _ (ids50 hq.2.2)⟩
  generalize cutI l0 = l at *
  generalize cutE ⟨p0, c0⟩ = p at *
  generalize cutE ⟨q0, d0⟩ = q at *
  have r1 : rd_T38 [p] 0 = p := rfl
  have r2 : rd_T38 [q] 0 = q := rfl
  rw [r1, r2]
  have quit : ∀ a b, Ev (fun k => cellarerlaw06_IndexTurns.j0 k a b true) true := fun a b => by
    refine ev_succ ?_
    simp only [cellarerlaw06_IndexTurns.j0]
    exact ev_pos trivial (ev_bind awake_is (ev_now _))
  refine ev_pos (by simp) (ev_is (put_is l p.f0 p.f1) (ev_pos (by simp) (ev_is (put_is _ q.f0 q.f1) (ev_is (put_is l q.f0 q.f1) (ev_is (put_is _ p.f0 p.f1) ?_)))))
  by_cases h1 : (put l p.f0 p.f1).2 = 0
  · refine ev_pos h1 ?_
    by_cases h2 : (put (put l p.f0 p.f1).1 q.f0 q.f1).2 = 0
    · refine ev_pos h2 ?_
      by_cases h3 : (put l q.f0 q.f1).2 = 0
      · refine ev_pos h3 ?_
        by_cases h4 : (put (put l q.f0 q.f1).1 p.f0 p.f1).2 = 0
        · refine ev_pos h4 ?_
          by_cases hk : p.f0.toList = q.f0.toList
          · rw [hk, beq_self_eq_true]
            exact quit _ _
          · rw [show (p.f0.toList == q.f0.toList) = false by simpa using hk]
            have hne : p.f0 ≠ q.f0 := fun e => hk (by rw [e])
            have hR := (index_putL h1).2.1
            have s1 := small_put hsl hsp.key hsp.vers
            have s2 := small_put (l := (put l p.f0 p.f1).1) s1 hsq.key hsq.vers
            obtain ⟨_, _, _, _, e1⟩ := put_ok h1
            obtain ⟨_, _, _, _, e3⟩ := put_ok h3
            rw [e1] at h2 s2 ⊢
            rw [e3] at h4 ⊢
            obtain ⟨_, _, _, _, e2⟩ := put_ok h2
            obtain ⟨_, _, _, _, e4⟩ := put_ok h4
            rw [e2] at s2 ⊢
            rw [e4, turns hR (Ne.symm hne)]
            refine ev_succ ?_
            simp only [cellarerlaw06_IndexTurns.j0]
            exact ev_neg (by simp) (ev_bind (same_refl _ s2) (ev_pos rfl (ev_bind awake_is (ev_now _))))
        · exact ev_neg h4 (quit _ _)
      · exact ev_neg h3 (quit _ _)
    · exact ev_neg h2 (quit _ _)
  · exact ev_neg h1 (quit _ _)
end Go.Proofs.Ytgolfeglabmkkaa.Pure
