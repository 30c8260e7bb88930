/-
  THE DOCUMENT's INDEX (layer 6, as printed): May, Put; and Same of chains.
-/
import Derived.Test.YtgolfeglabmkkaaPx6
import Derived.Test.YtgolfeglabmkkaaPureRef
import Derived.Test.YtgolfeglabmkkaaPureFew
namespace Go.Proofs.Ytgolfeglabmkkaa.PureRefPut
open Go.RowKit Go.Proofs.Ytgolfeglabmkkaa.P Go.Proofs.YtgolfeglabmkkaaW.PrintWords Go.Proofs.YtgolfeglabmkkaaW.PrintLast Go.Proofs.YtgolfeglabmkkaaW.PrintMore Go.Proofs.Ytgolfeglabmkkaa.PureKit Go.Proofs.Ytgolfeglabmkkaa.IdxSpec Go.Proofs.Ytgolfeglabmkkaa.IdxLaws Go.Proofs.Ytgolfeglabmkkaa.PureRd Go.Proofs.Ytgolfeglabmkkaa.PureRef Go.Proofs.Ytgolfeglabmkkaa.PureFew

theorem may_loop (l : List E) (hl : SmallI l) : ∀ (rest pre : List E), l = pre ++ rest → Ev (fun k => cellarerref06_May.l0 k l (pre.length : Int)) (rising pre.getLast? rest && decide (l.length ≤ 60))
  | [], pre, h => by
    refine ev_succ ?_
    simp only [cellarerref06_May.l0]
    refine ev_neg (by rw [h]; simp) ?_
    rw [show decide ((l.length : Int) ≤ 60) = decide (l.length ≤ 60) by apply decide_eq_decide.2; omega]
    simpa [rising] using ev_now _
  | v :: rest, pre, h => by
    have hlen : l.length = pre.length + rest.length + 1 := by rw [h]; simp; omega
    have hmany := hl.many
    have hv : SmallE v := hl.each v (by simp [h])
    have hn := may_loop l hl rest (pre ++ [v]) (by simp [h])
    rw [show (((pre ++ [v]).length : Nat) : Int) = (pre.length : Int) + 1 by simp, show (pre ++ [v]).getLast? = some v by simp] at hn
    have tail : ∀ b : Bool, rising pre.getLast? (v :: rest) = (!b && rising (some v) rest) →
        Ev (fun k => cellarerref06_May.j1 k l (pre.length : Int) b) (rising pre.getLast? (v :: rest) && decide (l.length ≤ 60)) := by
      intro b h1
      refine ev_succ ?_
      simp only [cellarerref06_May.j1]
      rw [h1]
      cases b with
      | true => exact ev_pos rfl (by simpa using ev_now _)
      | false =>
        refine ev_neg (by simp) ?_
        rw [wrap_id (by omega) (by omega)]
        simpa using hn
    refine ev_succ ?_
    simp only [cellarerref06_May.l0, rd38 h]
    refine ev_pos (by omega) (ev_pos (by omega) (ev_bind (key_is v.f0) ?_))
    cases hk : Name.keyB v.f0 with
    | false => exact ev_neg (by simp) (tail true (by simp [rising_cons, hk]))
    | true =>
      refine ev_pos rfl ?_
      by_cases h3 : v.f1 = []
      · exact ev_pos (by rw [h3]; rfl) (tail true (by simp [rising_cons, h3]))
      · have h3' : v.f1.isEmpty = false := by simpa using h3
        refine ev_neg (by have := List.length_pos_iff.2 h3; omega) (ev_bind (ref_check v.f1 (by have := hv.vers.many; omega) (fun u hu => (hv.vers.each u hu).id)) ?_)
        cases hc : chainB v.f1 with
        | false => exact ev_neg (by simp) (tail true (by simp [rising_cons, hc]))
        | true =>
          refine ev_pos rfl ?_
          rcases snoc_cases pre with rfl | ⟨pre', u, rfl⟩
          · exact ev_neg (by simp) (tail false (by simp [rising_cons, follows, hk, h3', hc]))
          · have hp : (pre' ++ [u]).length = pre'.length + 1 := by simp
            have hw : wrap64 (((pre' ++ [u]).length : Int) - 1) = (pre'.length : Int) := by rw [wrap_id (by omega) (by omega)]; omega
            have hr : rd_T38 l (pre'.length : Int) = u := rd38 (rest := v :: rest) (by simp [h])
            rw [hw, hr]
            refine ev_pos (by omega) (ev_pos (by omega) (ev_pos (by omega) ?_))
            exact tail _ (by simp [rising_cons, follows, hk, h3', hc, lt])
theorem ref_may (l : List E) (hl : SmallI l) : Ev (fun k => cellarerref06_May.f k l) (indexB l) := by
  have := may_loop l hl l [] rfl
  simpa [cellarerref06_May.f, indexB, Bool.and_comm] using this

theorem tail_loop (l : List E) (key : ByteArray) (hl : l.length ≤ 1000) : ∀ (rest pre acc : List E), l = pre ++ rest → acc.length ≤ 2000 + pre.length →
    Ev (fun k => cellarerref06_Put.l1 k l key acc (pre.length : Int)) (if (acc ++ rest.filter fun x => lt key x.f0).length > 60 then ([], 6) else (acc ++ rest.filter fun x => lt key x.f0, 0))
  | [], pre, acc, h, ha => by
    refine ev_succ ?_
    simp only [cellarerref06_Put.l1]
    refine ev_neg (by rw [h]; simp) ?_
    rw [List.filter_nil, List.append_nil]
    by_cases h1 : acc.length > 60
    · rw [if_pos h1]
      exact ev_pos (by omega) (ev_now _)
    · rw [if_neg h1]
      exact ev_neg (by omega) (ev_now _)
  | v :: rest, pre, acc, h, ha => by
    have hlen : l.length = pre.length + rest.length + 1 := by rw [h]; simp; omega
    refine ev_succ ?_
    simp only [cellarerref06_Put.l1, rd38 h]
    refine ev_pos (by omega) (ev_pos (by omega) ?_)
    rw [wrap_id (by omega) (by omega)]
    cases hlt : lt key v.f0 with
    | true =>
      refine ev_pos hlt (ev_pos (by omega) ?_)
      have := tail_loop l key hl rest (pre ++ [v]) (acc ++ [v]) (by simp [h]) (by simp; omega)
      rw [List.filter_cons_of_pos (by simpa using hlt)]
      simpa using this
    | false =>
      refine ev_neg (by unfold lt at hlt; rw [hlt]; simp) ?_
      have := tail_loop l key hl rest (pre ++ [v]) acc (by simp [h]) (by simp; omega)
      rw [List.filter_cons_of_neg (by simp [hlt])]
      simpa using this
theorem head_loop (l : List E) (key : ByteArray) (c : List V) (hl : l.length ≤ 1000) : ∀ (rest pre acc : List E), l = pre ++ rest → acc.length ≤ pre.length →
    Ev (fun k => cellarerref06_Put.l0 k l key c acc (pre.length : Int)) (if ((acc ++ rest.filter fun x => lt x.f0 key) ++ new key c ++ l.filter fun x => lt key x.f0).length > 60 then ([], 6) else ((acc ++ rest.filter fun x => lt x.f0 key) ++ new key c ++ l.filter fun x => lt key x.f0, 0))
  | [], pre, acc, h, ha => by
    have hlen : l.length = pre.length := by rw [h]; simp
    refine ev_succ ?_
    simp only [cellarerref06_Put.l0]
    refine ev_neg (by rw [h]; simp) ?_
    rw [List.filter_nil, List.append_nil]
    have fin : ∀ acc' : List E, acc'.length ≤ 2000 → Ev (fun k => cellarerref06_Put.j2 k l key acc') (if (acc' ++ l.filter fun x => lt key x.f0).length > 60 then ([], 6) else (acc' ++ l.filter fun x => lt key x.f0, 0)) := fun acc' ha' => by
      refine ev_succ ?_
      simp only [cellarerref06_Put.j2]
      exact tail_loop l key hl l [] acc' rfl (by simpa using ha')
    by_cases hc : c = []
    · subst hc
      refine ev_neg (by simp) ?_
      simpa [new] using fin acc (by omega)
    · refine ev_pos (by have := List.length_pos_iff.2 hc; omega) (ev_pos (by omega) ?_)
      rw [show new key c = [⟨key, c⟩] by simp [new, hc]]
      exact fin (acc ++ [⟨key, c⟩]) (by simp; omega)
  | v :: rest, pre, acc, h, ha => by
    have hlen : l.length = pre.length + rest.length + 1 := by rw [h]; simp; omega
    refine ev_succ ?_
    simp only [cellarerref06_Put.l0, rd38 h]
    refine ev_pos (by omega) (ev_pos (by omega) ?_)
    rw [wrap_id (by omega) (by omega)]
    cases hlt : lt v.f0 key with
    | true =>
      refine ev_pos hlt (ev_pos (by omega) ?_)
      have := head_loop l key c hl rest (pre ++ [v]) (acc ++ [v]) (by simp [h]) (by simp; omega)
      rw [List.filter_cons_of_pos (by simpa using hlt)]
      simpa using this
    | false =>
      refine ev_neg (by unfold lt at hlt; rw [hlt]; simp) ?_
      have := head_loop l key c hl rest (pre ++ [v]) acc (by simp [h]) (by simp; omega)
      rw [List.filter_cons_of_neg (by simp [hlt])]
      simpa using this
theorem ref_put (l : List E) (key : ByteArray) (c : List V) (hl : SmallI l) (hc : SmallC c) : Ev (fun k => cellarerref06_Put.f k l key c) (put l key c) := by
  have hmany := hl.many
  have no : ¬ (indexB l = true ∧ Name.keyB key = true ∧ chainB c = true) → Ev (fun k => cellarerref06_Put.j0 k l key c true) (put l key c) := fun h => by
    unfold put
    rw [if_neg h]
    refine ev_succ ?_
    simp only [cellarerref06_Put.j0]
    exact ev_pos trivial (ev_now _)
  unfold cellarerref06_Put.f
  refine ev_bind (ref_may l hl) ?_
  cases h1 : indexB l with
  | false => exact ev_neg (by simp) (no (by simp [h1]))
  | true =>
    refine ev_pos rfl (ev_bind (key_is key) ?_)
    cases h2 : Name.keyB key with
    | false => exact ev_neg (by simp) (no (by simp [h2]))
    | true =>
      refine ev_pos rfl (ev_bind (ref_check c (by have := hc.many; omega) (fun u hu => (hc.each u hu).id)) ?_)
      cases h3 : chainB c with
      | false => exact no (by simp [h3])
      | true =>
        have hR := ((index_iff l).1 h1).2.2
        unfold put
        rw [if_pos ⟨h1, h2, h3⟩, putL_eq l key c hR]
        refine ev_succ ?_
        simp only [cellarerref06_Put.j0]
        refine ev_neg (by simp) ?_
        have := head_loop l key c (by omega) l [] [] rfl (by simp)
        simpa using this

end Go.Proofs.Ytgolfeglabmkkaa.PureRefPut
