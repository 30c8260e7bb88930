/-
  layer 6: index.Get (as printed) is what a key has.
-/
import Derived.Test.YtgolfeglabmkkaaPx12
import Derived.Test.YtgolfeglabmkkaaPureIdx
namespace Go.Proofs.Ytgolfeglabmkkaa.PureGet
open Go.RowKit Go.Proofs.Ytgolfeglabmkkaa.P Go.Proofs.YtgolfeglabmkkaaW.PrintWords Go.Proofs.YtgolfeglabmkkaaW.PrintLast Go.Proofs.YtgolfeglabmkkaaW.PrintMore Go.Proofs.Ytgolfeglabmkkaa.PureKit Go.Proofs.Ytgolfeglabmkkaa.IdxSpec Go.Proofs.Ytgolfeglabmkkaa.IdxLaws Go.Proofs.Ytgolfeglabmkkaa.PureRd Go.Proofs.Ytgolfeglabmkkaa.PureFew Go.Proofs.Ytgolfeglabmkkaa.IdxPut Go.Proofs.Ytgolfeglabmkkaa.PureIdx

theorem getL_idx : ∀ (l : List E) (key : ByteArray), (IdxE.idx (IdxE.has key) l = -1 ∧ getL l key = []) ∨ ∃ (i : Nat) (h : i < l.length), IdxE.idx (IdxE.has key) l = (i : Int) ∧ getL l key = l[i].f1
  | [], key => .inl ⟨rfl, rfl⟩
  | x :: r, key => by
    by_cases hh : IdxE.has key x = true
    · exact .inr ⟨0, by simp, by simp [IdxE.idx, List.findIdx?_cons, hh], if_pos hh⟩
    · have e : getL (x :: r) key = getL r key := if_neg hh
      have hf : (x :: r).findIdx? (IdxE.has key) = (r.findIdx? (IdxE.has key)).map (· + 1) := by rw [List.findIdx?_cons, if_neg hh]
      rw [e]
      rcases getL_idx r key with ⟨h1, h2⟩ | ⟨i, hi, h1, h2⟩
      · refine .inl ⟨?_, h2⟩
        unfold IdxE.idx at h1 ⊢
        rw [hf]
        cases hc : r.findIdx? (IdxE.has key) with
        | none => rfl
        | some j => rw [hc] at h1; simp at h1
      · refine .inr ⟨i + 1, by simp; omega, ?_, h2⟩
        unfold IdxE.idx at h1 ⊢
        rw [hf]
        cases hc : r.findIdx? (IdxE.has key) with
        | none => rw [hc] at h1; simp at h1
        | some j =>
          rw [hc] at h1
          simp only at h1
          obtain rfl : j = i := by omega
          rfl
theorem get_is (l : List E) (key : ByteArray) (hl : SmallI l) : index_Get.f l key = some (getL l key) := by
  unfold index_Get.f index_find.f
  rcases getL_idx l key with ⟨h1, h2⟩ | ⟨i, hi, h1, h2⟩
  · rw [h1, h2]
    rfl
  · have hv := (hl.each l[i] (List.getElem_mem hi)).vers.many
    have hr : rd_T38 l (i : Int) = l[i] := by
      unfold rd_T38
      rw [Int.toNat_natCast, List.getD_eq_getElem?_getD, List.getElem?_eq_getElem hi]
      rfl
    rw [h1, h2, Option.bind_some, if_neg (by omega), if_pos (by omega), if_pos (by omega), hr]
    unfold api_Version_31.f
    rw [if_pos (by omega)]
    rfl
theorem small_get {l : List E} (key : ByteArray) (hl : SmallI l) : SmallC (getL l key) := by
  rcases getL_cases l key with ⟨x, hx, _, e⟩ | ⟨_, e⟩
  · rw [e]
    exact (hl.each x hx).vers
  · rw [e]
    exact ⟨by simp, fun v hv => by simp at hv⟩
/-- What is put where it may be. -/
theorem put_ok {l : List E} {key : ByteArray} {c : List V} (h : (put l key c).2 = 0) : indexB l = true ∧ Name.keyB key = true ∧ chainB c = true ∧ (putL l key c).length ≤ 60 ∧ put l key c = (putL l key c, 0) := by
  unfold put at h ⊢
  by_cases h1 : indexB l = true ∧ Name.keyB key = true ∧ chainB c = true
  · rw [if_pos h1] at h ⊢
    by_cases h2 : (putL l key c).length > 60
    · rw [if_pos h2] at h
      cases h
    · rw [if_neg h2]
      exact ⟨h1.1, h1.2.1, h1.2.2, by omega, rfl⟩
  · rw [if_neg h1] at h
    cases h
theorem put_no {l : List E} {key : ByteArray} {c : List V} (h : (put l key c).2 ≠ 0) : (put l key c).1 = [] := by
  unfold put at h ⊢
  by_cases h1 : indexB l = true ∧ Name.keyB key = true ∧ chainB c = true
  · rw [if_pos h1] at h ⊢
    by_cases h2 : (putL l key c).length > 60
    · rw [if_pos h2]
    · rw [if_neg h2] at h
      exact absurd rfl h
  · rw [if_neg h1]
theorem index_putL {l : List E} {key : ByteArray} {c : List V} (h : (put l key c).2 = 0) : indexB (putL l key c) = true ∧ Rise l ∧ (∀ x ∈ l, okE x = true) := by
  obtain ⟨h1, h2, h3, h4, _⟩ := put_ok h
  obtain ⟨_, h5, h6⟩ := (index_iff l).1 h1
  exact ⟨(index_iff _).2 ⟨h4, ok_putL h6 h5 h2 h3, rise_putL h6⟩, h6, h5⟩
end Go.Proofs.Ytgolfeglabmkkaa.PureGet
