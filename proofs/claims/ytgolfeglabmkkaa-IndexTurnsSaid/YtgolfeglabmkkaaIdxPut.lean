/-
  layer 6: THE PLAIN LAWS of put, get, at, count, over any index that may be.
-/
import Derived.Test.YtgolfeglabmkkaaIdxLaws
namespace Go.Proofs.Ytgolfeglabmkkaa.IdxPut
open Go.RowKit Go.Proofs.Ytgolfeglabmkkaa.P Go.Proofs.YtgolfeglabmkkaaW.PrintWords Go.Proofs.Ytgolfeglabmkkaa.PureKit Go.Proofs.Ytgolfeglabmkkaa.IdxSpec Go.Proofs.Ytgolfeglabmkkaa.IdxLaws

theorem bytes_inj {s t : ByteArray} (h : s.toList = t.toList) : s = t := by
  rw [ByteArray.toList_eq, ByteArray.toList_eq] at h
  cases s with | mk a => cases t with | mk b =>
  congr 1
  exact Array.ext' h
theorem has_key {key : ByteArray} {x : E} : IdxE.has key x = true ↔ x.f0 = key := by
  rw [has_iff]
  exact ⟨bytes_inj, fun h => by rw [h]⟩
theorem tri (a b : ByteArray) : lt a b = true ∨ a = b ∨ lt b a = true := by
  cases h1 : lt a b with
  | true => exact .inl rfl
  | false =>
    cases h2 : lt b a with
    | true => exact .inr (.inr rfl)
    | false => exact .inr (.inl (bytes_inj (lt_tri h1 h2)))
abbrev F1 (l : List E) (key : ByteArray) : List E := l.filter fun x => lt x.f0 key
abbrev F2 (l : List E) (key : ByteArray) : List E := l.filter fun x => lt key x.f0
theorem mem_new {key : ByteArray} {c : List V} {x : E} (h : x ∈ new key c) : x = ⟨key, c⟩ ∧ c ≠ [] := by
  unfold new at h
  split at h
  · simp at h
  · rename_i hc
    exact ⟨by simpa using h, hc⟩
theorem F1_mem {l : List E} {key : ByteArray} {x : E} : x ∈ F1 l key ↔ x ∈ l ∧ lt x.f0 key = true := by simp [F1]
theorem F2_mem {l : List E} {key : ByteArray} {x : E} : x ∈ F2 l key ↔ x ∈ l ∧ lt key x.f0 = true := by simp [F2]
theorem putL_mem {l : List E} {key : ByteArray} {c : List V} (h : Rise l) {x : E} : x ∈ putL l key c ↔ (x ∈ l ∧ lt x.f0 key = true) ∨ x ∈ new key c ∨ (x ∈ l ∧ lt key x.f0 = true) := by
  rw [putL_eq l key c h]
  simp only [List.mem_append, F1_mem, F2_mem, or_assoc]
theorem rise_putL {l : List E} {key : ByteArray} {c : List V} (h : Rise l) : Rise (putL l key c) := by
  rw [putL_eq l key c h]
  refine List.pairwise_append.2 ⟨List.pairwise_append.2 ⟨h.sublist List.filter_sublist, ?_, fun x hx y hy => ?_⟩, h.sublist List.filter_sublist, fun x hx y hy => ?_⟩
  · unfold new
    split <;> simp
  · obtain ⟨rfl, _⟩ := mem_new hy
    exact (F1_mem.1 hx).2
  · have hy' := (F2_mem.1 hy).2
    rcases List.mem_append.1 hx with hx | hx
    · exact lt_trans (F1_mem.1 hx).2 hy'
    · obtain ⟨rfl, _⟩ := mem_new hx
      exact hy'
theorem ok_putL {l : List E} {key : ByteArray} {c : List V} (h : Rise l) (hl : ∀ x ∈ l, okE x = true) (hk : Name.keyB key = true) (hc : chainB c = true) : ∀ x ∈ putL l key c, okE x = true := by
  intro x hx
  rcases (putL_mem h).1 hx with hx | hx | hx
  · exact hl x hx.1
  · obtain ⟨rfl, hn⟩ := mem_new hx
    simp [okE, hk, hc, hn]
  · exact hl x hx.1
theorem F1_putL {l : List E} {key : ByteArray} {c : List V} (h : Rise l) : F1 (putL l key c) key = F1 l key := by
  rw [putL_eq l key c h]
  unfold F1
  rw [List.filter_append, List.filter_append]
  rw [filter_all (l := l.filter fun x => lt x.f0 key) (fun x hx => (List.mem_filter.1 hx).2)]
  rw [filter_none (l := new key c) (fun x hx => by obtain ⟨rfl, _⟩ := mem_new hx; exact lt_irrefl key)]
  rw [filter_none (l := l.filter fun x => lt key x.f0) (fun x hx => lt_asymm (List.mem_filter.1 hx).2)]
  simp
theorem F2_putL {l : List E} {key : ByteArray} {c : List V} (h : Rise l) : F2 (putL l key c) key = F2 l key := by
  rw [putL_eq l key c h]
  unfold F2
  rw [List.filter_append, List.filter_append]
  rw [filter_all (l := l.filter fun x => lt key x.f0) (fun x hx => (List.mem_filter.1 hx).2)]
  rw [filter_none (l := new key c) (fun x hx => by obtain ⟨rfl, _⟩ := mem_new hx; exact lt_irrefl key)]
  rw [filter_none (l := l.filter fun x => lt x.f0 key) (fun x hx => lt_asymm (List.mem_filter.1 hx).2)]
  simp
theorem at_putL {l : List E} {key : ByteArray} {c : List V} (h : Rise l) : at_ (putL l key c) key = at_ l key := by
  have := F1_putL (key := key) (c := c) h
  unfold at_
  rw [show (putL l key c).filter (fun x => lt x.f0 key) = l.filter (fun x => lt x.f0 key) from this]
theorem putL_at {l : List E} {key : ByteArray} {c : List V} (h : Rise l) (hc : c ≠ []) : putL l key c = F1 l key ++ ⟨key, c⟩ :: F2 l key ∧ (F1 l key).length = at_ l key := by
  refine ⟨?_, rfl⟩
  rw [putL_eq l key c h]
  simp [new, hc]
theorem at_rise {m pre rest : List E} {x : E} (h : Rise m) (hm : m = pre ++ x :: rest) : at_ m x.f0 = pre.length := by
  subst hm
  obtain ⟨h1, h2, h3⟩ := List.pairwise_append.1 h
  obtain ⟨h4, h5⟩ := List.pairwise_cons.1 h2
  unfold at_
  rw [List.filter_append, List.filter_cons_of_neg (by simp [lt_irrefl]), filter_all (fun y hy => h3 y hy x (by simp)), filter_none (l := rest) (fun y hy => lt_asymm (h4 y hy))]
  simp

/-- What a key has. -/
def getL : List E → ByteArray → List V
  | [], _ => []
  | x :: r, key => if IdxE.has key x = true then x.f1 else getL r key
theorem getL_mem : ∀ {l : List E} {x : E} {key : ByteArray}, Rise l → x ∈ l → x.f0 = key → getL l key = x.f1
  | y :: r, x, key, h, hx, hk => by
    obtain ⟨h1, h2⟩ := List.pairwise_cons.1 h
    unfold getL
    rcases List.mem_cons.1 hx with rfl | hx
    · rw [if_pos (has_key.2 hk)]
    · rw [if_neg, getL_mem h2 hx hk]
      intro hc
      have := h1 x hx
      rw [has_key.1 hc, hk, lt_irrefl] at this
      cases this
theorem getL_none : ∀ {l : List E} {key : ByteArray}, (∀ x ∈ l, x.f0 ≠ key) → getL l key = []
  | [], _, _ => rfl
  | y :: r, key, h => by
    unfold getL
    rw [if_neg (fun hc => h y (by simp) (has_key.1 hc)), getL_none (fun x hx => h x (by simp [hx]))]
theorem getL_cases (l : List E) (key : ByteArray) : (∃ x ∈ l, x.f0 = key ∧ getL l key = x.f1) ∨ ((∀ x ∈ l, x.f0 ≠ key) ∧ getL l key = []) := by
  induction l with
  | nil => exact .inr ⟨fun x hx => by simp at hx, rfl⟩
  | cons y r ih =>
    by_cases hh : IdxE.has key y = true
    · exact .inl ⟨y, by simp, has_key.1 hh, if_pos hh⟩
    · have e : getL (y :: r) key = getL r key := if_neg hh
      rw [e]
      rcases ih with ⟨x, hx, h1, h2⟩ | ⟨h1, h2⟩
      · exact .inl ⟨x, by simp [hx], h1, h2⟩
      · refine .inr ⟨fun x hx => ?_, h2⟩
        rcases List.mem_cons.1 hx with rfl | hx
        · exact fun hc => hh (has_key.2 hc)
        · exact h1 x hx
theorem get_put {l : List E} {key : ByteArray} {c : List V} (h : Rise l) : getL (putL l key c) key = c := by
  by_cases hc : c = []
  · rw [hc]
    refine getL_none fun x hx hk => ?_
    rcases (putL_mem h).1 hx with hx | hx | hx
    · rw [hk, lt_irrefl] at hx; cases hx.2
    · exact (mem_new hx).2 rfl
    · rw [hk, lt_irrefl] at hx; cases hx.2
  · exact getL_mem (x := ⟨key, c⟩) (rise_putL h) ((putL_mem h).2 (.inr (.inl (by simp [new, hc])))) rfl
theorem get_other {l : List E} {key other : ByteArray} {c : List V} (h : Rise l) (hne : other ≠ key) : getL (putL l key c) other = getL l other := by
  rcases getL_cases l other with ⟨x, hx, hk, e⟩ | ⟨hn, e⟩
  · rw [e]
    refine getL_mem (rise_putL h) ((putL_mem h).2 ?_) hk
    rcases tri x.f0 key with h1 | h1 | h1
    · exact .inl ⟨hx, h1⟩
    · exact absurd (hk.symm.trans h1) hne
    · exact .inr (.inr ⟨hx, h1⟩)
  · rw [e]
    refine getL_none fun x hx hk => ?_
    rcases (putL_mem h).1 hx with hx | hx | hx
    · exact hn x hx.1 hk
    · obtain ⟨rfl, _⟩ := mem_new hx
      exact hne hk.symm
    · exact hn x hx.1 hk
/-- An index in three: what is less, the key's, what is greater. -/
theorem parts : ∀ {l : List E} {key : ByteArray}, Rise l → (∀ x ∈ l, x.f1 ≠ []) → F1 l key ++ new key (getL l key) ++ F2 l key = l
  | [], key, _, _ => by simp [F1, F2, getL, new]
  | x :: r, key, h, hn => by
    obtain ⟨h1, h2⟩ := List.pairwise_cons.1 h
    have ih := parts (key := key) h2 (fun y hy => hn y (by simp [hy]))
    rcases tri x.f0 key with hx | hx | hx
    · have hh : ¬ IdxE.has key x = true := fun hc => by rw [has_key.1 hc, lt_irrefl] at hx; cases hx
      rw [show F1 (x :: r) key = x :: F1 r key from List.filter_cons_of_pos (by simpa using hx), show F2 (x :: r) key = F2 r key from List.filter_cons_of_neg (by simp [lt_asymm hx]), show getL (x :: r) key = getL r key from if_neg hh]
      simpa using ih
    · have hr : ∀ y ∈ r, lt key y.f0 = true := fun y hy => hx ▸ h1 y hy
      rw [show F1 (x :: r) key = [] from filter_none (fun y hy => by
          rcases List.mem_cons.1 hy with rfl | hy
          · rw [hx]; exact lt_irrefl key
          · exact lt_asymm (hr y hy)),
        show F2 (x :: r) key = r from (List.filter_cons_of_neg (by rw [hx]; simp [lt_irrefl])).trans (filter_all hr), show getL (x :: r) key = x.f1 from if_pos (has_key.2 hx)]
      have : new key x.f1 = [x] := by
        unfold new
        rw [if_neg (hn x (by simp)), ← hx]
      rw [this]
      rfl
    · have hr : ∀ y ∈ x :: r, lt key y.f0 = true := fun y hy => by
        rcases List.mem_cons.1 hy with rfl | hy
        · exact hx
        · exact lt_trans hx (h1 y hy)
      rw [show F1 (x :: r) key = [] from filter_none (fun y hy => lt_asymm (hr y hy)), show F2 (x :: r) key = x :: r from filter_all hr, getL_none (fun y hy hk => by have := hr y hy; rw [hk, lt_irrefl] at this; cases this)]
      simp [new]
theorem back {l : List E} {key : ByteArray} {c : List V} (h : Rise l) (hn : ∀ x ∈ l, x.f1 ≠ []) : putL (putL l key c) key (getL l key) = l := by
  rw [putL_eq _ key _ (rise_putL h)]
  rw [show ((putL l key c).filter fun x => lt x.f0 key) = F1 l key from F1_putL h, show ((putL l key c).filter fun x => lt key x.f0) = F2 l key from F2_putL h]
  exact parts h hn
/-- How many versions, how many octets. -/
def octC (c : List V) : Nat := (c.map fun v => v.f1.size).sum
def many (l : List E) : Nat := (l.map fun x => x.f1.length).sum
def octs (l : List E) : Nat := (l.map fun x => octC x.f1).sum
theorem many_new (key : ByteArray) (c : List V) : many (new key c) = c.length := by
  unfold new many
  split
  · rename_i h; simp [h]
  · simp
theorem octs_new (key : ByteArray) (c : List V) : octs (new key c) = octC c := by
  unfold new octs
  split
  · rename_i h; simp [h, octC]
  · simp
theorem many_put {l : List E} {key : ByteArray} {c : List V} (h : Rise l) (hn : ∀ x ∈ l, x.f1 ≠ []) : many (putL l key c) + (getL l key).length = many l + c.length := by
  have ha : ∀ a b : List E, many (a ++ b) = many a + many b := fun a b => by simp [many]
  have e2 : many l = many (F1 l key) + (getL l key).length + many (F2 l key) := by
    rw [← many_new key (getL l key), ← ha, ← ha, parts h hn]
  have e3 : many (putL l key c) = many (F1 l key) + (c).length + many (F2 l key) := by
    rw [putL_eq l key c h, ha, ha, many_new]
  omega
theorem octs_put {l : List E} {key : ByteArray} {c : List V} (h : Rise l) (hn : ∀ x ∈ l, x.f1 ≠ []) : octs (putL l key c) + octC (getL l key) = octs l + octC c := by
  have ha : ∀ a b : List E, octs (a ++ b) = octs a + octs b := fun a b => by simp [octs]
  have e2 : octs l = octs (F1 l key) + octC (getL l key) + octs (F2 l key) := by
    rw [← octs_new key (getL l key), ← ha, ← ha, parts h hn]
  have e3 : octs (putL l key c) = octs (F1 l key) + octC (c) + octs (F2 l key) := by
    rw [putL_eq l key c h, ha, ha, octs_new]
  omega
theorem okE_some {x : E} (h : okE x = true) : x.f1 ≠ [] := by
  simp only [okE, Bool.and_eq_true] at h
  intro hc
  rw [hc] at h
  simp at h
end Go.Proofs.Ytgolfeglabmkkaa.IdxPut
