/-
  layer 5: PLAIN LAWS OF CHAINS: when a chain may be, as an order; what is laid and taken away.
-/
import Derived.Test.YtldmidoemcdaaaaChSpec
namespace Go.Proofs.Ytldmidoemcdaaaa.ChOrd
open Go.RowKit Go.Proofs.Ytldmidoemcdaaaa.P Go.Proofs.YtldmidoemcdaaaaW.PrintWords Go.Proofs.Ytldmidoemcdaaaa.PureKit Go.Proofs.Ytldmidoemcdaaaa.ChSpec

/-- u may stand ahead of v. -/
def Ord (u v : V) : Prop := v.f3 ≤ u.f3 ∧ clash v u = false
theorem good_pair : ∀ (l pre : List V), pre.Pairwise Ord → refGood pre l = true → (∀ v ∈ l, mayB v = true) ∧ (pre ++ l).Pairwise Ord
  | [], pre, hp, _ => ⟨fun v hv => by simp at hv, by simpa using hp⟩
  | v :: r, pre, hp, h => by
    simp only [refGood, Bool.and_eq_true, Bool.not_eq_true'] at h
    obtain ⟨⟨⟨h1, h2⟩, h3⟩, h4⟩ := h
    have hv : ∀ u ∈ pre, Ord u v := fun u hu => by
      refine ⟨?_, by rw [List.any_eq_false] at h3; simpa using h3 u hu⟩
      rcases snoc_cases pre with rfl | ⟨pre', z, rfl⟩
      · simp at hu
      · have hz : v.f3 ≤ z.f3 := by simpa [later] using h2
        rcases List.mem_append.1 hu with hu | hu
        · have := (List.pairwise_append.1 hp).2.2 u hu z (by simp)
          have := this.1
          omega
        · simp at hu
          rw [hu]
          exact hz
    have hp' : (pre ++ [v]).Pairwise Ord := List.pairwise_append.2 ⟨hp, by simp, fun u hu w hw => by simp at hw; rw [hw]; exact hv u hu⟩
    obtain ⟨h5, h6⟩ := good_pair r (pre ++ [v]) hp' h4
    refine ⟨fun w hw => ?_, by simpa using h6⟩
    rcases List.mem_cons.1 hw with rfl | hw
    · exact h1
    · exact h5 w hw
theorem pair_good : ∀ (l pre : List V), (∀ v ∈ l, mayB v = true) → (pre ++ l).Pairwise Ord → refGood pre l = true
  | [], _, _, _ => rfl
  | v :: r, pre, hm, hp => by
    have hp2 := List.pairwise_append.1 hp
    simp only [refGood, Bool.and_eq_true, Bool.not_eq_true']
    refine ⟨⟨⟨hm v (by simp), ?_⟩, ?_⟩, pair_good r (pre ++ [v]) (fun w hw => hm w (by simp [hw])) (by simpa using hp)⟩
    · cases hl : pre.getLast? with
      | none => rfl
      | some u =>
        have := (hp2.2.2 u (List.mem_of_getLast? hl) v (by simp)).1
        simpa [later] using this
    · rw [List.any_eq_false]
      intro u hu
      simpa using (hp2.2.2 u hu v (by simp)).2
theorem chain_iff {l : List V} (hw : ∀ v ∈ l, 0 ≤ v.f0) : chainB l = true ↔ l.length ≤ 20 ∧ (∀ v ∈ l, mayB v = true) ∧ l.Pairwise Ord := by
  rw [← chain_eq l hw]
  unfold refChain
  simp only [Bool.and_eq_true, decide_eq_true_eq]
  constructor
  · rintro ⟨h1, h2⟩
    have := good_pair l [] (by simp) h1
    exact ⟨h2, this.1, by simpa using this.2⟩
  · rintro ⟨h1, h2, h3⟩
    exact ⟨pair_good l [] h2 (by simpa using h3), h1⟩
theorem without_sub (l : List V) (id : Int) : (withoutL l id).Sublist l := List.filter_sublist
theorem without_mem {l : List V} {id : Int} {v : V} : v ∈ withoutL l id ↔ v ∈ l ∧ v.f0 ≠ id := by simp [withoutL]
theorem chain_sub {l m : List V} (hw : ∀ v ∈ l, 0 ≤ v.f0) (h : m.Sublist l) (hc : chainB l = true) : chainB m = true := by
  obtain ⟨h1, h2, h3⟩ := (chain_iff hw).1 hc
  exact (chain_iff (fun v hv => hw v (h.subset hv))).2 ⟨Nat.le_trans h.length_le h1, fun v hv => h2 v (h.subset hv), h3.sublist h⟩
theorem without_comm (l : List V) (a b : Int) : withoutL (withoutL l a) b = withoutL (withoutL l b) a := by
  unfold withoutL
  rw [List.filter_filter, List.filter_filter]
  apply List.filter_congr
  intro x _
  exact Bool.and_comm _ _
theorem any_without {l : List V} {a b : Int} (h : a ≠ b) : (withoutL l a).any (fun x => x.f0 == b) = l.any (fun x => x.f0 == b) := by
  cases hb : l.any (fun x => x.f0 == b) with
  | true =>
    obtain ⟨x, hx, hp⟩ := List.any_eq_true.1 hb
    have hp' : x.f0 = b := by simpa using hp
    exact List.any_eq_true.2 ⟨x, without_mem.2 ⟨hx, by omega⟩, hp⟩
  | false =>
    rw [List.any_eq_false] at hb ⊢
    exact fun x hx => hb x (without_mem.1 hx).1
theorem find_without (l : List V) (a : Int) : (withoutL l a).find? (fun x => x.f0 == a) = none := by
  rw [List.find?_eq_none]
  intro x hx
  simpa using (without_mem.1 hx).2
theorem without_id {l : List V} {a : Int} (h : ∀ x ∈ l, x.f0 ≠ a) : withoutL l a = l := by
  unfold withoutL
  rw [List.filter_eq_self]
  intro x hx
  simpa using h x hx
/-- No two have one ID. -/
theorem ids {l pre rest : List V} {v : V} (hc : l.Pairwise Ord) (h : l = pre ++ v :: rest) : ∀ u ∈ pre, u.f0 ≠ v.f0 := by
  intro u hu he
  subst h
  have := ((List.pairwise_append.1 hc).2.2 u hu v (by simp)).2
  simp only [clash, Bool.or_eq_false_iff, Bool.and_eq_false_iff, Bool.not_eq_false', decide_eq_false_iff_not, decide_eq_true_eq] at this
  omega
theorem find_self {l pre rest : List V} {v : V} (hc : l.Pairwise Ord) (h : l = pre ++ v :: rest) : l.find? (fun x => x.f0 == v.f0) = some v := by
  have hn := ids hc h
  subst h
  rw [List.find?_append, List.find?_eq_none.2 (fun u hu => by simpa using hn u hu)]
  simp
/-- What is laid ahead may be. -/
theorem chain_ahead {l : List V} {v : V} (hw : ∀ u ∈ l, 0 ≤ u.f0) (hv0 : 0 ≤ v.f0) (hc : chainB l = true) (hm : mayB v = true) (hel : elder l v = false) (h20 : l.length + 1 ≤ 20) (hid : ∀ u ∈ l, (u.f0 = 0 ∧ v.f0 ≠ 0) ∨ (u.f0 ≠ 0 ∧ v.f0 = 0) ∨ u.f0 < v.f0) : chainB (v :: l) = true := by
  obtain ⟨h1, h2, h3⟩ := (chain_iff hw).1 hc
  refine (chain_iff (fun u hu => ?_)).2 ⟨by simpa using h20, fun u hu => ?_, List.pairwise_cons.2 ⟨fun u hu => ⟨?_, ?_⟩, h3⟩⟩
  · rcases List.mem_cons.1 hu with rfl | hu
    · exact hv0
    · exact hw u hu
  · rcases List.mem_cons.1 hu with rfl | hu
    · exact hm
    · exact h2 u hu
  · cases l with
    | nil => simp at hu
    | cons z zs =>
      have hz : z.f3 ≤ v.f3 := by simpa [elder] using hel
      rcases List.mem_cons.1 hu with rfl | hu
      · exact hz
      · have := ((List.pairwise_cons.1 h3).1 u hu).1
        omega
  · have h4 := hid u hu
    have h5 := hw u hu
    simp only [clash, Bool.or_eq_false_iff, Bool.and_eq_false_iff, Bool.not_eq_false', decide_eq_false_iff_not, decide_eq_true_eq]
    omega
theorem put_bad {l : List V} {s : Int} {x : V} (h : (putF l s x).2 ≠ 0) : (putF l s x).1 = [] := by
  unfold putF at h ⊢
  split
  · rename_i hc
    rw [if_pos hc] at h
    split
    · rfl
    · rename_i h2
      rw [if_neg h2] at h
      split
      · rfl
      · rename_i h3
        rw [if_neg h3] at h
        exact absurd rfl h
  · rfl
/-- What is put, where it is. -/
theorem put_good {l : List V} {s : Int} {x : V} (h : (putF l s x).2 = 0) : chainB l = true ∧ (s = 0 ∨ s = 1 ∨ s = 2) ∧ mayB x = true ∧ elder l x = false ∧ (layF l s x).2 = 0 ∧ (layF l s x).1.length ≤ 20 ∧ putF l s x = ((layF l s x).1, 0) := by
  unfold putF at h ⊢
  split
  · rename_i hc
    rw [if_pos hc] at h
    split
    · rename_i h2
      rw [if_pos h2] at h
      exact absurd h h2
    · rename_i h2
      rw [if_neg h2] at h
      split
      · rename_i h3
        rw [if_pos h3] at h
        exact absurd h (by decide)
      · rename_i h3
        exact ⟨hc.1, hc.2.1, hc.2.2.1, hc.2.2.2, by simpa using h2, by omega, rfl⟩
  · rename_i hc
    rw [if_neg hc] at h
    exact absurd h (by decide)
theorem put_ahead {l : List V} {x : V} (h : (putF l 1 x).2 = 0) : x.f0 ≠ 0 ∧ (∀ y ∈ l, y.f0 < x.f0) ∧ putF l 1 x = (x :: l, 0) := by
  obtain ⟨h1, h2, h3, h4, h5, h6, h7⟩ := put_good h
  rw [h7]
  rw [show layF l 1 x = aheadF l x from if_pos rfl] at h5 ⊢
  unfold aheadF at h5 ⊢
  by_cases h0 : x.f0 = 0
  · rw [if_pos h0] at h5
    exact absurd h5 (by decide)
  · rw [if_neg h0] at h5 ⊢
    by_cases ha : l.any (fun y => decide (y.f0 ≥ x.f0)) = true
    · rw [if_pos ha] at h5
      exact absurd h5 (by decide)
    · rw [if_neg ha]
      refine ⟨h0, fun y hy => ?_, rfl⟩
      rw [Bool.not_eq_true, List.any_eq_false] at ha
      have := ha y hy
      simp at this
      exact this
end Go.Proofs.Ytldmidoemcdaaaa.ChOrd
