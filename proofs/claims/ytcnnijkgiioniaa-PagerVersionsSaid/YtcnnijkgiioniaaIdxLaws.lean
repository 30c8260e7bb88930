/-
  layer 6: THE PLAIN LAWS of what is put, in IdxSpec's words: an index's keys rise; what is less stays ahead, what is greater behind. And the document's checks are the code's.
-/
import Derived.Test.YtcnnijkgiioniaaProg
import Derived.Test.YtcnnijkgiioniaaCmp
import Derived.Test.YtcnnijkgiioniaaIdxE
import Derived.Test.YtcnnijkgiioniaaIdxSpec
import Derived.Test.YtcnnijkgiioniaaName
import Derived.Test.YtcnnijkgiioniaaV0
namespace Go.Proofs.Ytcnnijkgiioniaa.IdxLaws
open Go.RowKit Go.Proofs.Ytcnnijkgiioniaa.P Go.Proofs.YtcnnijkgiioniaaW.PrintWords Go.Proofs.Ytcnnijkgiioniaa.PureKit Go.Proofs.Ytcnnijkgiioniaa.IdxSpec

def okE (x : E) : Bool := Name.keyB x.f0 && !x.f1.isEmpty && chainB x.f1
abbrev Rise (l : List E) : Prop := l.Pairwise (fun a b => lt a.f0 b.f0 = true)
theorem rising_iff : ∀ (l : List E) (prev : Option E), rising prev l = true ↔ (∀ x ∈ l, okE x = true) ∧ Rise l ∧ (∀ u, prev = some u → ∀ x ∈ l, lt u.f0 x.f0 = true)
  | [], prev => by simp [rising]
  | x :: r, prev => by
    have ih := rising_iff r (some x)
    simp only [rising_cons, Bool.and_eq_true, ih]
    constructor
    · rintro ⟨⟨⟨⟨h1, h2⟩, h3⟩, h4⟩, h5, h6, h7⟩
      refine ⟨fun y hy => ?_, List.pairwise_cons.2 ⟨h7 x rfl, h6⟩, fun u hu y hy => ?_⟩
      · rcases List.mem_cons.1 hy with rfl | hy
        · simp only [okE, Bool.and_eq_true]; exact ⟨⟨h1, h3⟩, h4⟩
        · exact h5 y hy
      · subst hu
        rcases List.mem_cons.1 hy with rfl | hy
        · exact h2
        · exact lt_trans h2 (h7 x rfl y hy)
    · rintro ⟨h1, h2, h3⟩
      have hx := h1 x (by simp)
      simp only [okE, Bool.and_eq_true] at hx
      refine ⟨⟨⟨⟨hx.1.1, ?_⟩, hx.1.2⟩, hx.2⟩, fun y hy => h1 y (by simp [hy]), (List.pairwise_cons.1 h2).2, fun u hu y hy => ?_⟩
      · cases prev with
        | none => rfl
        | some u => exact h3 u rfl x (by simp)
      · injection hu with hu
        subst hu
        exact (List.pairwise_cons.1 h2).1 y hy
theorem index_iff (l : List E) : indexB l = true ↔ l.length ≤ 60 ∧ (∀ x ∈ l, okE x = true) ∧ Rise l := by
  simp only [indexB, Bool.and_eq_true, decide_eq_true_eq, rising_iff]
  simp

theorem filter_none {α : Type} {p : α → Bool} {l : List α} (h : ∀ x ∈ l, p x = false) : l.filter p = [] := List.filter_eq_nil_iff.2 (fun x hx => by simp [h x hx])
theorem filter_all {α : Type} {p : α → Bool} {l : List α} (h : ∀ x ∈ l, p x = true) : l.filter p = l := List.filter_eq_self.2 h
theorem idx_cons (p : E → Bool) (x : E) (r : List E) : IdxE.idx p (x :: r) ≥ 0 ↔ p x = true ∨ IdxE.idx p r ≥ 0 := by
  constructor
  · intro h
    obtain ⟨y, hy, hp⟩ := idx_nonneg _ _ h
    rcases List.mem_cons.1 hy with rfl | hy
    · exact .inl hp
    · by_cases h' : IdxE.idx p r ≥ 0
      · exact .inr h'
      · rw [idx_neg _ _ h' y hy] at hp; cases hp
  · intro h
    by_cases h' : IdxE.idx p (x :: r) ≥ 0
    · exact h'
    · have := idx_neg _ _ h'
      rcases h with h | h
      · rw [this x (by simp)] at h; cases h
      · obtain ⟨y, hy, hp⟩ := idx_nonneg _ _ h
        rw [this y (by simp [hy])] at hp; cases hp
theorem has_iff (key : ByteArray) (x : E) : IdxE.has key x = true ↔ x.f0.toList = key.toList := by simp [IdxE.has]
theorem not_less_of {u k y : ByteArray} (h1 : lt u k = false) (h2 : lt u y = true) : lt y k = false := by
  cases h : lt y k with
  | false => rfl
  | true => have := lt_trans h2 h; rw [h1] at this; cases this
theorem take_at : ∀ (l : List E) (key : ByteArray), Rise l → l.take (at_ l key) = l.filter fun x => lt x.f0 key
  | [], _, _ => by simp
  | x :: r, key, h => by
    obtain ⟨h1, h2⟩ := List.pairwise_cons.1 h
    cases hx : lt x.f0 key with
    | true =>
      have e : at_ (x :: r) key = at_ r key + 1 := by simp [at_, hx]
      rw [e, List.take_succ_cons, take_at r key h2, List.filter_cons_of_pos (by simp [hx])]
    | false =>
      have h0 : (x :: r).filter (fun x => lt x.f0 key) = [] := filter_none fun y hy => by
        rcases List.mem_cons.1 hy with rfl | hy
        · exact hx
        · exact not_less_of hx (h1 y hy)
      have e : at_ (x :: r) key = 0 := by simp [at_, h0]
      rw [e, h0]
      rfl
theorem drop_behind : ∀ (l : List E) (key : ByteArray), Rise l → l.drop (behind l key) = l.filter fun x => lt key x.f0
  | [], _, _ => by simp
  | x :: r, key, h => by
    obtain ⟨h1, h2⟩ := List.pairwise_cons.1 h
    cases hx : lt x.f0 key with
    | true =>
      have e : at_ (x :: r) key = at_ r key + 1 := by simp [at_, hx]
      have hp : ¬ IdxE.has key x = true := by
        intro hh
        rw [lt_congr (d := key) ((has_iff key x).1 hh) rfl, lt_irrefl] at hx
        cases hx
      have eb : behind (x :: r) key = behind r key + 1 := by
        unfold behind
        rw [e]
        by_cases hi : IdxE.idx (IdxE.has key) r ≥ 0
        · rw [if_pos ((idx_cons _ _ _).2 (.inr hi)), if_pos hi]
        · rw [if_neg (fun hc => ((idx_cons _ _ _).1 hc).elim hp hi), if_neg hi]
      rw [eb, List.drop_succ_cons, drop_behind r key h2, List.filter_cons_of_neg (by simp [lt_asymm hx])]
    | false =>
      have hr : ∀ y ∈ r, lt y.f0 key = false := fun y hy => not_less_of hx (h1 y hy)
      have e : at_ (x :: r) key = 0 := by
        unfold at_
        rw [filter_none (fun y hy => ?_)]
        · rfl
        · rcases List.mem_cons.1 hy with rfl | hy
          · exact hx
          · exact hr y hy
      by_cases hh : IdxE.has key x = true
      · have hk := (has_iff key x).1 hh
        have eb : behind (x :: r) key = 1 := by unfold behind; rw [e, if_pos ((idx_cons _ _ _).2 (.inl hh))]
        rw [eb, List.drop_succ_cons, List.drop_zero, List.filter_cons_of_neg (by rw [lt_congr (a := key) (b := key) (d := key) rfl hk, lt_irrefl]; simp)]
        exact (filter_all fun y hy => by rw [lt_congr (a := key) (b := x.f0) hk.symm rfl]; exact h1 y hy).symm
      · have hkx : lt key x.f0 = true := by
          cases hc : lt key x.f0 with
          | true => rfl
          | false => exact absurd ((has_iff key x).2 (lt_tri hx hc)) hh
        have hn : ∀ y ∈ r, ¬ IdxE.has key y = true := fun y hy hc => by
          have h3 := lt_trans hkx (h1 y hy)
          rw [lt_congr (a := key) (b := key) (d := key) rfl ((has_iff key y).1 hc), lt_irrefl] at h3
          cases h3
        have eb : behind (x :: r) key = 0 := by
          unfold behind
          rw [e, if_neg]
          intro hc
          rcases (idx_cons _ _ _).1 hc with hc | hc
          · exact hh hc
          · obtain ⟨y, hy, hp⟩ := idx_nonneg _ _ hc
            exact hn y hy hp
        rw [eb, List.drop_zero]
        exact (filter_all fun y hy => by
          rcases List.mem_cons.1 hy with rfl | hy
          · exact hkx
          · exact lt_trans hkx (h1 y hy)).symm
theorem putL_eq (l : List E) (key : ByteArray) (c : List V) (h : Rise l) : putL l key c = l.filter (fun x => lt x.f0 key) ++ new key c ++ l.filter (fun x => lt key x.f0) := by
  unfold putL
  rw [take_at l key h, drop_behind l key h]

/-! ### The document's checks -/
def clash (v u : V) : Bool := (decide (v.f0 = 0) && decide (u.f0 = 0)) || (!decide (v.f0 = 0) && !decide (u.f0 = 0) && decide (u.f0 ≤ v.f0))
def refGood (pre : List V) : List V → Bool
  | [] => true
  | v :: r => mayB v && !later pre.getLast? v && !(pre.any (clash v)) && refGood (pre ++ [v]) r
def refChain (l : List V) : Bool := refGood [] l && decide (l.length ≤ 20)
theorem refGood_may : ∀ (l pre : List V), refGood pre l = true → l.all mayB = true
  | [], _, _ => rfl
  | v :: r, pre, h => by
    simp only [refGood, Bool.and_eq_true] at h
    simp [h.1.1.1, refGood_may r _ h.2]
/-- What the code keeps of what is ahead. -/
structure Inv (pre : List V) (last : Int) (null : Bool) : Prop where
  pos : 0 < last
  null : null = pre.any (fun u => decide (u.f0 = 0))
  least : ∀ u ∈ pre, u.f0 ≠ 0 → last ≤ u.f0
  is : last = 281474976710656 ∨ ∃ u ∈ pre, u.f0 = last
theorem good_eq : ∀ (l pre : List V) (last : Int) (null : Bool), Inv pre last null → (∀ v ∈ l, 0 ≤ v.f0) → l.all mayB = true → good last null pre.getLast? l = refGood pre l
  | [], _, _, _, _, _, _ => rfl
  | v :: r, pre, last, null, hI, hw, hm => by
    have hm' : mayB v = true ∧ r.all mayB = true := by simpa using hm
    have hv : v.f0 ≤ 281474976710655 := by have := hm'.1; simp [mayB] at this; exact this.1.1.1.1
    have h0 := hw v (by simp)
    have hlast : (pre ++ [v]).getLast? = some v := by simp
    rw [good_cons, refGood, hm'.1]
    cases hb : later pre.getLast? v with
    | true => simp
    | false =>
      rw [if_neg (by simp)]
      simp only [Bool.not_false, Bool.and_self, Bool.true_and]
      by_cases hz : v.f0 = 0
      · rw [if_pos hz]
        have hc : pre.any (clash v) = null := by
          rw [hI.null]
          congr 1
          funext u
          simp [clash, hz]
        rw [hc]
        cases null with
        | true => simp
        | false =>
          rw [if_neg (by simp), if_neg (by have := hI.pos; omega)]
          simp only [Bool.not_false, Bool.true_and]
          rw [← hlast]
          exact good_eq r (pre ++ [v]) last true ⟨hI.pos, by simp [hz], fun u hu hn => by
            rcases List.mem_append.1 hu with hu | hu
            · exact hI.least u hu hn
            · simp at hu; subst hu; exact absurd hz hn, hI.is.imp_right (fun ⟨u, hu, e⟩ => ⟨u, by simp [hu], e⟩)⟩ (fun u hu => hw u (by simp [hu])) hm'.2
      · rw [if_neg hz]
        by_cases hge : v.f0 ≥ last
        · rw [if_pos hge]
          have hc : pre.any (clash v) = true := by
            rcases hI.is with e | ⟨u, hu, e⟩
            · omega
            · have := hI.pos
              exact List.any_eq_true.2 ⟨u, hu, by simp [clash, hz, show u.f0 ≠ 0 by omega, show u.f0 ≤ v.f0 by omega]⟩
          simp [hc]
        · rw [if_neg hge]
          have hc : pre.any (clash v) = false := by
            rw [List.any_eq_false]
            intro u hu
            by_cases hu0 : u.f0 = 0
            · simp [clash, hz, hu0]
            · have := hI.least u hu hu0
              simp [clash, hz, hu0, show ¬ u.f0 ≤ v.f0 by omega]
          simp only [hc, Bool.not_false, Bool.true_and]
          rw [← hlast]
          exact good_eq r (pre ++ [v]) v.f0 null ⟨by omega, by simp [hz, hI.null], fun u hu hn => by
            rcases List.mem_append.1 hu with hu | hu
            · have := hI.least u hu hn; omega
            · simp at hu; subst hu; omega, .inr ⟨v, by simp, rfl⟩⟩ (fun u hu => hw u (by simp [hu])) hm'.2
theorem chain_eq (l : List V) (hw : ∀ v ∈ l, 0 ≤ v.f0) : refChain l = chainB l := by
  unfold refChain chainB
  cases hm : l.all mayB with
  | false =>
    have : refGood [] l = false := by
      cases h : refGood [] l with
      | false => rfl
      | true => rw [refGood_may l [] h] at hm; cases hm
    simp [this]
  | true =>
    rw [← good_eq l [] 281474976710656 false ⟨by omega, rfl, fun u hu => by simp at hu, .inl rfl⟩ hw hm]
    simp [Bool.and_comm]
end Go.Proofs.Ytcnnijkgiioniaa.IdxLaws
