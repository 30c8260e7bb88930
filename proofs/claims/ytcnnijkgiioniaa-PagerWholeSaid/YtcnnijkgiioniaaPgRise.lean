/-
  layer 7: THINGS RISE; each is a key, or begins one and ends in the delimiter.
-/
import Derived.Test.YtcnnijkgiioniaaPgPlain
namespace Go.Proofs.Ytcnnijkgiioniaa.PgRise
open Go.RowKit Go.Proofs.Ytcnnijkgiioniaa.P Go.Proofs.YtcnnijkgiioniaaW.PrintWords Go.Proofs.YtcnnijkgiioniaaW.PrintLast Go.Proofs.YtcnnijkgiioniaaW.PrintMore Go.Proofs.Ytcnnijkgiioniaa.PureKit Go.Proofs.Ytcnnijkgiioniaa.IdxSpec Go.Proofs.Ytcnnijkgiioniaa.IdxLaws Go.Proofs.Ytcnnijkgiioniaa.PureRd Go.Proofs.Ytcnnijkgiioniaa.PureFew Go.Proofs.Ytcnnijkgiioniaa.NmSpec Go.Proofs.Ytcnnijkgiioniaa.PgSpec Go.Proofs.Ytcnnijkgiioniaa.PgT Go.Proofs.Ytcnnijkgiioniaa.PgK Go.Proofs.Ytcnnijkgiioniaa.PgKs Go.Proofs.Ytcnnijkgiioniaa.PgPure Go.Proofs.Ytcnnijkgiioniaa.PgPlain

def lessN : List Nat → List Nat → Bool
  | _, [] => false
  | [], _ :: _ => true
  | a :: x, b :: y => decide (a < b) || (decide (a = b) && lessN x y)
theorem less_map : ∀ x y : List UInt8, Op.bytesLess x y = lessN (x.map UInt8.toNat) (y.map UInt8.toNat)
  | [], [] => rfl
  | _ :: _, [] => rfl
  | [], _ :: _ => rfl
  | a :: x, b :: y => by
    simp only [Op.bytesLess, List.map_cons, lessN, less_map x y]
    have h1 : decide (a < b) = decide (a.toNat < b.toNat) := decide_eq_decide.2 UInt8.lt_iff_toNat_lt
    have h2 : (a == b) = decide (a.toNat = b.toNat) := by rw [Bool.eq_iff_iff, beq_iff_eq, decide_eq_true_iff]; exact UInt8.toNat_inj.symm
    rw [h1, h2]
theorem lt_oc (a b : ByteArray) : lt a b = lessN (oc a) (oc b) := by
  unfold lt oc
  rw [ByteArray.toList_eq, ByteArray.toList_eq]
  exact less_map _ _
theorem less_pre : ∀ {g a : List Nat}, g <+: a → lessN a g = false
  | [], a, _ => by cases a <;> rfl
  | x :: g, a, h => by
    obtain ⟨r, rfl⟩ := h
    show (decide (x < x) || (decide (x = x) && lessN (g ++ r) g)) = false
    rw [less_pre ⟨r, rfl⟩]
    simp
theorem less_cmp : ∀ {gb b ga a : List Nat}, ga <+: a → gb <+: b → lessN a b = true → lessN gb ga = true → gb <+: ga
  | [], _, _, _, _, _, _, _ => List.nil_prefix
  | y :: gb, b, [], a, _, _, _, h => by cases h
  | y :: gb, b, x :: ga, a, h1, h2, h3, h4 => by
    obtain ⟨r, rfl⟩ := h1
    obtain ⟨s, rfl⟩ := h2
    simp only [List.cons_append, lessN, Bool.or_eq_true, Bool.and_eq_true, decide_eq_true_eq] at h3 h4
    have hxy : x = y := by omega
    subst hxy
    have h3' : lessN (ga ++ r) (gb ++ s) = true := by rcases h3 with h | h; (exact absurd h (Nat.lt_irrefl _)); exact h.2
    have h4' : lessN gb ga = true := by rcases h4 with h | h; (exact absurd h (Nat.lt_irrefl _)); exact h.2
    exact List.prefix_cons_inj _ |>.2 (less_cmp ⟨r, rfl⟩ ⟨s, rfl⟩ h3' h4')
theorem less_irrefl_ (a : List Nat) : lessN a a = false := less_pre (List.prefix_refl a)
/-- What a thing is. -/
theorem thing_cases (pre delim : ByteArray) (x : PgSpec.E) (hU : oc pre <+: oc x.f0) (hk : Name.keyB x.f0 = true) (hp : NameW.prefixB pre = true) (hd : NameW.delimB delim = true) :
    (thingOf pre delim x = ⟨x.f0, false⟩ ∧ ∀ d, oc delim = [d] → d ∉ (oc x.f0).drop pre.size) ∨
    ∃ d a b g, oc delim = [d] ∧ oc x.f0 = oc pre ++ (a ++ d :: b) ∧ d ∉ a ∧ oc g = oc pre ++ (a ++ [d]) ∧ thingOf pre delim x = ⟨g, true⟩ := by
  rcases grp_cases x.f0 pre delim with ⟨hno, hg⟩ | ⟨hok, d, hdd, ⟨hn, hg⟩ | ⟨a, b, g, h1, h2, h3, hg⟩⟩
  · refine .inl ⟨by unfold thingOf; rw [hg]; rfl, fun d hdd hin => hno ?_⟩
    exact ⟨hk, hp, hd, by rw [hdd]; simp, hU⟩
  · refine .inl ⟨by unfold thingOf; rw [hg]; rfl, fun d' hd' => ?_⟩
    rw [hdd] at hd'
    cases hd'
    exact hn
  · exact .inr ⟨d, a, b, g, hdd, h1, h2, h3, by unfold thingOf; rw [hg]; rfl⟩
theorem has_parts {pre : ByteArray} {x : PgSpec.E} (h : hasT pre x = true) : oc pre <+: oc x.f0 ∧ markB x = false := by
  unfold hasT at h
  simp only [Bool.and_eq_true, decide_eq_true_eq, Bool.not_eq_true'] at h
  exact h
theorem thing_prefix (pre delim : ByteArray) (x : PgSpec.E) (hU : oc pre <+: oc x.f0) (hk : Name.keyB x.f0 = true) (hp : NameW.prefixB pre = true) (hd : NameW.delimB delim = true) : oc pre <+: oc (thingOf pre delim x).f0 ∧ oc (thingOf pre delim x).f0 <+: oc x.f0 := by
  rcases thing_cases pre delim x hU hk hp hd with ⟨h, _⟩ | ⟨d, a, b, g, _, h1, _, h3, h⟩
  · rw [h]
    exact ⟨hU, List.prefix_refl _⟩
  · rw [h]
    show oc pre <+: oc g ∧ oc g <+: oc x.f0
    rw [h3, h1]
    exact ⟨List.prefix_append _ _, ⟨b, by simp⟩⟩
theorem thing_le (pre delim : ByteArray) (y x : PgSpec.E) (hy : oc pre <+: oc y.f0) (hx : oc pre <+: oc x.f0) (hky : Name.keyB y.f0 = true) (hkx : Name.keyB x.f0 = true) (hp : NameW.prefixB pre = true) (hd : NameW.delimB delim = true) (hlt : lt y.f0 x.f0 = true) :
    lt (thingOf pre delim x).f0 (thingOf pre delim y).f0 = false := by
  rw [lt_oc] at hlt ⊢
  cases hc : lessN (oc (thingOf pre delim x).f0) (oc (thingOf pre delim y).f0) with
  | false => rfl
  | true =>
    exfalso
    have hpy := (thing_prefix pre delim y hy hky hp hd).2
    have hpx := (thing_prefix pre delim x hx hkx hp hd).2
    have hpp := less_cmp hpy hpx hlt hc
    rcases thing_cases pre delim x hx hkx hp hd with ⟨h, _⟩ | ⟨d, a, b, g, hdd, h1, h2, h3, h⟩
    · rw [h] at hpp
      have := less_pre (hpp.trans hpy)
      rw [this] at hlt
      cases hlt
    · rw [h] at hpp hc
      have hpp' : oc pre ++ (a ++ [d]) <+: oc (thingOf pre delim y).f0 := by rw [← h3]; exact hpp
      rcases thing_cases pre delim y hy hky hp hd with ⟨h', hn⟩ | ⟨d', a', b', g', hdd', h1', h2', h3', h'⟩
      · rw [h'] at hpp'
        obtain ⟨r, hr⟩ := hpp'
        refine hn d hdd ?_
        rw [show oc y.f0 = oc pre ++ (a ++ [d] ++ r) by rw [← List.append_assoc]; exact hr.symm, ← oc_length, List.drop_left]
        simp
      · rw [hdd] at hdd'
        cases hdd'
        rw [h'] at hpp' hc
        have hpp2 : oc pre ++ (a ++ [d]) <+: oc pre ++ (a' ++ [d]) := by rw [← h3']; exact hpp'
        obtain ⟨r, hr⟩ := hpp2
        have hr' : (a ++ [d]) ++ r = a' ++ [d] := by
          rw [List.append_assoc] at hr
          exact List.append_cancel_left hr
        rcases PureRd.snoc_cases r with rfl | ⟨r', e, rfl⟩
        · have he : oc g = oc g' := by rw [h3, h3', ← hr', List.append_nil]
          have hc' : lessN (oc g) (oc g') = true := hc
          rw [he, less_irrefl_] at hc'
          cases hc'
        · have h4 : (a ++ [d] ++ r') ++ [e] = a' ++ [d] := by rw [← hr']; simp
          have h5 := (List.append_inj' h4 rfl).1
          exact h2' (by rw [← h5]; simp)
/-- Where a thing comes from. -/
theorem things_mem (pre delim : ByteArray) : ∀ (n : Nat) (l : List PgSpec.E), l.length = n → ∀ t ∈ thingsL pre delim l, ∃ x ∈ l, hasT pre x = true ∧ t = thingOf pre delim x
  | 0, l, h, t, ht => by
    obtain rfl := List.length_eq_zero_iff.1 h
    simp [thingsL] at ht
  | n + 1, l, h, t, ht => by
    rcases PureRd.snoc_cases l with rfl | ⟨l', x, rfl⟩
    · simp at h
    · have ih := things_mem pre delim n l' (by simpa using h)
      rw [things_snoc] at ht
      unfold addT at ht
      have old : t ∈ thingsL pre delim l' → ∃ y ∈ l' ++ [x], hasT pre y = true ∧ t = thingOf pre delim y := fun h => by
        obtain ⟨y, h1, h2, h3⟩ := ih t h
        exact ⟨y, by simp [h1], h2, h3⟩
      split at ht
      · rename_i hx
        have new : t ∈ thingsL pre delim l' ++ [thingOf pre delim x] → ∃ y ∈ l' ++ [x], hasT pre y = true ∧ t = thingOf pre delim y := fun h => by
          rcases List.mem_append.1 h with h | h
          · exact old h
          · exact ⟨x, by simp, hx, by simpa using h⟩
        unfold PgSpec.stepT at ht
        split at ht
        · exact new ht
        · split at ht
          · exact old ht
          · exact new ht
      · exact old ht
theorem things_rise (pre delim : ByteArray) (hp : NameW.prefixB pre = true) (hd : NameW.delimB delim = true) : ∀ (n : Nat) (l : List PgSpec.E), l.length = n → Rise l → (∀ x ∈ l, Name.keyB x.f0 = true) → (thingsL pre delim l).Pairwise (fun s t => lt s.f0 t.f0 = true)
  | 0, l, h, _, _ => by
    obtain rfl := List.length_eq_zero_iff.1 h
    exact List.Pairwise.nil
  | n + 1, l, h, hR, hk => by
    rcases PureRd.snoc_cases l with rfl | ⟨l', x, rfl⟩
    · simp at h
    · have hR' := List.pairwise_append.1 hR
      have ih := things_rise pre delim hp hd n l' (by simpa using h) hR'.1 (fun y hy => hk y (by simp [hy]))
      have hm := things_mem pre delim n l' (by simpa using h)
      rw [things_snoc]
      unfold addT
      split
      · rename_i hx
        have hxp := (has_parts hx).1
        unfold PgSpec.stepT
        split
        · rename_i hu
          have : thingsL pre delim l' = [] := List.getLast?_eq_none_iff.1 hu
          rw [this]
          simp
        · rename_i u hu
          split
          · exact ih
          · rename_i hne
            have hle : ∀ t ∈ thingsL pre delim l', lt (thingOf pre delim x).f0 t.f0 = false := fun t ht => by
              obtain ⟨y, h1, h2, rfl⟩ := hm t ht
              exact thing_le pre delim y x (has_parts h2).1 hxp (hk y (by simp [h1])) (hk x (by simp)) hp hd (hR'.2.2 y h1 x (by simp))
            have hux : lt u.f0 (thingOf pre delim x).f0 = true := by
              cases hc : lt u.f0 (thingOf pre delim x).f0 with
              | true => rfl
              | false =>
                have := lt_tri hc (hle u (List.mem_of_getLast? hu))
                exact absurd (beq_iff_eq.mpr this) hne
            rw [List.pairwise_append]
            refine ⟨ih, by simp, fun t ht s hs => ?_⟩
            rw [List.mem_singleton] at hs
            subst hs
            obtain ⟨i, hi⟩ := List.getLast?_eq_some_iff.1 hu
            rw [hi] at ht ih
            rcases List.mem_append.1 ht with h | h
            · exact lt_trans ((List.pairwise_append.1 ih).2.2 t h u (by simp)) hux
            · rw [List.mem_singleton] at h
              subst h
              exact hux
      · exact ih
end Go.Proofs.Ytcnnijkgiioniaa.PgRise
