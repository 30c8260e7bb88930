/- A page of a greater size begins as one of a lesser does; of size 0 it is empty. -/
import Derived.Test.YtcnnijkgiioniaaPx16
import Derived.Test.YtcnnijkgiioniaaPgPlain
namespace Go.Proofs.Ytcnnijkgiioniaa.Pure
open Go.RowKit Go.Proofs.Ytcnnijkgiioniaa.P Go.Proofs.YtcnnijkgiioniaaW.PrintWords Go.Proofs.YtcnnijkgiioniaaW.PrintLast Go.Proofs.YtcnnijkgiioniaaW.PrintMore Go.Proofs.Ytcnnijkgiioniaa.PureKit Go.Proofs.Ytcnnijkgiioniaa.PureFew Go.Proofs.Ytcnnijkgiioniaa.PgSpec Go.Proofs.Ytcnnijkgiioniaa.PgT Go.Proofs.Ytcnnijkgiioniaa.PgK Go.Proofs.Ytcnnijkgiioniaa.PgKs Go.Proofs.Ytcnnijkgiioniaa.PgPure Go.Proofs.Ytcnnijkgiioniaa.PgPlain

theorem good_any (l : List PgSpec.E) (pre after : ByteArray) {m n : Int} (hm : 0 ≤ m ∧ m ≤ 1000) (hn : 0 ≤ n ∧ n ≤ 1000) : goodB l pre after m = goodB l pre after n := by
  unfold goodB
  rw [decide_eq_true hm.1, decide_eq_true hm.2, decide_eq_true hn.1, decide_eq_true hn.2]
/-! ### Pages of two sizes -/
theorem keys_cut (v : List T) (m M : Nat) (h : m ≤ M) : keysOf (v.take m) <+: keysOf (v.take M) := by
  have hp : v.take m <+: v.take M := by rw [List.prefix_take_iff]; exact ⟨List.take_prefix _ _, by simp; omega⟩
  obtain ⟨r, hr⟩ := hp
  exact ⟨keysOf r, by rw [← hr]; simp [keysOf]⟩
theorem groups_cut (v : List T) (m M : Nat) (h : m ≤ M) : groupsOf (v.take m) <+: groupsOf (v.take M) := by
  have hp : v.take m <+: v.take M := by rw [List.prefix_take_iff]; exact ⟨List.take_prefix _ _, by simp; omega⟩
  obtain ⟨r, hr⟩ := hp
  exact ⟨groupsOf r, by rw [← hr]; simp [groupsOf]⟩
theorem count_all (v : List T) : (keysOf v).length + (groupsOf v).length = v.length := by
  unfold keysOf groupsOf
  rw [List.length_map, List.length_map]
  induction v with
  | nil => rfl
  | cons x r ih =>
    cases hx : x.f1 <;> simp [hx] <;> omega
theorem same_cut {a b : List ByteArray} (h : a <+: b) (hb : b.length ≤ 1000) : Ev (fun k => cellarerref02_Same.f k a (b.take ((a.length : Int) : Int).toNat)) true := by
  rw [Int.toNat_natCast, ← List.prefix_iff_eq_take.1 h]
  exact same_texts a (by have := h.length_le; omega)
theorem keys_at {l : List PgSpec.E} {p d key : ByteArray} (h : (goodB l p key 0 && NameW.delimB d) = true) {m : Int} (hm : 0 ≤ m ∧ m ≤ 1000) : Ev (fun k => pager_Keys.f k l p d key m) ((pageF (thingsL p d l) key m).1, (pageF (thingsL p d l) key m).2.1, (pageF (thingsL p d l) key m).2.2.1, (pageF (thingsL p d l) key m).2.2.2, 0) := by
  have := keys_is l p d key m
  rw [good_any l p key hm (show 0 ≤ (0 : Int) ∧ (0 : Int) ≤ 1000 by omega), if_pos h] at this
  exact this
theorem keys_no {l : List PgSpec.E} {p d key : ByteArray} (h : ¬ (goodB l p key 0 && NameW.delimB d) = true) {m : Int} (hm : 0 ≤ m ∧ m ≤ 1000) : Ev (fun k => pager_Keys.f k l p d key m) ([], [], false, (⟨#[]⟩ : ByteArray), 1) := by
  have := keys_is l p d key m
  rw [good_any l p key hm (show 0 ≤ (0 : Int) ∧ (0 : Int) ≤ 1000 by omega), if_neg h] at this
  exact this
theorem sizes_good (v : List T) (m M : Int) (h0 : 0 ≤ m) (hmM : m ≤ M) (hM : M ≤ 255) (a b c d a' b' c' d' : _)
    (ha : a = keysOf (v.take m.toNat)) (hb : b = groupsOf (v.take m.toNat)) (hc : c = decide (m < (v.length : Int))) (ha' : a' = keysOf (v.take M.toNat)) (hb' : b' = groupsOf (v.take M.toNat)) (hc' : c' = decide (M < (v.length : Int))) :
    Ev (fun k => cellarerlaw07_PagerSizes.j0 k 0 0 0 false a b c d a' b' c' d' ([] : List ByteArray) ([] : List ByteArray) (decide ((0 : Int) < (v.length : Int))) (⟨#[]⟩ : ByteArray)) true := by
  have pk : a <+: a' := by rw [ha, ha']; exact keys_cut v _ _ (by omega)
  have pg : b <+: b' := by rw [hb, hb']; exact groups_cut v _ _ (by omega)
  have hsum : a'.length + b'.length = (v.take M.toNat).length := by rw [ha', hb']; exact count_all _
  rw [List.length_take] at hsum
  have lk := pk.length_le
  have lg := pg.length_le
  have fin : Ev (fun k => cellarerlaw07_PagerSizes.j1 k false a b c d a' b' c' d' ([] : List ByteArray) ([] : List ByteArray) (decide ((0 : Int) < (v.length : Int))) (⟨#[]⟩ : ByteArray)) true := by
    refine PureRd.ev_succ ?_
    simp only [cellarerlaw07_PagerSizes.j1]
    refine ev_neg (by simp) (ev_pos (by omega) (ev_pos (by omega) (ev_bind (same_cut pk (by omega)) (ev_pos rfl (ev_pos (by omega) (ev_pos (by omega) (ev_bind (same_cut pg (by omega)) (ev_pos rfl ?_))))))))
    refine ev_pos (by rw [wrap_id] <;> simp) (ev_pos e0 ?_)
    rw [wrap_id (by omega) (by omega)]
    by_cases hk : (a'.length : Int) + (b'.length : Int) > 0
    · refine ev_pos hk (ev_pos ?_ (ev_now _))
      rw [decide_eq_true (by omega)]
      rfl
    · refine ev_neg hk (ev_pos ?_ (ev_now _))
      rw [hc', beq_iff_eq]
      apply decide_eq_decide.2
      omega
  refine PureRd.ev_succ ?_
  simp only [cellarerlaw07_PagerSizes.j0]
  refine ev_neg (by simp) (ev_neg (by omega) (ev_neg (by omega) ?_))
  cases hq : c' with
  | false =>
    rw [hq] at fin
    exact ev_neg (by simp) fin
  | true =>
    refine ev_pos rfl ?_
    have : c = true := by
      rw [hc]
      rw [hc', decide_eq_true_iff] at hq
      exact decide_eq_true (by omega)
    rw [hq, this] at fin
    rw [this]
    exact fin
theorem PagerSizes : cellarerlaw07_PagerSizes.Pure := by
  intro l0 p0 d0 key0 id most a b _ ha hb
  have ha := wf_u8 ha
  have hb := wf_u8 hb
  apply Ev.rounds
  unfold cellarerlaw07_PagerSizes.f
  have hcut : Ev (fun k => cellarerlaw07_cut.f k l0 p0 d0 key0 id most) (cutI l0, cutK p0, cutK d0, cutK key0, id, most) := by
    unfold cellarerlaw07_cut.f
    exact ev_bind (index_few l0) (ev_is (key_few p0) (ev_is (key_few d0) (ev_is (key_few key0) (ev_now _))))
  refine ev_bind hcut ?_
  dsimp only
  generalize cutI l0 = l
  generalize cutK p0 = p
  generalize cutK d0 = d
  generalize cutK key0 = key
  have hm : 0 ≤ wrap64 (mn a b) ∧ wrap64 (mn a b) ≤ wrap64 (mx a b) ∧ wrap64 (mx a b) ≤ 255 := by
    have e1 : 0 ≤ mn a b ∧ mn a b ≤ mx a b ∧ mx a b ≤ 255 := by
      unfold mn mx
      split <;> split <;> omega
    rw [wrap_id (by omega) (by omega), wrap_id (x := mx a b) (by omega) (by omega)]
    exact e1
  generalize wrap64 (mn a b) = m at hm ⊢
  generalize wrap64 (mx a b) = M at hm ⊢
  obtain ⟨h0, h1, h2⟩ := hm
  by_cases hG : (goodB l p key 0 && NameW.delimB d) = true
  · refine ev_bind (keys_at hG (m := m) (by omega)) (ev_bind (keys_at hG (m := M) (by omega)) (ev_bind (keys_at hG (m := 0) (by omega)) ?_))
    refine ev_pos rfl (ev_pos rfl ?_)
    have := sizes_good (vis key (thingsL p d l)) m M h0 h1 h2 _ _ _ (pageF (thingsL p d l) key m).2.2.2 _ _ _ (pageF (thingsL p d l) key M).2.2.2 rfl rfl rfl rfl rfl rfl
    exact this
  · refine ev_bind (keys_no hG (m := m) (by omega)) (ev_bind (keys_no hG (m := M) (by omega)) (ev_bind (keys_no hG (m := 0) (by omega)) ?_))
    refine ev_neg (by simp) ?_
    refine PureRd.ev_succ ?_
    simp only [cellarerlaw07_PagerSizes.j0]
    exact ev_pos trivial (ev_pos trivial (ev_pos trivial (ev_now _)))
end Go.Proofs.Ytcnnijkgiioniaa.Pure
