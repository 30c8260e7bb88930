/- Page by page, each from the last one's last row, one gets all rows; of each key one is the latest. -/
import Derived.Test.YtcnnijkgiioniaaProg
import Derived.Test.YtcnnijkgiioniaaCmp
import Derived.Test.YtcnnijkgiioniaaIdxE
import Derived.Test.YtcnnijkgiioniaaIdxLaws
import Derived.Test.YtcnnijkgiioniaaIdxSpec
import Derived.Test.YtcnnijkgiioniaaIdxV
import Derived.Test.YtcnnijkgiioniaaName
import Derived.Test.YtcnnijkgiioniaaNameW
import Derived.Test.YtcnnijkgiioniaaNmSpec
import Derived.Test.YtcnnijkgiioniaaPgAwake
import Derived.Test.YtcnnijkgiioniaaPgMapV
import Derived.Test.YtcnnijkgiioniaaPgPlain
import Derived.Test.YtcnnijkgiioniaaPgPure
import Derived.Test.YtcnnijkgiioniaaPgRowI
import Derived.Test.YtcnnijkgiioniaaPgRowsP
import Derived.Test.YtcnnijkgiioniaaPgSpec
import Derived.Test.YtcnnijkgiioniaaPgVers
import Derived.Test.YtcnnijkgiioniaaPureFew
import Derived.Test.YtcnnijkgiioniaaPureKit
import Derived.Test.YtcnnijkgiioniaaPureRd
import Derived.Test.YtcnnijkgiioniaaPx0
import Derived.Test.YtcnnijkgiioniaaPx17
import Derived.Test.YtcnnijkgiioniaaPx20b
import Derived.Test.YtcnnijkgiioniaaStrIndex
import Derived.Test.YtcnnijkgiioniaaV0
namespace Go.Proofs.Ytcnnijkgiioniaa.Pure
open Go.RowKit Go.Proofs.Ytcnnijkgiioniaa.P Go.Proofs.YtcnnijkgiioniaaW.PrintWords Go.Proofs.YtcnnijkgiioniaaW.PrintLast Go.Proofs.YtcnnijkgiioniaaW.PrintMore Go.Proofs.Ytcnnijkgiioniaa.PureKit Go.Proofs.Ytcnnijkgiioniaa.IdxSpec Go.Proofs.Ytcnnijkgiioniaa.IdxLaws Go.Proofs.Ytcnnijkgiioniaa.PureRd Go.Proofs.Ytcnnijkgiioniaa.PureFew Go.Proofs.Ytcnnijkgiioniaa.PgPure Go.Proofs.Ytcnnijkgiioniaa.PgPlain Go.Proofs.Ytcnnijkgiioniaa.PgRowI Go.Proofs.Ytcnnijkgiioniaa.PgRowsP

theorem oc_nil : oc (⟨#[]⟩ : ByteArray) = [] := rfl
/-- How many versions there are. -/
def many (l : List E) : Nat := (l.map fun x => x.f1.length).sum
theorem all_many : ∀ l : List E, (allL ⟨#[]⟩ l).length = many l
  | [] => rfl
  | x :: r => by
    have h1 : allL ⟨#[]⟩ (x :: r) = rowsOf ⟨#[]⟩ x ++ allL ⟨#[]⟩ r := by simp [allL]
    have h2 : (rowsOf ⟨#[]⟩ x).length = x.f1.length := by
      unfold rowsOf
      rw [if_pos (by rw [oc_nil]; exact List.nil_prefix), rowsFrom_len]
    rw [h1, List.length_append, h2, all_many r]
    simp [many]
theorem many_snoc (p : List E) (x : E) : many (p ++ [x]) = many p + x.f1.length := by simp [many]
theorem many_loop (l : List E) (hl : l.length ≤ 61) (hx : ∀ x ∈ l, x.f1.length ≤ 21) : ∀ (rest p : List E), l = p ++ rest → many p ≤ 21 * p.length → Ev (fun k => cellarerref06_Many.l0 k l (many p : Int) (p.length : Int)) (many l : Int)
  | [], p, h, hm => by
    have hp : p = l := by simp [h]
    refine PureRd.ev_succ ?_
    simp only [cellarerref06_Many.l0]
    rw [hp]
    exact ev_neg (by omega) (ev_now _)
  | x :: rest, p, h, hm => by
    have hlen : l.length = p.length + rest.length + 1 := by rw [h]; simp; omega
    have hxl := hx x (by rw [h]; simp)
    have ih := many_loop l hl hx rest (p ++ [x]) (by simp [h]) (by rw [many_snoc, List.length_append, List.length_singleton]; omega)
    rw [many_snoc] at ih
    simp only [List.length_append, List.length_cons, List.length_nil, Int.natCast_add, Int.natCast_one, Nat.zero_add] at ih
    refine PureRd.ev_succ ?_
    simp only [cellarerref06_Many.l0, rd38 h]
    rw [wrap_id (x := (many p : Int) + (x.f1.length : Int)) (by omega) (by omega), wrap_id (x := (p.length : Int) + 1) (by omega) (by omega)]
    exact ev_pos (by omega) (ev_pos (by omega) ih)
theorem many_is (l : List E) (hl : l.length ≤ 61) (hx : ∀ x ∈ l, x.f1.length ≤ 21) : Ev (fun k => cellarerref06_Many.f k l) (many l : Int) := many_loop l hl hx l [] rfl (by simp [many])
/-! ### The latest ones -/
def lateOf (rs : List R) : List ByteArray := (rs.filter fun r => r.f2).map fun r => r.f0
theorem lateFrom (key : ByteArray) : ∀ (l : List V) (i : Nat), 0 < i → lateOf (rowsFrom key l i) = []
  | [], _, _ => rfl
  | v :: r, i, h => by
    have h1 := lateFrom key r (i + 1) (by omega)
    unfold lateOf at h1 ⊢
    have h2 : (mkRow key i v).f2 = false := by
      show (((i : Int) == 0) : Bool) = false
      rw [beq_eq_false_iff_ne]
      omega
    rw [rowsFrom, List.filter_cons_of_neg (by rw [h2]; simp)]
    exact h1
theorem late_row {x : E} (h : x.f1 ≠ []) : lateOf (rowsOf ⟨#[]⟩ x) = [x.f0] := by
  unfold rowsOf
  rw [if_pos (by rw [oc_nil]; exact List.nil_prefix)]
  cases hq : x.f1 with
  | nil => exact absurd hq h
  | cons v r =>
    have h1 := lateFrom x.f0 r 1 (by omega)
    unfold lateOf at h1 ⊢
    rw [rowsFrom, List.filter_cons_of_pos (by show (((0 : Nat) : Int) == 0) = true; rfl), List.map_cons, h1]
    rfl
theorem late_all : ∀ l : List E, (∀ x ∈ l, x.f1 ≠ []) → lateOf (allL ⟨#[]⟩ l) = l.map fun x => x.f0
  | [], _ => rfl
  | x :: r, h => by
    have h1 := late_all r (fun y hy => h y (by simp [hy]))
    have h2 := late_row (h x (by simp))
    have h3 : allL ⟨#[]⟩ (x :: r) = rowsOf ⟨#[]⟩ x ++ allL ⟨#[]⟩ r := by simp [allL]
    unfold lateOf at h1 h2 ⊢
    rw [h3, List.filter_append, List.map_append, h1, h2]
    rfl
theorem late_snoc (p : List R) (r : R) : lateOf (p ++ [r]) = if r.f2 = true then lateOf p ++ [r.f0] else lateOf p := by
  unfold lateOf
  rw [List.filter_append, List.map_append]
  split
  · rename_i h
    rw [List.filter_cons_of_pos h]
    rfl
  · rename_i h
    rw [List.filter_cons_of_neg h]
    simp
theorem late_len (p : List R) : (lateOf p).length ≤ p.length := by
  unfold lateOf
  rw [List.length_map]
  exact List.length_filter_le _ _
/-- Keys that rise are counted each once. -/
theorem dist_rise : ∀ (n : Nat) (l : List E), l.length = n → Rise l → PgMapV.distN (l.map fun x => x.f0) = l.length
  | 0, l, h, _ => by
    obtain rfl := List.length_eq_zero_iff.1 h
    rfl
  | n + 1, l, h, hR => by
    rcases PureRd.snoc_cases l with rfl | ⟨l', x, rfl⟩
    · simp at h
    · have hR' := List.pairwise_append.1 hR
      have ih := dist_rise n l' (by simpa using h) hR'.1
      rw [List.map_append, List.map_singleton, PgMapV.dist_snoc, ih, if_neg, List.length_append]
      · rfl
      · intro hc
        obtain ⟨y, hy, he⟩ := List.any_eq_true.1 hc
        obtain ⟨z, hz, rfl⟩ := List.mem_map.1 hy
        have hlt := hR'.2.2 z hz x (by simp)
        rw [beq_iff_eq] at he
        rw [lt_congr he rfl, lt_irrefl] at hlt
        cases hlt
theorem late_loop (l : List E) (x1 : List Int) (all : List R) (hal : all.length ≤ 1200) (hsz : ∀ r ∈ all, r.f0.size ≤ 1000) (hend : Ev (fun k => cellarerlaw07_PagerVersions.l0 k l x1 all (lateOf all) (all.length : Int)) true) : ∀ (rest p : List R), all = p ++ rest →
    Ev (fun k => cellarerlaw07_PagerVersions.l0 k l x1 all (lateOf p) (p.length : Int)) true
  | [], p, h => by
    have hp : p = all := by simp [h]
    rw [hp]
    exact hend
  | r :: rest, p, h => by
    have hlen : all.length = p.length + rest.length + 1 := by rw [h]; simp; omega
    have ih := late_loop l x1 all hal hsz hend rest (p ++ [r]) (by simp [h])
    rw [late_snoc] at ih
    simp only [List.length_append, List.length_cons, List.length_nil, Int.natCast_add, Int.natCast_one, Nat.zero_add] at ih
    have hll := late_len p
    refine PureRd.ev_succ ?_
    simp only [cellarerlaw07_PagerVersions.l0, rd65 h]
    rw [wrap_id (x := (p.length : Int) + 1) (by omega) (by omega)]
    refine ev_pos (by omega) (ev_pos (by omega) ?_)
    by_cases hf : r.f2 = true
    · rw [if_pos hf] at ih
      exact ev_pos hf (ev_pos ⟨by omega, by have := hsz r (by rw [h]; simp); omega⟩ ih)
    · rw [if_neg hf] at ih
      exact ev_neg hf ih
/-! ### Page by page -/
/-- Where a page goes on. -/
def keyAt (done : List R) : ByteArray := match done.getLast? with
  | some r => r.f0
  | none => ⟨#[]⟩
def idAt (done : List R) : Int := match done.getLast? with
  | some r => r.f1
  | none => 0
theorem key_snoc (q : List R) (u : R) : keyAt (q ++ [u]) = u.f0 := by simp [keyAt]
theorem id_snoc (q : List R) (u : R) : idAt (q ++ [u]) = u.f1 := by simp [idAt]
theorem rows_at {l : List E} (h1 : indexB l = true) (ha : Apart (allL ⟨#[]⟩ l)) (hkey : ∀ r ∈ allL ⟨#[]⟩ l, Name.keyB r.f0 = true ∧ r.f0.toList ≠ []) {done rest : List R} (hs : allL ⟨#[]⟩ l = done ++ rest) (M : Int) (hM : 1 ≤ M ∧ M ≤ 5) :
    rowsB l ⟨#[]⟩ (keyAt done) (idAt done) M = if (rest.length : Int) > M then (rest.take M.toNat, true, 0) else (rest, false, 0) := by
  have hpre : NameW.prefixB ⟨#[]⟩ = true := by decide
  have hg : goodB l ⟨#[]⟩ (keyAt done) M = true := by
    unfold goodB
    rw [h1, hpre, decide_eq_true (show (0:Int) ≤ M by omega), decide_eq_true (show M ≤ 1000 by omega)]
    rcases PureRd.snoc_cases done with rfl | ⟨q, u, rfl⟩
    · rw [show keyAt [] = (⟨#[]⟩ : ByteArray) from rfl, e0]
      rfl
    · rw [key_snoc, (hkey u (by rw [hs]; simp)).1]
      simp
  unfold rowsB
  rw [if_pos hg]
  rcases PureRd.snoc_cases done with rfl | ⟨q, u, rfl⟩
  · rw [if_pos (show (keyAt []).toList = [] from e0), hs]
    rfl
  · rw [key_snoc, id_snoc, if_neg (hkey u (by rw [hs]; simp)).2]
    have hql : q.length < (allL ⟨#[]⟩ l).length := by rw [hs]; simp
    have hidx : idx (has u.f0 u.f1) (allL ⟨#[]⟩ l) = (q.length : Int) := by
      rw [← apart_idx ha u.f0 u.f1 q.length hql]
      have : (allL ⟨#[]⟩ l)[q.length]'hql = u := by simp [hs]
      rw [this]
      unfold has
      simp
    rw [hidx, if_neg (by omega), show ((q.length : Int) + 1).toNat = (q ++ [u]).length by simp, hs, List.drop_left]
    rfl
theorem versions_step (x1 : List Int) (hx1 : ∀ y ∈ x1, 0 ≤ y ∧ y ≤ 255) (l : List E) (h1 : indexB l = true) (ha : Apart (allL ⟨#[]⟩ l)) (hkey : ∀ r ∈ allL ⟨#[]⟩ l, Name.keyB r.f0 = true ∧ r.f0.toList ≠ []) (hal : (allL ⟨#[]⟩ l).length ≤ 1200)
    (rest done : List R) (i : Nat) (hs : allL ⟨#[]⟩ l = done ++ rest) (hi : i ≤ done.length) (ih : ∀ (r' d' : List R) (i' : Nat), r'.length < rest.length → allL ⟨#[]⟩ l = d' ++ r' → i' ≤ d'.length → Ev (fun k => cellarerlaw07_PagerVersions.l1 k l x1 (allL ⟨#[]⟩ l) (keyAt d') (idAt d') (d'.length : Int) (i' : Int)) true) :
    Ev (fun k => cellarerlaw07_PagerVersions.l1 k l x1 (allL ⟨#[]⟩ l) (keyAt done) (idAt done) (done.length : Int) (i : Int)) true := by
  have hlen : (allL ⟨#[]⟩ l).length = done.length + rest.length := by rw [hs]; simp
  have page : ∀ M : Int, 1 ≤ M → M ≤ 5 → Ev (fun k => cellarerlaw07_PagerVersions.j4 k l x1 (allL ⟨#[]⟩ l) (keyAt done) (idAt done) (done.length : Int) (i : Int) M) true := by
    intro M hM1 hM5
    have hk := rows_is l ⟨#[]⟩ (keyAt done) (idAt done) M
    rw [rows_at h1 ha hkey hs M ⟨hM1, hM5⟩] at hk
    -- any page that is what is ahead of the rest
    have go : ∀ (v tail : List R) (more : Bool), rest = v ++ tail → more = decide (0 < tail.length) → (more = true → 0 < v.length) → Ev (fun k => pager_Rows.f k l ⟨#[]⟩ (keyAt done) (idAt done) M) (v, more, 0) →
        Ev (fun k => cellarerlaw07_PagerVersions.j4 k l x1 (allL ⟨#[]⟩ l) (keyAt done) (idAt done) (done.length : Int) (i : Int) M) true := by
      intro v tail more hv hmore hpos hk
      have hvl : rest.length = v.length + tail.length := by rw [hv]; simp
      have wsum : wrap64 ((done.length : Int) + (v.length : Int)) = (done.length : Int) + (v.length : Int) := wrap_id (by omega) (by omega)
      have hcut : ((allL ⟨#[]⟩ l).take (((done.length : Int) + (v.length : Int)) : Int).toNat).drop ((done.length : Int) : Int).toNat = v := by
        rw [Int.toNat_natCast, show ((done.length : Int) + (v.length : Int)).toNat = (done ++ v).length by rw [List.length_append]; omega, hs, hv, ← List.append_assoc, List.take_left, List.drop_left]
      have j5 : Ev (fun k => cellarerlaw07_PagerVersions.j5 k l x1 (allL ⟨#[]⟩ l) (done.length : Int) (i : Int) v more false) true := by
        refine PureRd.ev_succ ?_
        simp only [cellarerlaw07_PagerVersions.j5]
        refine ev_neg (by simp) ?_
        cases hm : more with
        | false =>
          rw [hm] at hmore
          have ht := of_decide_eq_false hmore.symm
          refine ev_neg (by simp) ?_
          rw [wsum]
          exact ev_pos (by omega) (ev_now _)
        | true =>
          have hp := hpos hm
          rcases PureRd.snoc_cases v with e | ⟨q, u, e⟩
          · rw [e] at hp
            simp at hp
          · have hvq : v.length = q.length + 1 := by rw [e]; simp
            have hix : wrap64 ((v.length : Int) - 1) = (q.length : Int) := by rw [wrap_id (by omega) (by omega)]; omega
            have hrd : rd_T65 v (q.length : Int) = u := rd65 (rest := []) e
            refine ev_pos rfl (ev_neg (by omega) ?_)
            rw [hix, hrd, wsum, wrap_id (x := (i : Int) + 1) (by omega) (by omega)]
            refine ev_pos (by omega) (ev_pos (by omega) ?_)
            have h3 := ih tail (done ++ v) (i + 1) (by omega) (by rw [List.append_assoc, ← hv]; exact hs) (by rw [List.length_append]; omega)
            rw [e, ← List.append_assoc, key_snoc, id_snoc] at h3
            have e5 : ((done ++ q ++ [u]).length : Int) = (done.length : Int) + (v.length : Int) := by rw [e]; simp
            rw [e5, Int.natCast_add, Int.natCast_one] at h3
            exact h3
      refine PureRd.ev_succ ?_
      simp only [cellarerlaw07_PagerVersions.j4]
      refine ev_bind hk ?_
      dsimp only
      rw [wsum, hcut]
      have hd : more = decide ((done.length : Int) + (v.length : Int) < ((allL ⟨#[]⟩ l).length : Int)) := by
        rw [hmore]
        apply decide_eq_decide.2
        omega
      refine ev_pos rfl (ev_neg (by omega) (ev_neg (by rw [← hd]; simp) (ev_pos (by omega) (ev_pos (by omega) (ev_pos (by omega) (ev_bind (same_rows v (by omega)) j5))))))
    by_cases hc : (rest.length : Int) > M
    · rw [if_pos hc] at hk
      exact go (rest.take M.toNat) (rest.drop M.toNat) true (List.take_append_drop _ _).symm (by rw [eq_comm, decide_eq_true_iff, List.length_drop]; omega) (fun _ => by rw [List.length_take]; omega) hk
    · rw [if_neg hc] at hk
      exact go rest [] false (by simp) (by simp) (fun h => by cases h) hk
  have round : Ev (fun k => cellarerlaw07_PagerVersions.j3 k l x1 (allL ⟨#[]⟩ l) (keyAt done) (idAt done) (done.length : Int) (i : Int) (decide ((i : Int) < 40))) true := by
    refine PureRd.ev_succ ?_
    simp only [cellarerlaw07_PagerVersions.j3]
    by_cases h40 : (i : Int) < 40
    · refine ev_pos (decide_eq_true h40) ?_
      by_cases hil : (i : Int) < (x1.length : Int)
      · refine ev_pos hil (ev_pos (by omega) ?_)
        have hr : 0 ≤ rd x1 (i : Int) ∧ rd x1 (i : Int) ≤ 255 := by
          have hi' : i < x1.length := by omega
          have e : rd x1 (i : Int) = x1[i] := by simp [rd, hi']
          rw [e]
          exact hx1 _ (List.getElem_mem hi')
        have ht : 0 ≤ Int.tmod (rd x1 (i : Int)) 5 ∧ Int.tmod (rd x1 (i : Int)) 5 ≤ 4 := by
          rw [Int.tmod_eq_emod_of_nonneg hr.1]
          omega
        rw [wrap_id (x := Int.tmod (rd x1 (i : Int)) 5) (by omega) (by omega), wrap_id (by omega) (by omega)]
        exact page _ (by omega) (by omega)
      · exact ev_neg hil (page 1 (by omega) (by omega))
    · exact ev_neg (by simpa using h40) (ev_now _)
  refine PureRd.ev_succ ?_
  simp only [cellarerlaw07_PagerVersions.l1]
  exact ev_pos (by omega) round
theorem versions_loop (x1 : List Int) (hx1 : ∀ y ∈ x1, 0 ≤ y ∧ y ≤ 255) (l : List E) (h1 : indexB l = true) (ha : Apart (allL ⟨#[]⟩ l)) (hkey : ∀ r ∈ allL ⟨#[]⟩ l, Name.keyB r.f0 = true ∧ r.f0.toList ≠ []) (hal : (allL ⟨#[]⟩ l).length ≤ 1200) : ∀ (m : Nat) (rest done : List R) (i : Nat), rest.length ≤ m → allL ⟨#[]⟩ l = done ++ rest → i ≤ done.length →
    Ev (fun k => cellarerlaw07_PagerVersions.l1 k l x1 (allL ⟨#[]⟩ l) (keyAt done) (idAt done) (done.length : Int) (i : Int)) true
  | 0, rest, done, i, hm, hs, hi => versions_step x1 hx1 l h1 ha hkey hal rest done i hs hi (fun r' d' i' hr _ _ => absurd hr (by omega))
  | m + 1, rest, done, i, hm, hs, hi => versions_step x1 hx1 l h1 ha hkey hal rest done i hs hi (fun r' d' i' hr hs' hi' => versions_loop x1 hx1 l h1 ha hkey hal m r' d' i' (by omega) hs' hi')
theorem all_key {l : List E} (h1 : indexB l = true) : ∀ r ∈ allL ⟨#[]⟩ l, Name.keyB r.f0 = true ∧ r.f0.toList ≠ [] := by
  intro r hr
  obtain ⟨x, hx, hr⟩ := List.mem_flatMap.1 hr
  have hk := ((index_small h1).2.2.1 x hx)
  unfold rowsOf at hr
  split at hr
  · rw [(rowsFrom_mem _ _ _ r hr).1]
    refine ⟨hk.2.2, fun e => ?_⟩
    rw [NmSpec.toList_nil] at e
    have := hk.2.1
    rw [← oc_length, e] at this
    simp at this
  · simp at hr
theorem PagerVersions : cellarerlaw07_PagerVersions.Pure := by
  intro l0 sizes hok hsz
  have hsm : SmallI (cutI l0) := small_cutI l0 fun x hx v hv => by
    have h1 := (hok.2 x hx).2.2 v hv
    exact (wf_u64 h1.1).1
  apply Ev.rounds
  unfold cellarerlaw07_PagerVersions.f
  refine ev_bind (index_few l0) ?_
  generalize cutI l0 = l at hsm ⊢
  refine ev_bind (rows_is l ⟨#[]⟩ ⟨#[]⟩ 0 1000) ?_
  have hpre : NameW.prefixB ⟨#[]⟩ = true := by decide
  have hgood : goodB l ⟨#[]⟩ ⟨#[]⟩ 1000 = indexB l := by
    unfold goodB
    rw [hpre, e0]
    simp
  have hmany := many_is l hsm.many (fun x hx => (hsm.each x hx).vers.many)
  by_cases h1 : indexB l = true
  · have e : rowsB l ⟨#[]⟩ ⟨#[]⟩ 0 1000 = pageR 1000 (allL ⟨#[]⟩ l) := by
      unfold rowsB
      rw [hgood, if_pos h1, if_pos e0]
    rw [e]
    have hf := few_of h1
    have hal : (allL ⟨#[]⟩ l).length ≤ 1200 := by have := all_len ⟨#[]⟩ l hf.each; have := hf.len; omega
    unfold pageR
    by_cases hc : ((allL ⟨#[]⟩ l).length : Int) > 1000
    · rw [if_pos hc]
      refine ev_pos rfl ?_
      refine PureRd.ev_succ ?_
      simp only [cellarerlaw07_PagerVersions.j0]
      refine ev_pos trivial (ev_neg (by omega) (ev_pos trivial (ev_bind hmany (ev_pos ?_ (ev_now _)))))
      rw [← all_many]
      exact hc
    · rw [if_neg hc]
      refine ev_pos rfl ?_
      refine PureRd.ev_succ ?_
      simp only [cellarerlaw07_PagerVersions.j0]
      refine ev_neg (by simp) (ev_bind hmany (ev_pos (by rw [all_many]) ?_))
      have ha := all_apart ⟨#[]⟩ l h1 (fun x hx v hv => ((hsm.each x hx).vers.each v hv).id)
      have hkey := all_key h1
      refine late_loop l sizes (allL ⟨#[]⟩ l) hal (fun r hr => ?_) ?_ (allL ⟨#[]⟩ l) [] rfl
      · have := (NmSpec.keyB_iff.1 (hkey r hr).1).2.1
        rw [oc_length] at this
        omega
      · refine PureRd.ev_succ ?_
        simp only [cellarerlaw07_PagerVersions.l0]
        refine ev_neg (by omega) (ev_is (x := (l.length : Int)) ?_ (ev_pos rfl ?_))
        · unfold PgMapV.lenAt
          rw [late_all l (index_small h1).1, dist_rise l.length l rfl (index_small h1).2.2.2]
        · exact versions_loop sizes (fun y hy => wf_u8 (hsz.2 y hy)) l h1 ha hkey hal _ (allL ⟨#[]⟩ l) [] 0 (Nat.le_refl _) rfl (Nat.le_refl _)
  · have e : rowsB l ⟨#[]⟩ ⟨#[]⟩ 0 1000 = ([], false, 1) := by
      unfold rowsB
      rw [hgood, if_neg h1]
    rw [e]
    refine ev_neg (by simp) ?_
    refine PureRd.ev_succ ?_
    simp only [cellarerlaw07_PagerVersions.j0]
    exact ev_pos trivial (ev_pos trivial (ev_now _))
end Go.Proofs.Ytcnnijkgiioniaa.Pure
