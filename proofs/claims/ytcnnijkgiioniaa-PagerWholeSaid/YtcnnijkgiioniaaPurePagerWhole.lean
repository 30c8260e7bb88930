/- Page by page, each from the last one's Last, one gets all things, in order, each once. -/
import Derived.Test.YtcnnijkgiioniaaPgWhole
import Derived.Test.YtcnnijkgiioniaaPgFine
namespace Go.Proofs.Ytcnnijkgiioniaa.Pure
open Go.RowKit Go.Proofs.Ytcnnijkgiioniaa.P Go.Proofs.YtcnnijkgiioniaaW.PrintWords Go.Proofs.YtcnnijkgiioniaaW.PrintLast Go.Proofs.YtcnnijkgiioniaaW.PrintMore Go.Proofs.Ytcnnijkgiioniaa.PureKit Go.Proofs.Ytcnnijkgiioniaa.IdxSpec Go.Proofs.Ytcnnijkgiioniaa.IdxLaws Go.Proofs.Ytcnnijkgiioniaa.PureFew Go.Proofs.Ytcnnijkgiioniaa.NmSpec Go.Proofs.Ytcnnijkgiioniaa.PgSpec Go.Proofs.Ytcnnijkgiioniaa.PgT Go.Proofs.Ytcnnijkgiioniaa.PgK Go.Proofs.Ytcnnijkgiioniaa.PgKs Go.Proofs.Ytcnnijkgiioniaa.PgPure Go.Proofs.Ytcnnijkgiioniaa.PgPlain Go.Proofs.Ytcnnijkgiioniaa.PgRise Go.Proofs.Ytcnnijkgiioniaa.PgRefT Go.Proofs.Ytcnnijkgiioniaa

theorem count_these (v : List T) : (keysOf v).length + (groupsOf v).length = v.length := by
  unfold keysOf groupsOf
  rw [List.length_map, List.length_map]
  induction v with
  | nil => rfl
  | cons x r ih =>
    cases hx : x.f1 <;> simp [hx] <;> omega
/-- A thing's text is a key's. -/
theorem thing_key {l : List PgSpec.E} {p d : ByteArray} (h : Fine l p d) {t : T} (ht : t ∈ thingsL p d l) : Name.keyB t.f0 = true := by
  obtain ⟨x, hx, hh, rfl⟩ := things_mem p d l.length l rfl t ht
  have hU := (has_parts hh).1
  have hk := h.key x hx
  have hpre := (thing_prefix p d x hU hk h.pre h.delim).2
  have hpos : 1 ≤ (oc (thingOf p d x).f0).length := by
    rcases thing_cases p d x hU hk h.pre h.delim with ⟨e, _⟩ | ⟨dd, a, b, g, _, _, _, e3, e⟩
    · rw [e]
      exact (keyB_iff.1 hk).1
    · rw [e]
      show 1 ≤ (oc g).length
      rw [e3]
      simp
      omega
  obtain ⟨_, h2, h3⟩ := keyB_iff.1 hk
  rw [keyB_iff]
  exact ⟨hpos, by have := hpre.length_le; omega, fun y hy => h3 y (hpre.subset hy)⟩
theorem key_small {s : ByteArray} (h : Name.keyB s = true) : s.size ≤ 60 ∧ s.toList ≠ [] := by
  obtain ⟨h1, h2, _⟩ := keyB_iff.1 h
  rw [oc_length] at h2
  refine ⟨h2, fun e => ?_⟩
  rw [toList_nil] at e
  rw [e] at h1
  simp at h1
/-- What is behind the last one seen. -/
theorem vis_rest {l : List PgSpec.E} {p d : ByteArray} (h : Fine l p d) {done rest : List T} (hs : thingsL p d l = done ++ rest) : vis (lastOf done) (thingsL p d l) = rest := by
  have hrise := things_rise p d h.pre h.delim _ l rfl h.rise h.key
  rcases PureRd.snoc_cases done with rfl | ⟨q, u, rfl⟩
  · rw [hs]
    exact vis_none rest
  · rw [last_snoc]
    have hu := (key_small (thing_key h (t := u) (by rw [hs]; simp))).2
    rw [hs] at hrise ⊢
    have hp := List.pairwise_append.1 hrise
    have hq := List.pairwise_append.1 hp.1
    have skip : ∀ x, skipB u.f0 x = !(Op.bytesLess u.f0.toList x.f0.toList) := fun x => by
      unfold skipB
      rw [show (u.f0.toList != ([] : List UInt8)) = true from bne_iff_ne.2 hu, Bool.true_and]
    unfold vis
    rw [List.filter_append]
    have e1 : (q ++ [u]).filter (fun x => !skipB u.f0 x) = [] := by
      rw [List.filter_eq_nil_iff]
      intro x hx
      rw [skip, Bool.not_not]
      have : lt u.f0 x.f0 = false := by
        rcases List.mem_append.1 hx with hx | hx
        · exact lt_asymm (hq.2.2 x hx u (by simp))
        · rw [List.mem_singleton] at hx
          rw [hx]
          exact lt_irrefl _
      rw [show Op.bytesLess u.f0.toList x.f0.toList = false from this]
      simp
    have e2 : rest.filter (fun x => !skipB u.f0 x) = rest := by
      rw [List.filter_eq_self]
      intro x hx
      rw [skip, Bool.not_not]
      exact hp.2.2 u (by simp) x hx
    rw [e1, e2]
    rfl
theorem mem_these {v : List T} {t : T} (h : t ∈ v) : t.f0 ∈ keysOf v ++ groupsOf v := by
  unfold keysOf groupsOf
  rw [List.mem_append]
  cases hf : t.f1 with
  | false => exact .inl (List.mem_map.2 ⟨t, List.mem_filter.2 ⟨h, by simp [hf]⟩, rfl⟩)
  | true => exact .inr (List.mem_map.2 ⟨t, List.mem_filter.2 ⟨h, by simp [hf]⟩, rfl⟩)
section
variable (x1 : List Int) (all : List ByteArray) (n i : Int) (l : List PgSpec.E) (p d key : ByteArray) (id mo : Int) (ks gs : List ByteArray) (more : Bool) (last : ByteArray) (kk : Int)
theorem put_keys (hks : ks.length ≤ 1000 ∧ ∀ s ∈ ks, s.size ≤ 1000) (hend : Ev (fun k => cellarerlaw07_PagerWhole.l2 k x1 all n i kk ks 0 l p d key id mo ks gs more last) true) : ∀ (rest q : List ByteArray), ks = q ++ rest →
    Ev (fun k => cellarerlaw07_PagerWhole.l1 k x1 all n i kk q (q.length : Int) l p d key id mo ks gs more last) true
  | [], q, h => by
    have hq : q = ks := by simp [h]
    refine PureRd.ev_succ ?_
    simp only [cellarerlaw07_PagerWhole.l1]
    rw [hq]
    exact ev_neg (by omega) hend
  | s :: rest, q, h => by
    have hlen : ks.length = q.length + rest.length + 1 := by rw [h]; simp; omega
    have hrd : rdOf ByteArray.empty ks (q.length : Int) = s := rd_tx h
    have ih := put_keys hks hend rest (q ++ [s]) (by simp [h])
    simp only [List.length_append, List.length_cons, List.length_nil, Int.natCast_add, Int.natCast_one, Nat.zero_add] at ih
    refine PureRd.ev_succ ?_
    simp only [cellarerlaw07_PagerWhole.l1]
    rw [hrd, wrap_id (by omega) (by omega)]
    exact ev_pos (by omega) (ev_pos (by omega) (ev_pos ⟨by omega, by have := hks.2 s (by rw [h]; simp); omega⟩ ih))
theorem put_groups (hks : ks.length ≤ 1000) (hgs : gs.length ≤ 1000 ∧ ∀ s ∈ gs, s.size ≤ 1000) (hend : Ev (fun k => cellarerlaw07_PagerWhole.l3 k x1 all n i kk (ks ++ gs) 0 l p d key id mo ks gs more last) true) : ∀ (rest q : List ByteArray), gs = q ++ rest →
    Ev (fun k => cellarerlaw07_PagerWhole.l2 k x1 all n i kk (ks ++ q) (q.length : Int) l p d key id mo ks gs more last) true
  | [], q, h => by
    have hq : q = gs := by simp [h]
    refine PureRd.ev_succ ?_
    simp only [cellarerlaw07_PagerWhole.l2]
    rw [hq]
    exact ev_neg (by omega) hend
  | s :: rest, q, h => by
    have hlen : gs.length = q.length + rest.length + 1 := by rw [h]; simp; omega
    have hrd : rdOf ByteArray.empty gs (q.length : Int) = s := rd_tx h
    have ih := put_groups hks hgs hend rest (q ++ [s]) (by simp [h])
    simp only [List.length_append, List.length_cons, List.length_nil, Int.natCast_add, Int.natCast_one, Nat.zero_add] at ih
    rw [← List.append_assoc] at ih
    refine PureRd.ev_succ ?_
    simp only [cellarerlaw07_PagerWhole.l2]
    rw [hrd, wrap_id (by omega) (by omega)]
    exact ev_pos (by omega) (ev_pos (by omega) (ev_pos ⟨by rw [List.length_append]; omega, by have := hgs.2 s (by rw [h]; simp); omega⟩ ih))
/-- Each thing of the page is in the set. -/
theorem look_all (done v tail : List ByteArray) (hall : all = done ++ (v ++ tail)) (hal : all.length ≤ 1000) (hsz : ∀ s ∈ v, s.size ≤ 1000) (hin : ∀ s ∈ v, s ∈ ks ++ gs) (hend : Ev (fun k => cellarerlaw07_PagerWhole.l3 k x1 all (done.length : Int) i (v.length : Int) (ks ++ gs) (v.length : Int) l p d key id mo ks gs more last) true) : ∀ (rest q : List ByteArray), v = q ++ rest →
    Ev (fun k => cellarerlaw07_PagerWhole.l3 k x1 all (done.length : Int) i (v.length : Int) (ks ++ gs) (q.length : Int) l p d key id mo ks gs more last) true
  | [], q, h => by
    have hq : q = v := by simp [h]
    rw [hq]
    exact hend
  | s :: rest, q, h => by
    have hlen : v.length = q.length + rest.length + 1 := by rw [h]; simp; omega
    have hlena : all.length = done.length + v.length + tail.length := by rw [hall]; simp; omega
    have ih := look_all done v tail hall hal hsz hin hend rest (q ++ [s]) (by simp [h])
    simp only [List.length_append, List.length_cons, List.length_nil, Int.natCast_add, Int.natCast_one, Nat.zero_add] at ih
    have hrd : rdOf ByteArray.empty all ((done.length : Int) + (q.length : Int)) = s := by
      have h2 : all = (done ++ q) ++ s :: (rest ++ tail) := by rw [hall, h]; simp
      have := rd_tx h2
      rwa [List.length_append, Int.natCast_add] at this
    refine PureRd.ev_succ ?_
    simp only [cellarerlaw07_PagerWhole.l3]
    rw [wrap_id (x := (done.length : Int) + (q.length : Int)) (by omega) (by omega), wrap_id (x := (q.length : Int) + 1) (by omega) (by omega), hrd]
    refine ev_pos (by omega) (ev_pos (by omega) (ev_pos (by omega) (ev_is (x := true) ?_ (ev_pos rfl ih))))
    unfold PgMapS.hasAt
    rw [if_pos (by have := hsz s (by rw [h]; simp); omega)]
    congr 1
    exact List.any_eq_true.2 ⟨s, hin s (by rw [h]; simp), by simp⟩
end
/-- One page. -/
theorem page_step (x1 : List Int) (all : List ByteArray) (i M : Int) (l : List PgSpec.E) (p d key after : ByteArray) (id mo : Int) (done v tail ks gs : List ByteArray) (more : Bool) (last : ByteArray)
    (hall : all = done ++ (v ++ tail)) (hal : all.length ≤ 60) (hcnt : ks.length + gs.length = v.length) (hin : ∀ s ∈ v, s ∈ ks ++ gs) (vsm : ∀ s ∈ v, s.size ≤ 1000) (ksm : ∀ s ∈ ks, s.size ≤ 1000) (gsm : ∀ s ∈ gs, s.size ≤ 1000)
    (hmore : more = decide (0 < tail.length)) (hM : more = true → (v.length : Int) = M) (hi : 0 ≤ i ∧ i ≤ 60) (hk : Ev (fun k => pager_Keys.f k l p d after M) (ks, gs, more, last, 0))
    (hlast : more = true → ∃ q, v = q ++ [last] ∧ Name.keyB last = true) (hnext : more = true → Ev (fun k => cellarerlaw07_PagerWhole.l0 k x1 all last ((done.length : Int) + (v.length : Int)) (i + 1) l p d key id mo) true) :
    Ev (fun k => cellarerlaw07_PagerWhole.j1 k x1 all after (done.length : Int) i M l p d key id mo) true := by
  have hlen : all.length = done.length + v.length + tail.length := by rw [hall]; simp; omega
  have hw : wrap64 ((ks.length : Int) + (gs.length : Int)) = (v.length : Int) := by rw [wrap_id (by omega) (by omega)]; omega
  have wsum : wrap64 ((done.length : Int) + (v.length : Int)) = (done.length : Int) + (v.length : Int) := wrap_id (by omega) (by omega)
  have fin : Ev (fun k => cellarerlaw07_PagerWhole.l3 k x1 all (done.length : Int) i (v.length : Int) (ks ++ gs) (v.length : Int) l p d key id mo ks gs more last) true := by
    refine PureRd.ev_succ ?_
    simp only [cellarerlaw07_PagerWhole.l3]
    refine ev_neg (by omega) ?_
    rw [wsum]
    cases hm : more with
    | true =>
      obtain ⟨q, hq, hkey⟩ := hlast hm
      have hvq : v.length = q.length + 1 := by rw [hq]; simp
      have hrd : rdOf ByteArray.empty all ((done.length : Int) + (q.length : Int)) = last := by
        have h2 : all = (done ++ q) ++ last :: tail := by rw [hall, hq]; simp
        have := rd_tx h2
        rwa [List.length_append, Int.natCast_add] at this
      have hix : wrap64 ((done.length : Int) + (v.length : Int) - 1) = (done.length : Int) + (q.length : Int) := by rw [wrap_id (by omega) (by omega)]; omega
      rw [hix, hrd, wrap_id (x := i + 1) (by omega) (by omega)]
      refine ev_pos rfl (ev_pos (by omega) (ev_pos (by omega) (ev_pos rfl (ev_bind (NmRef.ref_key last) ?_))))
      rw [hkey]
      exact ev_pos rfl (hnext hm)
    | false =>
      rw [hm] at hmore
      have ht := of_decide_eq_false hmore.symm
      exact ev_neg (by simp) (ev_pos (by omega) (ev_now _))
  have looks := look_all x1 all i l p d key id mo ks gs more last done v tail hall (by omega) vsm hin fin v [] rfl
  have puts2 := put_groups x1 all (done.length : Int) i l p d key id mo ks gs more last (v.length : Int) (by omega) ⟨by omega, gsm⟩ looks gs [] rfl
  rw [List.append_nil] at puts2
  have puts1 := put_keys x1 all (done.length : Int) i l p d key id mo ks gs more last (v.length : Int) ⟨by omega, ksm⟩ puts2 ks [] rfl
  have j2 : Ev (fun k => cellarerlaw07_PagerWhole.j2 k x1 all (done.length : Int) i (v.length : Int) false l p d key id mo ks gs more last) true := by
    refine PureRd.ev_succ ?_
    simp only [cellarerlaw07_PagerWhole.j2]
    exact ev_neg (by simp) puts1
  refine PureRd.ev_succ ?_
  simp only [cellarerlaw07_PagerWhole.j1]
  refine ev_bind hk ?_
  dsimp only
  rw [hw, wsum]
  have hd : more = decide ((done.length : Int) + (v.length : Int) < (all.length : Int)) := by
    rw [hmore]
    apply decide_eq_decide.2
    omega
  refine ev_pos rfl (ev_neg (by omega) (ev_neg (by rw [← hd]; simp) ?_))
  by_cases hm : more = true
  · have hx : ((v.length : Int) != M) = false := by rw [bne_eq_false_iff_eq]; exact hM hm
    rw [hx]
    exact ev_pos hm j2
  · exact ev_neg hm j2
theorem whole_step (x1 : List Int) (hx1 : ∀ y ∈ x1, 0 ≤ y ∧ y ≤ 255) (l : List PgSpec.E) (p d key : ByteArray) (id mo : Int) (hg : (goodB l p ⟨#[]⟩ 0 && NameW.delimB d) = true)
    (rest done : List T) (i : Nat) (hs : thingsL p d l = done ++ rest) (hi : i ≤ done.length) (ih : ∀ (r' d' : List T) (i' : Nat), r'.length < rest.length → thingsL p d l = d' ++ r' → i' ≤ d'.length → Ev (fun k => cellarerlaw07_PagerWhole.l0 k x1 (txt (thingsL p d l)) (lastOf d') (d'.length : Int) (i' : Int) l p d key id mo) true) :
    Ev (fun k => cellarerlaw07_PagerWhole.l0 k x1 (txt (thingsL p d l)) (lastOf done) (done.length : Int) (i : Int) l p d key id mo) true := by
  have hF := fine_of hg
  have h60 : (thingsL p d l).length ≤ 60 := Nat.le_trans (things_len p d l) hF.len
  have htl : (txt (thingsL p d l)).length = (thingsL p d l).length := by unfold txt; rw [List.length_map]
  have hlen : (thingsL p d l).length = done.length + rest.length := by rw [hs]; simp
  have page : ∀ M : Int, 1 ≤ M → M ≤ 5 → Ev (fun k => cellarerlaw07_PagerWhole.j1 k x1 (txt (thingsL p d l)) (lastOf done) (done.length : Int) (i : Int) M l p d key id mo) true := by
    intro M hM1 hM5
    have hgood : (goodB l p (lastOf done) M && NameW.delimB d) = true := by
      rw [Bool.and_eq_true] at hg ⊢
      obtain ⟨g1, g2, _⟩ := good_parts hg.1
      refine ⟨?_, hg.2⟩
      unfold goodB
      rw [g1, g2, decide_eq_true (show (0:Int) ≤ M by omega), decide_eq_true (show M ≤ 1000 by omega)]
      rcases PureRd.snoc_cases done with rfl | ⟨q, u, rfl⟩
      · rw [show lastOf [] = (⟨#[]⟩ : ByteArray) from rfl, e0]
        rfl
      · rw [last_snoc, thing_key hF (t := u) (by rw [hs]; simp)]
        simp
    have hk := keys_is l p d (lastOf done) M
    rw [if_pos hgood] at hk
    have hv := vis_rest hF hs
    unfold pageF at hk
    rw [hv] at hk
    dsimp only at hk
    have small : ∀ t ∈ rest, t.f0.size ≤ 1000 := fun t ht => by have := (key_small (thing_key hF (t := t) (by rw [hs]; simp [ht]))).1; omega
    have hdl : (txt done).length = done.length := by unfold txt; rw [List.length_map]
    have hvl : (txt (rest.take M.toNat)).length = (rest.take M.toNat).length := by unfold txt; rw [List.length_map]
    have htl2 : (txt (rest.drop M.toNat)).length = (rest.drop M.toNat).length := by unfold txt; rw [List.length_map]
    have hs2 : rest = rest.take M.toNat ++ rest.drop M.toNat := (List.take_append_drop _ _).symm
    have hlr : rest.length = (rest.take M.toNat).length + (rest.drop M.toNat).length := by rw [← List.length_append, ← hs2]
    have htk : (rest.take M.toNat).length = min M.toNat rest.length := List.length_take
    have hmo : decide (M < (rest.length : Int)) = decide (0 < (txt (rest.drop M.toNat)).length) := by
      apply decide_eq_decide.2
      rw [htl2]
      omega
    have lst : ∀ {v : List T}, v ≠ [] → ∃ q u, v = q ++ [u] := fun {v} h => by
      rcases PureRd.snoc_cases v with e | e
      · exact absurd e h
      · exact e
    have hne : decide (M < (rest.length : Int)) = true → rest.take M.toNat ≠ [] := fun hm e => by
      have h1 := of_decide_eq_true hm
      rw [e] at htk
      simp only [List.length_nil] at htk
      omega
    have res := page_step x1 (txt (thingsL p d l)) (i : Int) M l p d key (lastOf done) id mo (txt done) (txt (rest.take M.toNat)) (txt (rest.drop M.toNat)) (keysOf (rest.take M.toNat)) (groupsOf (rest.take M.toNat)) (decide (M < (rest.length : Int))) (lastOf (rest.take M.toNat))
      (by rw [hs]; unfold txt; rw [← List.map_append, List.take_append_drop, List.map_append]) (by omega) (by rw [hvl]; exact count_these _)
      (fun s hs' => by obtain ⟨t, ht, rfl⟩ := List.mem_map.1 hs'; exact mem_these ht) (fun s hs' => by obtain ⟨t, ht, rfl⟩ := List.mem_map.1 hs'; exact small t (List.mem_of_mem_take ht))
      (fun s hs' => by obtain ⟨t, ht, rfl⟩ := List.mem_map.1 hs'; exact small t (List.mem_of_mem_take (List.mem_filter.1 ht).1)) (fun s hs' => by obtain ⟨t, ht, rfl⟩ := List.mem_map.1 hs'; exact small t (List.mem_of_mem_take (List.mem_filter.1 ht).1))
      hmo (fun hm => by have := of_decide_eq_true hm; rw [hvl]; omega) ⟨by omega, by omega⟩ hk
      (fun hm => by
        obtain ⟨q, u, e⟩ := lst (hne hm)
        have hu : u ∈ rest := List.mem_of_mem_take (by rw [e]; simp)
        refine ⟨txt q, ?_, ?_⟩
        · rw [e, last_snoc]
          simp [txt]
        · rw [e, last_snoc]
          exact thing_key hF (t := u) (by rw [hs]; simp [hu]))
      (fun hm => by
        obtain ⟨q, u, e⟩ := lst (hne hm)
        have h1 := of_decide_eq_true hm
        have h3 := ih (rest.drop M.toNat) (done ++ rest.take M.toNat) (i + 1) (by omega) (by rw [List.append_assoc, ← hs2]; exact hs) (by rw [List.length_append]; omega)
        have e6 : lastOf (done ++ rest.take M.toNat) = lastOf (rest.take M.toNat) := by rw [e, ← List.append_assoc, last_snoc, last_snoc]
        rw [e6, List.length_append, Int.natCast_add, Int.natCast_add, Int.natCast_one] at h3
        rw [hdl, hvl]
        exact h3)
    rw [hdl] at res
    exact res
  refine PureRd.ev_succ ?_
  simp only [cellarerlaw07_PagerWhole.l0]
  refine ev_pos (by omega) ?_
  by_cases hil : (i : Int) < (x1.length : Int)
  · refine ev_pos hil (ev_pos (by omega) ?_)
    have hr : 0 ≤ rd x1 (i : Int) ∧ rd x1 (i : Int) ≤ 255 := by
      have hi' : i < x1.length := by omega
      have e : rd x1 (i : Int) = x1[i] := by simp [rd, hi']
      rw [e]
      exact hx1 _ (List.getElem_mem hi')
    have ht : 0 ≤ Int.tmod (rd x1 (i : Int)) 5 ∧ Int.tmod (rd x1 (i : Int)) 5 ≤ 4 := by
      rw [Int.tmod_eq_emod_of_nonneg hr.1]
      omega
    rw [wrap_id (x := Int.tmod (rd x1 (i : Int)) 5) (by omega) (by omega), wrap_id (by omega) (by omega)]
    exact page _ (by omega) (by omega)
  · exact ev_neg hil (page 1 (by omega) (by omega))
theorem whole_loop (x1 : List Int) (hx1 : ∀ y ∈ x1, 0 ≤ y ∧ y ≤ 255) (l : List PgSpec.E) (p d key : ByteArray) (id mo : Int) (hg : (goodB l p ⟨#[]⟩ 0 && NameW.delimB d) = true) : ∀ (m : Nat) (rest done : List T) (i : Nat), rest.length ≤ m → thingsL p d l = done ++ rest → i ≤ done.length →
    Ev (fun k => cellarerlaw07_PagerWhole.l0 k x1 (txt (thingsL p d l)) (lastOf done) (done.length : Int) (i : Int) l p d key id mo) true
  | 0, rest, done, i, hm, hs, hi => whole_step x1 hx1 l p d key id mo hg rest done i hs hi (fun r' d' i' hr _ _ => absurd hr (by omega))
  | m + 1, rest, done, i, hm, hs, hi => whole_step x1 hx1 l p d key id mo hg rest done i hs hi (fun r' d' i' hr hs' hi' => whole_loop x1 hx1 l p d key id mo hg m r' d' i' (by omega) hs' hi')
theorem PagerWhole : cellarerlaw07_PagerWhole.Pure := by
  intro l0 p0 d0 key0 id most sizes hok hsz
  apply Ev.rounds
  unfold cellarerlaw07_PagerWhole.f
  have hcut : Ev (fun k => cellarerlaw07_cut.f k l0 p0 d0 key0 id most) (cutI l0, cutK p0, cutK d0, cutK key0, id, most) := by
    unfold cellarerlaw07_cut.f
    exact ev_bind (index_few l0) (ev_is (key_few p0) (ev_is (key_few d0) (ev_is (key_few key0) (ev_now _))))
  refine ev_bind hcut ?_
  dsimp only
  generalize cutI l0 = l
  generalize cutK p0 = p
  generalize cutK d0 = d
  generalize cutK key0 = key
  refine ev_bind (things_is l p d) ?_
  by_cases hg : (goodB l p ⟨#[]⟩ 0 && NameW.delimB d) = true
  · rw [if_pos hg]
    refine ev_pos rfl ?_
    exact whole_loop sizes (fun y hy => wf_u8 (hsz.2 y hy)) l p d key id most hg _ (thingsL p d l) [] 0 (Nat.le_refl _) rfl (Nat.le_refl _)
  · rw [if_neg hg]
    exact ev_neg (by simp) (ev_now _)
end Go.Proofs.Ytcnnijkgiioniaa.Pure
