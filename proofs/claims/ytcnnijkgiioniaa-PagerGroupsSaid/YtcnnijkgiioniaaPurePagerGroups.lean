/- Each thing is a key, or begins one and ends in the delimiter; things rise; under a group there is one. -/
import Derived.Test.YtcnnijkgiioniaaPx14
import Derived.Test.YtcnnijkgiioniaaPgRise
import Derived.Test.YtcnnijkgiioniaaNmRef
namespace Go.Proofs.Ytcnnijkgiioniaa.Pure
open Go.RowKit Go.Proofs.Ytcnnijkgiioniaa.P Go.Proofs.YtcnnijkgiioniaaW.PrintWords Go.Proofs.YtcnnijkgiioniaaW.PrintLast Go.Proofs.YtcnnijkgiioniaaW.PrintMore Go.Proofs.Ytcnnijkgiioniaa.PureKit Go.Proofs.Ytcnnijkgiioniaa.IdxSpec Go.Proofs.Ytcnnijkgiioniaa.IdxLaws Go.Proofs.Ytcnnijkgiioniaa.PureRd Go.Proofs.Ytcnnijkgiioniaa.PureFew Go.Proofs.Ytcnnijkgiioniaa.NmSpec Go.Proofs.Ytcnnijkgiioniaa.PgSpec Go.Proofs.Ytcnnijkgiioniaa.PgT Go.Proofs.Ytcnnijkgiioniaa.PgK Go.Proofs.Ytcnnijkgiioniaa.PgKs Go.Proofs.Ytcnnijkgiioniaa.PgPure Go.Proofs.Ytcnnijkgiioniaa.PgPlain Go.Proofs.Ytcnnijkgiioniaa.PgRise
theorem rd_mid {ts p rest : List ByteArray} {t : ByteArray} (h : ts = p ++ t :: rest) : rdOf ByteArray.empty ts (p.length : Int) = t := by
  subst h
  simp [rdOf]
/-- Does a text end in the delimiter? (As the law looks.) -/
def lastB (t d : ByteArray) : Bool := (t.extract (wrap64 ((t.size : Int) - 1)).toNat t.size).toList == d.toList
theorem find_loop (l : List PgSpec.E) (pre d : ByteArray) (ts : List ByteArray) (i : Int) (t : ByteArray) (hl : l.length ≤ 60) (ht : 1 ≤ t.size ∧ t.size ≤ 60) (hend : Ev (fun k => cellarerlaw07_PagerGroups.l1 k l pre d ts i t true (l.length : Int)) true) : ∀ (rest p : List PgSpec.E) (found : Bool), l = p ++ rest →
    (found = true ∨ ∃ x ∈ rest, x.f0.toList = t.toList ∨ (oc t <+: oc x.f0 ∧ lastB t d = true)) → Ev (fun k => cellarerlaw07_PagerGroups.l1 k l pre d ts i t found (p.length : Int)) true
  | [], p, found, h, hf => by
    have hp : p = l := by simp [h]
    rcases hf with rfl | ⟨x, hx, _⟩
    · rw [hp]
      exact hend
    · cases hx
  | x :: rest, p, found, h, hf => by
    have hlen : l.length = p.length + rest.length + 1 := by rw [h]; simp; omega
    have ih := fun f => find_loop l pre d ts i t hl ht hend rest (p ++ [x]) f (by simp [h])
    simp only [List.length_append, List.length_cons, List.length_nil, Int.natCast_add, Int.natCast_one, Nat.zero_add] at ih
    refine PureRd.ev_succ ?_
    simp only [cellarerlaw07_PagerGroups.l1, rd38 h]
    refine ev_pos (by omega) ?_
    rw [wrap_id (show -9223372036854775808 ≤ (p.length : Int) + 1 by omega) (by omega)]
    cases found with
    | true => exact ev_pos rfl (ih true (.inl rfl))
    | false =>
      refine ev_neg (by simp) (ev_pos (by omega) ?_)
      have hf' : (x.f0.toList = t.toList ∨ (oc t <+: oc x.f0 ∧ lastB t d = true)) ∨ ∃ x ∈ rest, x.f0.toList = t.toList ∨ (oc t <+: oc x.f0 ∧ lastB t d = true) := by
        rcases hf with h | ⟨y, hy, hh⟩
        · cases h
        · rcases List.mem_cons.1 hy with rfl | hy
          · exact .inl hh
          · exact .inr ⟨y, hy, hh⟩
      by_cases hk : x.f0.toList = t.toList
      · exact ev_pos hk (ih true (.inl rfl))
      · refine ev_neg hk (ev_is (NmRef.ref_under x.f0 t) ?_)
        by_cases hU : oc t <+: oc x.f0
        · rw [decide_eq_true hU]
          refine ev_pos rfl ?_
          have hb0 : (0 : Int) ≤ wrap64 ((t.size : Int) - 1) := by rw [wrap_id (by omega) (by omega)]; omega
          have hb1 : wrap64 ((t.size : Int) - 1) ≤ (t.size : Int) := by rw [wrap_id (by omega) (by omega)]; omega
          refine ev_pos hb0 (ev_pos hb1 ?_)
          refine ih (lastB t d) ?_
          cases hq : lastB t d with
          | true => exact .inl rfl
          | false =>
            rw [hq] at hf'
            rcases hf' with (h | ⟨_, h⟩) | ⟨y, hy, hh⟩
            · exact absurd h hk
            · cases h
            · exact .inr ⟨y, hy, hh⟩
        · rw [decide_eq_false hU]
          refine ev_neg (by simp) (ih false ?_)
          rcases hf' with (h | ⟨h, _⟩) | h
          · exact absurd h hk
          · exact absurd h hU
          · exact .inr h
theorem prefix_of_key {t x : ByteArray} (h : oc t <+: oc x) (hk : Name.keyB x = true) : NameW.prefixB t = true ∧ t.size ≤ 60 := by
  have hl := h.length_le
  rw [oc_length, oc_length] at hl
  unfold Name.keyB Name.isB at hk
  simp only [Bool.and_eq_true, decide_eq_true_eq] at hk
  obtain ⟨⟨_, hs⟩, ha⟩ := hk
  refine ⟨?_, by omega⟩
  unfold NameW.prefixB Name.isB
  simp only [Bool.and_eq_true, decide_eq_true_eq]
  refine ⟨⟨by omega, by omega⟩, ?_⟩
  rw [List.all_eq_true] at ha ⊢
  exact fun y hy => ha y (h.subset hy)
theorem groups_loop (l : List PgSpec.E) (pre d : ByteArray) (hg : (goodB l pre ⟨#[]⟩ 0 && NameW.delimB d) = true) : ∀ (rest p : List T), thingsL pre d l = p ++ rest →
    Ev (fun k => cellarerlaw07_PagerGroups.l0 k l pre d ((thingsL pre d l).map fun x => x.f0) (p.length : Int)) true
  | [], p, h => by
    refine PureRd.ev_succ ?_
    simp only [cellarerlaw07_PagerGroups.l0]
    exact ev_neg (by rw [h]; simp) (ev_now _)
  | t :: rest, p, h => by
    have ih := groups_loop l pre d hg rest (p ++ [t]) (by simp [h])
    rw [Bool.and_eq_true] at hg
    obtain ⟨h1, h2, _⟩ := good_parts hg.1
    obtain ⟨hn, hl60, hkk, hR⟩ := index_small h1
    have htl := things_len pre d l
    have hlen : (thingsL pre d l).length = p.length + rest.length + 1 := by rw [h]; simp; omega
    have hrise := things_rise pre d h2 hg.2 l.length l rfl hR (fun x hx => (hkk x hx).2.2)
    obtain ⟨x, hx, hhas, htx⟩ := things_mem pre d l.length l rfl t (by rw [h]; simp)
    have hU := (has_parts hhas).1
    have hkx := (hkk x hx).2.2
    have hpre := thing_prefix pre d x hU hkx h2 hg.2
    rw [← htx] at hpre
    obtain ⟨hpt, hts⟩ := prefix_of_key hpre.2 hkx
    have hpos : 1 ≤ t.f0.size := by
      rcases thing_cases pre d x hU hkx h2 hg.2 with ⟨e, _⟩ | ⟨dd, a, b, g, _, _, _, e3, e⟩
      · rw [htx, e]
        exact (hkk x hx).2.1
      · rw [htx, e]
        show 1 ≤ g.size
        rw [← oc_length, e3]
        simp
        omega
    have hmap : ((thingsL pre d l).map fun x => x.f0) = (p.map fun x => x.f0) ++ t.f0 :: (rest.map fun x => x.f0) := by rw [h]; simp
    have hrd : rdOf ByteArray.empty ((thingsL pre d l).map fun x => x.f0) (p.length : Int) = t.f0 := by
      have := rd_mid hmap
      rwa [List.length_map] at this
    have hml : (((thingsL pre d l).map fun x => x.f0).length : Int) = (thingsL pre d l).length := by rw [List.length_map]
    -- what comes behind the search
    have next : Ev (fun k => cellarerlaw07_PagerGroups.l0 k l pre d ((thingsL pre d l).map fun x => x.f0) (wrap64 ((p.length : Int) + 1))) true := by
      rw [wrap_id (by omega) (by omega)]
      simpa using ih
    have third : ∀ b, (b = true → lastB t.f0 d = true) → Ev (fun k => cellarerlaw07_PagerGroups.j3 k l pre d ((thingsL pre d l).map fun x => x.f0) (p.length : Int) t.f0 b) true := fun b _ => by
      refine PureRd.ev_succ ?_
      simp only [cellarerlaw07_PagerGroups.j3]
      cases b with
      | false => exact ev_neg (by simp) next
      | true =>
        refine ev_pos rfl (ev_bind (things_is l t.f0 d) ?_)
        have hgt : (goodB l t.f0 ⟨#[]⟩ 0 && NameW.delimB d) = true := by
          rw [hg.2, Bool.and_true]
          unfold goodB
          rw [h1, hpt, e0]
          simp
        rw [if_pos hgt]
        refine ev_pos rfl (ev_neg ?_ next)
        have hne := things_some t.f0 d l.length l rfl ⟨x, hx, by unfold hasT; rw [decide_eq_true hpre.2, (has_parts hhas).2]; rfl⟩
        have := List.length_pos_iff.2 hne
        rw [List.length_map]
        omega
    have hb0 : (0 : Int) ≤ wrap64 ((t.f0.size : Int) - 1) := by rw [wrap_id (by omega) (by omega)]; omega
    have hb1 : wrap64 ((t.f0.size : Int) - 1) ≤ (t.f0.size : Int) := by rw [wrap_id (by omega) (by omega)]; omega
    have hend : Ev (fun k => cellarerlaw07_PagerGroups.l1 k l pre d ((thingsL pre d l).map fun x => x.f0) (p.length : Int) t.f0 true (l.length : Int)) true := by
      refine PureRd.ev_succ ?_
      simp only [cellarerlaw07_PagerGroups.l1]
      refine ev_neg (by omega) (ev_pos trivial ?_)
      by_cases hde : d.toList = []
      · exact ev_pos hde (third false (by simp))
      · exact ev_neg hde (ev_pos hb0 (ev_pos hb1 (third (lastB t.f0 d) id)))
    have hfind : ∃ y ∈ l, y.f0.toList = t.f0.toList ∨ (oc t.f0 <+: oc y.f0 ∧ lastB t.f0 d = true) := by
      refine ⟨x, hx, ?_⟩
      rcases thing_cases pre d x hU hkx h2 hg.2 with ⟨e, _⟩ | ⟨dd, a, b, g, e1, e2, _, e3, e⟩
      · refine .inl ?_
        rw [htx, e]
      · refine .inr ⟨hpre.2, ?_⟩
        unfold lastB
        rw [wrap_id (by omega) (by omega), beq_iff_eq, toList_oc, show ((t.f0.size : Int) - 1).toNat = t.f0.size - 1 by omega, oc_drop, e1]
        have hot : oc t.f0 = oc pre ++ (a ++ [dd]) := by rw [htx, e]; exact e3
        have hsz : t.f0.size = (oc pre ++ a).length + 1 := by rw [← oc_length, hot]; simp; omega
        rw [hsz, hot, Nat.add_sub_cancel, ← List.append_assoc, List.drop_left]
    have search := find_loop l pre d ((thingsL pre d l).map fun x => x.f0) (p.length : Int) t.f0 hl60 ⟨hpos, hts⟩ hend l [] false rfl (.inr hfind)
    have go : Ev (fun k => cellarerlaw07_PagerGroups.j1 k l pre d ((thingsL pre d l).map fun x => x.f0) (p.length : Int) t.f0 false) true := by
      refine PureRd.ev_succ ?_
      simp only [cellarerlaw07_PagerGroups.j1]
      exact ev_neg (by simp) search
    refine PureRd.ev_succ ?_
    simp only [cellarerlaw07_PagerGroups.l0, hrd]
    refine ev_pos (by omega) (ev_pos (by omega) (ev_is (NmRef.ref_under t.f0 pre) ?_))
    rw [decide_eq_true hpre.1]
    have hnz : t.f0.toList ≠ [] := fun e => by
      rw [toList_nil, ← List.length_eq_zero_iff, oc_length] at e
      omega
    refine ev_pos rfl (ev_neg hnz ?_)
    rcases PureRd.snoc_cases p with rfl | ⟨p', u, rfl⟩
    · exact ev_neg (by simp) go
    · have hpl : ((p' ++ [u]).length : Int) = p'.length + 1 := by simp
      have hru : rdOf ByteArray.empty ((thingsL pre d l).map fun x => x.f0) (wrap64 (((p' ++ [u]).length : Int) - 1)) = u.f0 := by
        rw [hpl, wrap_id (by omega) (by omega), show (p'.length : Int) + 1 - 1 = p'.length by omega]
        have hm2 : ((thingsL pre d l).map fun x => x.f0) = (p'.map fun x => x.f0) ++ u.f0 :: ((t :: rest).map fun x => x.f0) := by rw [h]; simp
        have := rd_mid hm2
        rwa [List.length_map] at this
      have hw0 : (0 : Int) ≤ wrap64 (((p' ++ [u]).length : Int) - 1) := by rw [hpl, wrap_id (by omega) (by omega)]; omega
      have hw1 : wrap64 (((p' ++ [u]).length : Int) - 1) < (((thingsL pre d l).map fun x => x.f0).length : Int) := by
        rw [hml, hpl, wrap_id (by omega) (by omega)]
        simp at hlen
        omega
      have hut : lt u.f0 t.f0 = true := by
        rw [h, List.append_assoc, List.pairwise_append] at hrise
        have h3 := hrise.2.1
        simp only [List.singleton_append] at h3
        exact (List.pairwise_cons.1 h3).1 t (by simp)
      refine ev_pos (by omega) (ev_pos hw0 (ev_pos hw1 ?_))
      rw [hru]
      have : (!(Op.bytesLess u.f0.toList t.f0.toList)) = false := by
        have hut' : Op.bytesLess u.f0.toList t.f0.toList = true := hut
        rw [hut']
        rfl
      rw [this]
      exact go
theorem PagerGroups : cellarerlaw07_PagerGroups.Pure := by
  intro l0 a1 a2 hl ha hb
  apply Ev.rounds
  unfold cellarerlaw07_PagerGroups.f
  refine ev_bind (index_few l0) (ev_is (key_few a1) (ev_is (key_few a2) ?_))
  generalize cutI l0 = l
  generalize cutK a1 = p
  generalize cutK a2 = d
  refine ev_bind (things_is l p d) ?_
  by_cases hg : (goodB l p ⟨#[]⟩ 0 && NameW.delimB d) = true
  · rw [if_pos hg]
    refine ev_pos rfl ?_
    exact groups_loop l p d hg _ [] rfl
  · rw [if_neg hg]
    exact ev_neg (by simp) (ev_now _)
end Go.Proofs.Ytcnnijkgiioniaa.Pure
