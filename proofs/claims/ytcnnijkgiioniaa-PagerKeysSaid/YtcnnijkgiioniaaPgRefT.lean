/-
  THE DOCUMENT's Things and Keys (layer 7, as printed), in PgSpec's words.
-/
import Derived.Test.YtcnnijkgiioniaaPx10
import Derived.Test.YtcnnijkgiioniaaPx11
import Derived.Test.YtcnnijkgiioniaaPx12
import Derived.Test.YtcnnijkgiioniaaPgRise
import Derived.Test.YtcnnijkgiioniaaNmRef
namespace Go.Proofs.Ytcnnijkgiioniaa.PgRefT
open Go.RowKit Go.Proofs.Ytcnnijkgiioniaa.P Go.Proofs.YtcnnijkgiioniaaW.PrintWords Go.Proofs.YtcnnijkgiioniaaW.PrintLast Go.Proofs.YtcnnijkgiioniaaW.PrintMore Go.Proofs.Ytcnnijkgiioniaa.PureKit Go.Proofs.Ytcnnijkgiioniaa.IdxSpec Go.Proofs.Ytcnnijkgiioniaa.IdxLaws Go.Proofs.Ytcnnijkgiioniaa.PureRd Go.Proofs.Ytcnnijkgiioniaa.PureFew Go.Proofs.Ytcnnijkgiioniaa.NmSpec Go.Proofs.Ytcnnijkgiioniaa.PgSpec Go.Proofs.Ytcnnijkgiioniaa.PgT Go.Proofs.Ytcnnijkgiioniaa.PgK Go.Proofs.Ytcnnijkgiioniaa.PgKs Go.Proofs.Ytcnnijkgiioniaa.PgPure Go.Proofs.Ytcnnijkgiioniaa.PgPlain Go.Proofs.Ytcnnijkgiioniaa.PgRise

theorem rd_tx {ts p rest : List ByteArray} {t : ByteArray} (h : ts = p ++ t :: rest) : rdOf ByteArray.empty ts (p.length : Int) = t := by
  subst h
  simp [rdOf]
/-- A key's thing. -/
theorem ref_thing (x : PgSpec.E) (pre delim : ByteArray) (hx : x.f1 ≠ []) (hk : x.f0.size ≤ 1000) : Ev (fun k => cellarerref07_Thing.f k x.f0 x.f1 pre delim) (if hasT pre x = true then ((thingOf pre delim x).f0, true) else ((⟨#[]⟩ : ByteArray), false)) := by
  unfold cellarerref07_Thing.f
  refine ev_is (NmRef.ref_under x.f0 pre) ?_
  unfold hasT
  by_cases hU : oc pre <+: oc x.f0
  · rw [decide_eq_true hU]
    refine ev_pos rfl (ev_pos (by have := List.length_pos_iff.2 hx; omega) ?_)
    rw [mark_is hx]
    refine PureRd.ev_succ ?_
    simp only [cellarerref07_Thing.j0]
    cases hm : markB x with
    | true => exact ev_pos rfl (by simpa using ev_now _)
    | false =>
      refine ev_neg (by simp) (ev_bind (NmRef.ref_group x.f0 pre delim hk) ?_)
      unfold thingOf
      by_cases hg : (grp x.f0 pre delim).2 = true
      · exact ev_pos hg (by simpa [hg] using ev_now _)
      · exact ev_neg hg (by simpa [hg] using ev_now _)
  · rw [decide_eq_false hU]
    refine ev_neg (by simp) ?_
    refine PureRd.ev_succ ?_
    simp only [cellarerref07_Thing.j0]
    exact ev_pos trivial (by simpa using ev_now _)
/-- A thing is put in where it goes: behind all, or it is the last already. -/
theorem insert_loop (l : List PgSpec.E) (pre delim : ByteArray) (i : Int) (t : ByteArray) (out res r : List ByteArray) (ho : out.length ≤ 1000)
    (hend : Ev (fun k => cellarerref07_Things.l0 k l pre delim res (wrap64 (i + 1))) r) : ∀ (rest p : List ByteArray), out = p ++ rest →
    ((∀ u ∈ rest, lt u t = true) ∧ res = out ++ [t]) ∨ (∃ q u, rest = q ++ [u] ∧ (∀ v ∈ q, lt v t = true) ∧ u.toList = t.toList ∧ res = out) →
    Ev (fun k => cellarerref07_Things.l1 k l pre delim out i t p false (p.length : Int)) r
  | [], p, h, hc => by
    have hp : p = out := by simp [h]
    rcases hc with ⟨_, hres⟩ | ⟨q, u, hq, _⟩
    · refine PureRd.ev_succ ?_
      simp only [cellarerref07_Things.l1]
      refine ev_neg (by rw [hp]; omega) (ev_neg (by simp) (ev_pos (by rw [hp]; omega) ?_))
      rw [hp, ← hres]
      exact hend
    · simp at hq
  | u :: rest, p, h, hc => by
    have hlen : out.length = p.length + rest.length + 1 := by rw [h]; simp; omega
    have hrd : rdOf ByteArray.empty out (p.length : Int) = u := rd_tx h
    have ih := insert_loop l pre delim i t out res r ho hend rest (p ++ [u]) (by simp [h])
    simp only [List.length_append, List.length_cons, List.length_nil, Int.natCast_add, Int.natCast_one, Nat.zero_add] at ih
    refine PureRd.ev_succ ?_
    simp only [cellarerref07_Things.l1]
    refine ev_pos (by omega) (ev_neg (by simp) (ev_pos (by omega) ?_))
    rw [hrd]
    by_cases hlt : lt u t = true
    · have hlt' : Op.bytesLess u.toList t.toList = true := hlt
      rw [hlt', Bool.not_true]
      refine PureRd.ev_succ ?_
      simp only [cellarerref07_Things.j2]
      refine ev_neg (by simp) (ev_pos (by omega) (ev_pos (by omega) (ev_pos (by omega) ?_)))
      rw [hrd, wrap_id (by omega) (by omega)]
      refine ih ?_
      rcases hc with ⟨h1, h2⟩ | ⟨q, v, h1, h2, h3, h4⟩
      · exact .inl ⟨fun x hx => h1 x (by simp [hx]), h2⟩
      · cases q with
        | nil =>
          simp at h1
          obtain ⟨rfl, rfl⟩ := h1
          rw [lt_congr h3 rfl, lt_irrefl] at hlt
          cases hlt
        | cons y q =>
          simp at h1
          obtain ⟨rfl, rfl⟩ := h1
          exact .inr ⟨q, v, rfl, fun x hx => h2 x (by simp [hx]), h3, h4⟩
    · rcases hc with ⟨h1, h2⟩ | ⟨q, v, h1, h2, h3, h4⟩
      · exact absurd (h1 u (by simp)) hlt
      · cases q with
        | cons y q =>
          simp at h1
          obtain ⟨rfl, rfl⟩ := h1
          exact absurd (h2 u (by simp)) hlt
        | nil =>
          simp at h1
          obtain ⟨rfl, rfl⟩ := h1
          have hlt' : Op.bytesLess u.toList t.toList = false := by rw [← Bool.not_eq_true]; exact hlt
          rw [hlt', Bool.not_false]
          refine PureRd.ev_succ ?_
          simp only [cellarerref07_Things.j2]
          have hno : ¬ Op.bytesLess t.toList u.toList = true := by
            rw [h3]
            have : Op.bytesLess t.toList t.toList = false := lt_irrefl t
            rw [this]
            simp
          refine ev_pos trivial (ev_pos (by omega) (ev_pos (by omega) ?_))
          rw [hrd]
          refine ev_neg hno (ev_pos (by omega) ?_)
          rw [wrap_id (by omega) (by omega)]
          have hpo : p ++ [u] = out := by rw [h]
          rw [hpo]
          refine PureRd.ev_succ ?_
          simp only [cellarerref07_Things.l1]
          refine ev_neg (by simp at hlen; omega) (ev_pos trivial ?_)
          rw [← h4]
          exact hend
/-- What is asked of an index, so that things rise. -/
structure Fine (l : List PgSpec.E) (pre delim : ByteArray) : Prop where
  rise : Rise l
  key : ∀ x ∈ l, Name.keyB x.f0 = true
  some : ∀ x ∈ l, x.f1 ≠ []
  size : ∀ x ∈ l, x.f0.size ≤ 60
  len : l.length ≤ 60
  pre : NameW.prefixB pre = true
  delim : NameW.delimB delim = true
theorem fine_of {l : List PgSpec.E} {pre delim after : ByteArray} {most : Int} (h : (goodB l pre after most && NameW.delimB delim) = true) : Fine l pre delim := by
  rw [Bool.and_eq_true] at h
  obtain ⟨h1, h2, _⟩ := good_parts h.1
  obtain ⟨a, b, c, d⟩ := index_small h1
  exact ⟨d, fun x hx => (c x hx).2.2, a, fun x hx => (c x hx).1, b, h2, h.2⟩
theorem Fine.left {l m : List PgSpec.E} {pre delim : ByteArray} (h : Fine (l ++ m) pre delim) : Fine l pre delim :=
  ⟨(List.pairwise_append.1 h.rise).1, fun x hx => h.key x (by simp [hx]), fun x hx => h.some x (by simp [hx]), fun x hx => h.size x (by simp [hx]), by have := h.len; simp at this; omega, h.pre, h.delim⟩
def txt (ts : List T) : List ByteArray := ts.map fun x => x.f0
/-- Of what is added to things: it is behind all, or it is the last one. -/
theorem add_cases {l : List PgSpec.E} {x : PgSpec.E} {pre delim : ByteArray} (h : Fine (l ++ [x]) pre delim) (hx : hasT pre x = true) :
    ((∀ u ∈ txt (thingsL pre delim l), lt u (thingOf pre delim x).f0 = true) ∧ txt (thingsL pre delim (l ++ [x])) = txt (thingsL pre delim l) ++ [(thingOf pre delim x).f0]) ∨
    (∃ q u, txt (thingsL pre delim l) = q ++ [u] ∧ (∀ v ∈ q, lt v (thingOf pre delim x).f0 = true) ∧ u.toList = (thingOf pre delim x).f0.toList ∧ txt (thingsL pre delim (l ++ [x])) = txt (thingsL pre delim l)) := by
  have hrise := things_rise pre delim h.pre h.delim _ (l ++ [x]) rfl h.rise h.key
  have hrl := things_rise pre delim h.pre h.delim _ l rfl h.left.rise h.left.key
  rw [things_snoc] at hrise ⊢
  unfold addT at hrise ⊢
  rw [if_pos hx] at hrise ⊢
  unfold PgSpec.stepT at hrise ⊢
  have new : (thingsL pre delim l ++ [thingOf pre delim x]).Pairwise (fun s t => lt s.f0 t.f0 = true) → ∀ u ∈ txt (thingsL pre delim l), lt u (thingOf pre delim x).f0 = true := fun hp u hu => by
    obtain ⟨s, hs, rfl⟩ := List.mem_map.1 hu
    exact (List.pairwise_append.1 hp).2.2 s hs _ (by simp)
  split at hrise
  · exact .inl ⟨new hrise, by simp [txt]⟩
  · rename_i u hu
    split at hrise
    · rename_i he
      rw [if_pos he]
      obtain ⟨i, hi⟩ := List.getLast?_eq_some_iff.1 hu
      refine .inr ⟨txt i, u.f0, by rw [hi]; simp [txt], fun v hv => ?_, beq_iff_eq.mp he, rfl⟩
      obtain ⟨s, hs, rfl⟩ := List.mem_map.1 hv
      rw [hi] at hrl
      have := (List.pairwise_append.1 hrl).2.2 s hs u (by simp)
      rw [← lt_congr rfl (beq_iff_eq.mp he)]
      exact this
    · rename_i he
      rw [if_neg he]
      exact .inl ⟨new hrise, by simp [txt]⟩
theorem things_loop (l : List PgSpec.E) (pre delim : ByteArray) (hl : Fine l pre delim) : ∀ (rest p : List PgSpec.E), l = p ++ rest →
    Ev (fun k => cellarerref07_Things.l0 k l pre delim (txt (thingsL pre delim p)) (p.length : Int)) (txt (thingsL pre delim l))
  | [], p, h => by
    have hp : p = l := by simp [h]
    refine PureRd.ev_succ ?_
    simp only [cellarerref07_Things.l0]
    rw [hp]
    exact ev_neg (by omega) (ev_now _)
  | x :: rest, p, h => by
    have hlen : l.length = p.length + rest.length + 1 := by rw [h]; simp; omega
    have h60 := hl.len
    have hx : x ∈ l := by rw [h]; simp
    have ih := things_loop l pre delim hl rest (p ++ [x]) (by simp [h])
    simp only [List.length_append, List.length_cons, List.length_nil, Int.natCast_add, Int.natCast_one, Nat.zero_add] at ih
    have hw : wrap64 ((p.length : Int) + 1) = (p.length : Int) + 1 := wrap_id (by omega) (by omega)
    refine PureRd.ev_succ ?_
    simp only [cellarerref07_Things.l0, rd38 h]
    refine ev_pos (by omega) (ev_pos (by omega) (ev_bind (ref_thing x pre delim (hl.some x hx) (by have := hl.size x hx; omega)) ?_))
    by_cases hh : hasT pre x = true
    · rw [if_pos hh]
      refine ev_pos rfl ?_
      have hf : Fine (p ++ [x]) pre delim := by
        have hl' := hl
        rw [h, show p ++ x :: rest = (p ++ [x]) ++ rest by simp] at hl'
        exact hl'.left
      have hlp := things_len pre delim p
      exact insert_loop l pre delim (p.length : Int) (thingOf pre delim x).f0 (txt (thingsL pre delim p)) (txt (thingsL pre delim (p ++ [x]))) _ (by unfold txt; rw [List.length_map]; omega)
        (by rw [hw]; exact ih) _ [] rfl (add_cases hf hh)
    · rw [if_neg hh]
      refine ev_neg (by simp) ?_
      have he : thingsL pre delim (p ++ [x]) = thingsL pre delim p := by
        rw [things_snoc]
        unfold addT
        rw [if_neg hh]
      rw [he] at ih
      rw [hw]
      exact ih
theorem ref_things (l : List PgSpec.E) (pre delim : ByteArray) (hl : Fine l pre delim) : Ev (fun k => cellarerref07_Things.f k l pre delim) (txt (thingsL pre delim l)) := things_loop l pre delim hl l [] rfl

/-! ### Keys -/
/-- Is it a key's own thing, and this one? -/
def ownB (pre delim t : ByteArray) (x : PgSpec.E) : Bool := hasT pre x && (!(grp x.f0 pre delim).2 && ((thingOf pre delim x).f0.toList == t.toList))
theorem own_any {l : List PgSpec.E} {pre delim : ByteArray} (hl : Fine l pre delim) (t : T) (ht : t ∈ thingsL pre delim l) : l.any (ownB pre delim t.f0) = !t.f1 := by
  obtain ⟨x0, hx0, hh0, ht0⟩ := things_mem pre delim l.length l rfl t ht
  cases hf : t.f1 with
  | false =>
    rw [Bool.not_false, List.any_eq_true]
    refine ⟨x0, hx0, ?_⟩
    have hg : (grp x0.f0 pre delim).2 = false := by
      cases hq : (grp x0.f0 pre delim).2 with
      | false => rfl
      | true =>
        rw [ht0] at hf
        unfold thingOf at hf
        rw [if_pos hq] at hf
        cases hf
    unfold ownB
    rw [hh0, hg, ht0]
    simp
  | true =>
    rw [Bool.not_true, List.any_eq_false]
    intro x hx hb
    unfold ownB at hb
    simp only [Bool.and_eq_true, Bool.not_eq_true', beq_iff_eq] at hb
    obtain ⟨hh, hg, he⟩ := hb
    have hxt : thingOf pre delim x = ⟨x.f0, false⟩ := by unfold thingOf; rw [if_neg (by rw [hg]; simp)]
    rw [hxt] at he
    rcases thing_cases pre delim x0 (has_parts hh0).1 (hl.key x0 hx0) hl.pre hl.delim with ⟨e, _⟩ | ⟨d, a, b, g, e1, e2, e3, e4, e⟩
    · rw [ht0, e] at hf
      cases hf
    · rw [ht0, e] at he
      have hox : oc x.f0 = oc g := toList_oc.1 he
      rcases thing_cases pre delim x (has_parts hh).1 (hl.key x hx) hl.pre hl.delim with ⟨_, hn⟩ | ⟨d', a', b', g', _, _, _, _, e'⟩
      · refine hn d e1 ?_
        rw [hox, e4, ← oc_length, List.drop_left]
        simp
      · rw [hxt] at e'
        cases e'
/-- The search for the key. -/
theorem key_loop (l : List PgSpec.E) (pre delim after : ByteArray) (most : Int) (all : List ByteArray) (n i : Int) (ks gs : List ByteArray) (more : Bool) (last : ByteArray) (t : ByteArray) (r : List ByteArray × List ByteArray × Bool × ByteArray)
    (hl : Fine l pre delim) (hi : 0 ≤ i ∧ i < (all.length : Int)) (ht : rdOf ByteArray.empty all i = t) (hend : ∀ b, b = l.any (ownB pre delim t) → Ev (fun k => cellarerref07_Keys.l1 k l pre delim after most all n i b (l.length : Int) ks gs more last) r) : ∀ (rest p : List PgSpec.E), l = p ++ rest →
    Ev (fun k => cellarerref07_Keys.l1 k l pre delim after most all n i (p.any (ownB pre delim t)) (p.length : Int) ks gs more last) r
  | [], p, h => by
    have hp : p = l := by simp [h]
    rw [hp]
    exact hend _ rfl
  | x :: rest, p, h => by
    have hlen : l.length = p.length + rest.length + 1 := by rw [h]; simp; omega
    have h60 := hl.len
    have hx : x ∈ l := by rw [h]; simp
    have ih := key_loop l pre delim after most all n i ks gs more last t r hl hi ht hend rest (p ++ [x]) (by simp [h])
    simp only [List.length_append, List.length_cons, List.length_nil, Int.natCast_add, Int.natCast_one, Nat.zero_add] at ih
    have hw : wrap64 ((p.length : Int) + 1) = (p.length : Int) + 1 := wrap_id (by omega) (by omega)
    have hsz := hl.size x hx
    refine PureRd.ev_succ ?_
    simp only [cellarerref07_Keys.l1, rd38 h]
    refine ev_pos (by omega) (ev_pos (by omega) (ev_bind (ref_thing x pre delim (hl.some x hx) (by omega)) (ev_bind (NmRef.ref_group x.f0 pre delim (by omega)) ?_)))
    have hany : (p ++ [x]).any (ownB pre delim t) = (p.any (ownB pre delim t) || ownB pre delim t x) := by simp
    rw [hany] at ih
    rw [hw]
    cases hp : p.any (ownB pre delim t) with
    | true =>
      rw [hp, Bool.true_or] at ih
      exact ev_pos rfl ih
    | false =>
      rw [hp, Bool.false_or] at ih
      refine ev_neg (by simp) ?_
      unfold ownB at ih
      by_cases hh : hasT pre x = true
      · rw [if_pos hh]
        rw [hh, Bool.true_and] at ih
        refine ev_pos rfl ?_
        cases hg : (grp x.f0 pre delim).2 with
        | true =>
          rw [hg] at ih
          exact ev_pos rfl (by simpa using ih)
        | false =>
          rw [hg, Bool.not_false, Bool.true_and] at ih
          refine ev_neg (by simp) (ev_pos hi.1 (ev_pos hi.2 ?_))
          rw [ht]
          exact ih
      · rw [if_neg hh]
        have hh' : hasT pre x = false := by rw [← Bool.not_eq_true]; exact hh
        rw [hh', Bool.false_and] at ih
        exact ev_neg (by simp) ih
theorem keys_loop (l : List PgSpec.E) (pre delim after : ByteArray) (most : Int) (hl : Fine l pre delim) (hm : 0 ≤ most ∧ most ≤ 1000) : ∀ (rest p : List T), thingsL pre delim l = p ++ rest → ((vis after p).length : Int) ≤ most →
    Ev (fun k => cellarerref07_Keys.l0 k l pre delim after most (txt (thingsL pre delim l)) ((vis after p).length : Int) (p.length : Int) (keysOf (vis after p)) (groupsOf (vis after p)) false (lastOf (vis after p))) (pageF (thingsL pre delim l) after most)
  | [], p, h, hv => by
    have hp : p = thingsL pre delim l := by simp [h]
    refine PureRd.ev_succ ?_
    simp only [cellarerref07_Keys.l0]
    rw [hp] at hv ⊢
    rw [page_all hv]
    exact ev_neg (by unfold txt; rw [List.length_map]; omega) (ev_now _)
  | t :: rest, p, h, hv => by
    have hlen : (thingsL pre delim l).length = p.length + rest.length + 1 := by rw [h]; simp; omega
    have hlt := things_len pre delim l
    have h60 := hl.len
    have htl : ((txt (thingsL pre delim l)).length : Int) = (thingsL pre delim l).length := by unfold txt; rw [List.length_map]
    have hrd : rdOf ByteArray.empty (txt (thingsL pre delim l)) (p.length : Int) = t.f0 := by
      have := rd_tx (ts := txt (thingsL pre delim l)) (p := txt p) (rest := txt rest) (t := t.f0) (by rw [h]; simp [txt])
      simpa [txt] using this
    have hvl : (vis after p).length ≤ p.length := List.length_filter_le _ _
    have hw : wrap64 ((p.length : Int) + 1) = (p.length : Int) + 1 := wrap_id (by omega) (by omega)
    have ih := keys_loop l pre delim after most hl hm rest (p ++ [t]) (by simp [h])
    simp only [List.length_append, List.length_cons, List.length_nil, Int.natCast_add, Int.natCast_one, Nat.zero_add] at ih
    have step : Ev (fun k => cellarerref07_Keys.j1 k l pre delim after most (txt (thingsL pre delim l)) ((vis after p).length : Int) (p.length : Int) (skipB after t) (keysOf (vis after p)) (groupsOf (vis after p)) false (lastOf (vis after p))) (pageF (thingsL pre delim l) after most) := by
      refine PureRd.ev_succ ?_
      simp only [cellarerref07_Keys.j1]
      cases hs : skipB after t with
      | true =>
        rw [vis_skip p hs] at ih
        rw [hw]
        exact ev_pos rfl (ih hv)
      | false =>
        rw [vis_see p hs] at ih
        refine ev_neg (by simp) ?_
        by_cases hn : ((vis after p).length : Int) = most
        · rw [page_cut (x := t) (q := p) ⟨rest, by rw [h]; simp⟩ hs hn]
          exact ev_pos hn (ev_now _)
        · refine ev_neg hn (ev_pos (by omega) (ev_pos (by omega) ?_))
          rw [hrd]
          have ih' := ih (by simp; omega)
          rw [last_snoc, List.length_append, List.length_singleton, Int.natCast_add, Int.natCast_one] at ih'
          have hown := own_any hl t (by rw [h]; simp)
          refine key_loop l pre delim after most _ _ _ _ _ _ _ t.f0 _ hl ⟨by omega, by omega⟩ hrd (fun b hb => ?_) l [] rfl
          rw [hown] at hb
          have hkl := keys_len (vis after p)
          have hgl := groups_len (vis after p)
          refine PureRd.ev_succ ?_
          simp only [cellarerref07_Keys.l1]
          refine ev_neg (by omega) ?_
          rw [hw, hrd, wrap_id (x := ((vis after p).length : Int) + 1) (by omega) (by omega)]
          cases hf : t.f1 with
          | false =>
            rw [keys_key _ hf, groups_key _ hf] at ih'
            rw [hf] at hb
            exact ev_pos (by rw [hb]; rfl) (ev_pos (by omega) (ev_pos (by omega) (ev_pos (by omega) ih')))
          | true =>
            rw [keys_group _ hf, groups_group _ hf] at ih'
            rw [hf] at hb
            exact ev_neg (by rw [hb]; simp) (ev_pos (by omega) (ev_pos (by omega) (ev_pos (by omega) ih')))
    refine PureRd.ev_succ ?_
    simp only [cellarerref07_Keys.l0]
    refine ev_pos (by omega) ?_
    by_cases ha : after.toList = []
    · refine ev_pos ha ?_
      have : skipB after t = false := by unfold skipB; rw [ha]; rfl
      rw [this] at step
      exact step
    · refine ev_neg ha (ev_pos (by omega) ?_)
      rw [hrd]
      have : skipB after t = !(Op.bytesLess after.toList t.f0.toList) := by
        unfold skipB
        rw [show (after.toList != ([] : List UInt8)) = true from bne_iff_ne.2 ha, Bool.true_and]
      rw [this] at step
      exact step
theorem ref_keys (l : List PgSpec.E) (pre delim after : ByteArray) (most : Int) (hl : Fine l pre delim) (hm : 0 ≤ most ∧ most ≤ 1000) : Ev (fun k => cellarerref07_Keys.f k l pre delim after most) (pageF (thingsL pre delim l) after most) := by
  unfold cellarerref07_Keys.f
  refine ev_bind (ref_things l pre delim hl) ?_
  exact keys_loop l pre delim after most hl hm _ [] rfl (by simpa [vis] using hm.1)
end Go.Proofs.Ytcnnijkgiioniaa.PgRefT
