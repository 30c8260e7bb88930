/-
  layer 7: ROWS in plain words: what pager.Rows answers, and the document's Rows.
-/
import Derived.Test.YtcnnijkgiioniaaProg
import Derived.Test.YtcnnijkgiioniaaCmp
import Derived.Test.YtcnnijkgiioniaaIdxE
import Derived.Test.YtcnnijkgiioniaaIdxLaws
import Derived.Test.YtcnnijkgiioniaaIdxSpec
import Derived.Test.YtcnnijkgiioniaaIdxV
import Derived.Test.YtcnnijkgiioniaaNmRef
import Derived.Test.YtcnnijkgiioniaaNmSpec
import Derived.Test.YtcnnijkgiioniaaPgIt
import Derived.Test.YtcnnijkgiioniaaPgPure
import Derived.Test.YtcnnijkgiioniaaPgRowI
import Derived.Test.YtcnnijkgiioniaaPgRows
import Derived.Test.YtcnnijkgiioniaaPgSpec
import Derived.Test.YtcnnijkgiioniaaPureKit
import Derived.Test.YtcnnijkgiioniaaPureRd
import Derived.Test.YtcnnijkgiioniaaPx0
import Derived.Test.YtcnnijkgiioniaaPx17
import Derived.Test.YtcnnijkgiioniaaPx19
import Derived.Test.YtcnnijkgiioniaaStrIndex
import Derived.Test.YtcnnijkgiioniaaV0
namespace Go.Proofs.Ytcnnijkgiioniaa.PgRowsP
open Go.RowKit Go.Proofs.Ytcnnijkgiioniaa.P Go.Proofs.YtcnnijkgiioniaaW.PrintWords Go.Proofs.YtcnnijkgiioniaaW.PrintLast Go.Proofs.YtcnnijkgiioniaaW.PrintMore Go.Proofs.Ytcnnijkgiioniaa.PureKit Go.Proofs.Ytcnnijkgiioniaa.IdxSpec Go.Proofs.Ytcnnijkgiioniaa.IdxLaws Go.Proofs.Ytcnnijkgiioniaa.PureRd Go.Proofs.Ytcnnijkgiioniaa.PgPure Go.Proofs.Ytcnnijkgiioniaa.PgRowI

theorem rd65 {l pre rest : List R} {v : R} (h : l = pre ++ v :: rest) : rd_T65 l (pre.length : Int) = v := by
  subst h
  simp [rd_T65]
def mkRow (key : ByteArray) (i : Nat) (v : V) : R := ⟨key, v.f0, ((i : Int) == 0), v.f2, (v.f1.size : Int)⟩
/-- A key's rows, from a place on. -/
def rowsFrom (key : ByteArray) : List V → Nat → List R
  | [], _ => []
  | v :: r, i => mkRow key i v :: rowsFrom key r (i + 1)
theorem rowsFrom_len (key : ByteArray) : ∀ (l : List V) (i : Nat), (rowsFrom key l i).length = l.length
  | [], _ => rfl
  | v :: r, i => by simp [rowsFrom, rowsFrom_len key r (i + 1)]
theorem rowsFrom_mem (key : ByteArray) : ∀ (l : List V) (i : Nat), ∀ y ∈ rowsFrom key l i, y.f0 = key ∧ ∃ v ∈ l, y.f1 = v.f0
  | [], _, y, h => by simp [rowsFrom] at h
  | v :: r, i, y, h => by
    rcases List.mem_cons.1 h with rfl | h
    · exact ⟨rfl, v, by simp, rfl⟩
    · obtain ⟨h1, u, hu, h2⟩ := rowsFrom_mem key r (i + 1) y h
      exact ⟨h1, u, by simp [hu], h2⟩
/-- An entry's rows. -/
def rowsOf (pre : ByteArray) (x : E) : List R := if oc pre <+: oc x.f0 then rowsFrom x.f0 x.f1 0 else []
/-- All rows. -/
def allL (pre : ByteArray) (l : List E) : List R := l.flatMap (rowsOf pre)
theorem all_snoc (pre : ByteArray) (l : List E) (x : E) : allL pre (l ++ [x]) = allL pre l ++ rowsOf pre x := by simp [allL]
/-- What bounds an index. -/
structure Few (l : List E) : Prop where
  len : l.length ≤ 60
  each : ∀ x ∈ l, x.f1.length ≤ 20
theorem Few.left {l m : List E} (h : Few (l ++ m)) : Few l := ⟨by have := h.len; simp at this; omega, fun x hx => h.each x (by simp [hx])⟩
theorem rowsOf_len {pre : ByteArray} {x : E} (h : x.f1.length ≤ 20) : (rowsOf pre x).length ≤ 20 := by
  unfold rowsOf
  split
  · rw [rowsFrom_len]; exact h
  · simp
theorem all_len (pre : ByteArray) : ∀ (l : List E), (∀ x ∈ l, x.f1.length ≤ 20) → (allL pre l).length ≤ 20 * l.length
  | [], _ => by simp [allL]
  | x :: r, h => by
    have h1 := all_len pre r (fun y hy => h y (by simp [hy]))
    have h2 := rowsOf_len (pre := pre) (h x (by simp))
    have : allL pre (x :: r) = rowsOf pre x ++ allL pre r := by simp [allL]
    rw [this, List.length_append, List.length_cons]
    omega
theorem few_of {l : List E} (h : indexB l = true) : Few l := by
  obtain ⟨h1, h2, _⟩ := (index_iff l).1 h
  refine ⟨h1, fun x hx => ?_⟩
  have := h2 x hx
  simp only [okE, Bool.and_eq_true] at this
  have h3 := this.2
  unfold chainB at h3
  simp only [Bool.and_eq_true, decide_eq_true_eq] at h3
  exact h3.1.1

/-! ### The program's rows -/
def pageR (most : Int) (all : List R) : List R × Bool × Int := if (all.length : Int) > most then (all.take most.toNat, true, 0) else (all, false, 0)
def rowsB (l : List E) (pre key : ByteArray) (id most : Int) : List R × Bool × Int :=
  if goodB l pre key most = true then
    (if key.toList = [] then pageR most (allL pre l) else if idx (has key id) (allL pre l) < 0 then ([], false, 4) else pageR most ((allL pre l).drop (idx (has key id) (allL pre l) + 1).toNat))
  else ([], false, 1)
theorem page_is (most : Int) (all : List R) (hm : 0 ≤ most) : Ev (fun k => PgRows.rw7.j2 k most all) (pageR most all) := by
  refine PureRd.ev_succ ?_
  simp only [PgRows.rw7.j2]
  by_cases h : (all.length : Int) > most
  · have e : pageR most all = (all.take most.toNat, true, 0) := if_pos h
    rw [e]
    exact ev_pos h (ev_pos hm (ev_pos (by omega) (ev_now _)))
  · have e : pageR most all = (all, false, 0) := if_neg h
    rw [e]
    exact ev_neg h (ev_now _)
theorem inner_loop (l : List E) (pre key : ByteArray) (id most : Int) (i : Int) (x : E) (r : List R × Bool × Int) (acc0 : List R) (hx : x.f1.length ≤ 20) (ha : acc0.length ≤ 1200)
    (hend : Ev (fun k => PgRows.rw7.l0 k pre most key id (acc0 ++ rowsOf pre x) l (l.length : Int) (wrap64 (i + 1))) r) : ∀ (rest p : List V) (acc : List R), x.f1 = p ++ rest → acc.length ≤ 1200 + p.length → acc ++ (if oc pre <+: oc x.f0 then rowsFrom x.f0 rest p.length else []) = acc0 ++ rowsOf pre x →
    Ev (fun k => PgRows.rw7.l1 k pre most key id acc l (l.length : Int) i x.f1 (x.f1.length : Int) (p.length : Int) x.f0 x.f1) r
  | [], p, acc, h, hl, he => by
    refine PureRd.ev_succ ?_
    simp only [PgRows.rw7.l1]
    refine ev_neg (by rw [h]; simp) ?_
    have : acc = acc0 ++ rowsOf pre x := by
      rw [← he]
      split <;> simp [rowsFrom]
    rw [this]
    exact hend
  | v :: rest, p, acc, h, hl, he => by
    have hlen : x.f1.length = p.length + rest.length + 1 := by rw [h]; simp; omega
    have hw : wrap64 ((p.length : Int) + 1) = (p.length : Int) + 1 := wrap_id (by omega) (by omega)
    refine PureRd.ev_succ ?_
    simp only [PgRows.rw7.l1, rd50 h]
    refine ev_pos (by omega) (ev_pos (by omega) (ev_pos (by omega) (ev_is (NmRef.under_is x.f0 pre) ?_)))
    have ih := fun acc' => inner_loop l pre key id most i x r acc0 hx ha hend rest (p ++ [v]) acc' (by simp [h])
    simp only [List.length_append, List.length_cons, List.length_nil, Int.natCast_add, Int.natCast_one, Nat.zero_add] at ih
    rw [hw]
    by_cases hU : oc pre <+: oc x.f0
    · rw [decide_eq_true hU]
      rw [if_pos hU] at he
      refine ev_pos rfl (ev_pos (by omega) ?_)
      exact ih _ (by simp; omega) (by rw [if_pos hU, ← he]; simp [rowsFrom, mkRow])
    · rw [decide_eq_false hU]
      rw [if_neg hU] at he
      exact ev_neg (by simp) (ih _ (by omega) (by rw [if_neg hU]; exact he))
theorem outer_loop (l : List E) (pre key : ByteArray) (id most : Int) (hl : Few l) (r : List R × Bool × Int)
    (hend : Ev (fun k => PgRows.rw7.l0 k pre most key id (allL pre l) l (l.length : Int) (l.length : Int)) r) : ∀ (rest p : List E), l = p ++ rest →
    Ev (fun k => PgRows.rw7.l0 k pre most key id (allL pre p) l (l.length : Int) (p.length : Int)) r
  | [], p, h => by
    have hp : p = l := by simp [h]
    rw [hp]
    exact hend
  | x :: rest, p, h => by
    have hlen : l.length = p.length + rest.length + 1 := by rw [h]; simp; omega
    have h60 := hl.len
    have ih := outer_loop l pre key id most hl r hend rest (p ++ [x]) (by simp [h])
    simp only [List.length_append, List.length_cons, List.length_nil, Int.natCast_add, Int.natCast_one, Nat.zero_add] at ih
    rw [all_snoc] at ih
    have hw : wrap64 ((p.length : Int) + 1) = (p.length : Int) + 1 := wrap_id (by omega) (by omega)
    have hx := hl.each x (by rw [h]; simp)
    have hap := all_len pre p (fun y hy => hl.each y (by rw [h]; simp [hy]))
    refine PureRd.ev_succ ?_
    simp only [PgRows.rw7.l0, rd38 h]
    refine ev_pos (by omega) (ev_pos (by omega) (ev_pos (by omega) ?_))
    exact inner_loop l pre key id most (p.length : Int) x r (allL pre p) hx (by omega) (by rw [hw]; exact ih) x.f1 [] (allL pre p) rfl (by simp; omega) rfl
theorem idx_bounds (p : R → Bool) (l : List R) : idx p l < (l.length : Int) ∧ -1 ≤ idx p l := by
  unfold idx
  cases h : l.findIdx? p with
  | none => exact ⟨show (-1 : Int) < _ by omega, show (-1 : Int) ≤ -1 by omega⟩
  | some i =>
    have := (List.findIdx?_eq_some_iff_getElem.1 h).1
    exact ⟨show (i : Int) < _ by omega, show (-1 : Int) ≤ (i : Int) by omega⟩
theorem rows_is (l : List E) (pre key : ByteArray) (id most : Int) : Ev (fun k => pager_Rows.f k l pre key id most) (rowsB l pre key id most) := by
  unfold pager_Rows.f PgRows.rowsF PgRows.rw7.f rowsB
  refine ev_bind (good_is l pre key most) ?_
  by_cases h : goodB l pre key most = true
  · rw [if_pos h, h]
    obtain ⟨h1, _, _, hm0, _⟩ := good_parts h
    have hf := few_of h1
    refine ev_pos rfl ?_
    have hal := all_len pre l hf.each
    have h60 := hf.len
    refine outer_loop l pre key id most hf _ ?_ l [] rfl
    refine PureRd.ev_succ ?_
    simp only [PgRows.rw7.l0]
    refine ev_neg (by omega) ?_
    by_cases hk : key.toList = []
    · rw [if_pos hk]
      exact ev_pos hk (page_is most _ hm0)
    · rw [if_neg hk]
      refine ev_neg hk (ev_is (x := idx (has key id) (allL pre l)) rfl ?_)
      have hb := idx_bounds (has key id) (allL pre l)
      by_cases hi : idx (has key id) (allL pre l) < 0
      · rw [if_pos hi]
        exact ev_pos hi (ev_now _)
      · rw [if_neg hi, wrap_id (by omega) (by omega)]
        exact ev_neg hi (ev_pos (by omega) (ev_pos (by omega) (page_is most _ hm0)))
  · rw [if_neg h]
    have h' : goodB l pre key most = false := by rw [← Bool.not_eq_true]; exact h
    rw [h']
    exact ev_neg (by simp) (ev_now _)

/-! ### The document's rows -/
/-- IDs and keys tell rows apart. -/
def Apart (all : List R) : Prop := all.Pairwise fun a b => ¬ (a.f0.toList = b.f0.toList ∧ a.f1 = b.f1)
theorem apart_idx {all : List R} (h : Apart all) (key : ByteArray) (id : Int) (i : Nat) (hi : i < all.length) : has key id all[i] = true ↔ idx (has key id) all = (i : Int) := by
  constructor
  · intro hh
    unfold idx
    have : all.findIdx? (has key id) = some i := by
      rw [List.findIdx?_eq_some_iff_getElem]
      refine ⟨hi, hh, fun j hj => ?_⟩
      intro hc
      have h2 := List.pairwise_iff_getElem.1 h j i (by omega) hi hj
      unfold has at hh hc
      simp only [Bool.and_eq_true, beq_iff_eq] at hh hc
      exact h2 ⟨hc.1.trans hh.1.symm, hc.2.trans hh.2.symm⟩
    rw [this]
  · intro he
    unfold idx at he
    cases hf : all.findIdx? (has key id) with
    | none =>
      rw [hf] at he
      have he' : (-1 : Int) = (i : Int) := he
      omega
    | some j =>
      rw [hf] at he
      have hj := (List.findIdx?_eq_some_iff_getElem.1 hf)
      obtain ⟨h1, h2, _⟩ := hj
      have e : j = i := Int.ofNat.inj he
      subst e
      exact h2
/-- Where the document goes on. -/
def fromOf (m : Int) (i : Nat) : Int := if 0 ≤ m ∧ m < (i : Int) then m + 1 else 0
/-! ### Rows of an index that may be lie apart -/
theorem refGood_ids : ∀ (l pre : List V), refGood pre l = true → (∀ v ∈ l, ∀ u ∈ pre, u.f0 ≠ v.f0) ∧ l.Pairwise (fun u v => u.f0 ≠ v.f0)
  | [], _, _ => ⟨fun v hv => by simp at hv, List.Pairwise.nil⟩
  | v :: r, pre, h => by
    simp only [refGood, Bool.and_eq_true, Bool.not_eq_true'] at h
    obtain ⟨h1, h2⟩ := refGood_ids r (pre ++ [v]) h.2
    have hv : ∀ u ∈ pre, u.f0 ≠ v.f0 := fun u hu e => by
      have h3 := h.1.2
      rw [List.any_eq_false] at h3
      refine h3 u hu ?_
      unfold clash
      by_cases hz : v.f0 = 0
      · simp [hz, e]
      · simp [hz, e]
    refine ⟨fun w hw u hu => ?_, ?_⟩
    · rcases List.mem_cons.1 hw with rfl | hw
      · exact hv u hu
      · exact h1 w hw u (by simp [hu])
    · exact List.pairwise_cons.2 ⟨fun w hw => h1 w hw v (by simp), h2⟩
theorem rowsFrom_apart (key : ByteArray) : ∀ (l : List V) (i : Nat), l.Pairwise (fun u v => u.f0 ≠ v.f0) → Apart (rowsFrom key l i)
  | [], _, _ => List.Pairwise.nil
  | v :: r, i, h => by
    obtain ⟨h1, h2⟩ := List.pairwise_cons.1 h
    refine List.pairwise_cons.2 ⟨fun y hy hc => ?_, rowsFrom_apart key r (i + 1) h2⟩
    obtain ⟨_, u, hu, e⟩ := rowsFrom_mem key r (i + 1) y hy
    exact h1 u hu (hc.2.trans e)
theorem all_apart (pre : ByteArray) (l : List E) (h : indexB l = true) (hid : ∀ x ∈ l, ∀ v ∈ x.f1, 0 ≤ v.f0) : Apart (allL pre l) := by
  obtain ⟨_, h2, h3⟩ := (index_iff l).1 h
  unfold Apart allL
  rw [List.pairwise_flatMap]
  refine ⟨fun x hx => ?_, h3.imp fun {x y} hlt a ha b hb hc => ?_⟩
  · unfold rowsOf
    split
    · have hx2 := h2 x hx
      simp only [okE, Bool.and_eq_true] at hx2
      have hch := hx2.2
      rw [← chain_eq x.f1 (hid x hx)] at hch
      unfold refChain at hch
      rw [Bool.and_eq_true] at hch
      exact rowsFrom_apart x.f0 x.f1 0 (refGood_ids x.f1 [] hch.1).2
    · exact List.Pairwise.nil
  · unfold rowsOf at ha hb
    split at ha
    · split at hb
      · rw [(rowsFrom_mem _ _ _ a ha).1, (rowsFrom_mem _ _ _ b hb).1] at hc
        rw [lt_congr hc.1 rfl, lt_irrefl] at hlt
        cases hlt
      · simp at hb
    · simp at ha
theorem same_loop (a : List R) (ha : a.length ≤ 2000) : ∀ (rest pre : List R), a = pre ++ rest → Ev (fun k => cellarerref07_Same.l0 k a a (pre.length : Int)) true
  | [], pre, h => by
    refine PureRd.ev_succ ?_
    simp only [cellarerref07_Same.l0]
    exact ev_neg (by rw [h]; simp) (ev_now _)
  | x :: rest, pre, h => by
    have hlen : a.length = pre.length + rest.length + 1 := by rw [h]; simp; omega
    have ih := same_loop a ha rest (pre ++ [x]) (by simp [h])
    refine PureRd.ev_succ ?_
    simp only [cellarerref07_Same.l0]
    refine ev_pos (by omega) (ev_pos (by omega) (ev_pos (by omega) (ev_neg (by simp) ?_)))
    rw [wrap_id (by omega) (by omega)]
    simpa using ih
theorem same_rows (a : List R) (ha : a.length ≤ 2000) : Ev (fun k => cellarerref07_Same.f k a a) true := by
  unfold cellarerref07_Same.f
  exact ev_pos rfl (same_loop a ha a [] rfl)
end Go.Proofs.Ytcnnijkgiioniaa.PgRowsP
