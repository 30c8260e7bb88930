/-
  layer 7: things without a delimiter; the same texts.
-/
import Derived.Test.YtcnnijkgiioniaaPgPure
import Derived.Test.YtcnnijkgiioniaaPx7
import Derived.Test.YtcnnijkgiioniaaPx10
namespace Go.Proofs.Ytcnnijkgiioniaa.PgPlain
open Go.RowKit Go.Proofs.Ytcnnijkgiioniaa.P Go.Proofs.YtcnnijkgiioniaaW.PrintWords Go.Proofs.YtcnnijkgiioniaaW.PrintLast Go.Proofs.YtcnnijkgiioniaaW.PrintMore Go.Proofs.Ytcnnijkgiioniaa.PureKit Go.Proofs.Ytcnnijkgiioniaa.IdxSpec Go.Proofs.Ytcnnijkgiioniaa.IdxLaws Go.Proofs.Ytcnnijkgiioniaa.PureRd Go.Proofs.Ytcnnijkgiioniaa.PureFew Go.Proofs.Ytcnnijkgiioniaa.PgSpec Go.Proofs.Ytcnnijkgiioniaa.PgT Go.Proofs.Ytcnnijkgiioniaa.PgK Go.Proofs.Ytcnnijkgiioniaa.PgKs Go.Proofs.Ytcnnijkgiioniaa.PgPure

theorem e0 : (ByteArray.toList (⟨#[]⟩ : ByteArray)) = [] := by rw [ByteArray.toList_eq]
theorem same_loop (a : List ByteArray) (ha : a.length ≤ 1000) : ∀ (rest pre : List ByteArray), a = pre ++ rest → Ev (fun k => cellarerref02_Same.l0 k a a (pre.length : Int)) true
  | [], pre, h => by
    refine ev_succ ?_
    simp only [cellarerref02_Same.l0]
    exact ev_neg (by rw [h]; simp) (ev_now _)
  | x :: rest, pre, h => by
    have hlen : a.length = pre.length + rest.length + 1 := by rw [h]; simp; omega
    have ih := same_loop a ha rest (pre ++ [x]) (by simp [h])
    refine ev_succ ?_
    simp only [cellarerref02_Same.l0]
    refine ev_pos (by omega) (ev_pos (by omega) (ev_pos (by omega) ?_))
    rw [wrap_id (by omega) (by omega)]
    have g : Ev (fun k => cellarerref02_Same.l0 k a a ((pre.length : Int) + 1)) true := by simpa using ih
    first | exact ev_pos rfl g | exact ev_pos trivial g | exact g
theorem same_texts (a : List ByteArray) (ha : a.length ≤ 1000) : Ev (fun k => cellarerref02_Same.f k a a) true := by
  unfold cellarerref02_Same.f
  exact ev_pos rfl (same_loop a ha a [] rfl)
/-- The keys that begin with the prefix, and whose latest version is no Mark. -/
def wantL (pre : ByteArray) (l : List PgSpec.E) : List ByteArray := (l.filter (hasT pre)).map fun x => x.f0
theorem want_len (pre : ByteArray) (l : List PgSpec.E) : (wantL pre l).length ≤ l.length := by
  unfold wantL
  rw [List.length_map]
  exact List.length_filter_le _ _
theorem thing_plain (pre : ByteArray) (x : PgSpec.E) : thingOf pre ⟨#[]⟩ x = ⟨x.f0, false⟩ := by
  unfold thingOf
  have h : ¬ NmSpec.Ok x.f0 pre ⟨#[]⟩ := fun h => by
    obtain ⟨d, hd⟩ := h.delim
    have he : oc (⟨#[]⟩ : ByteArray) = [] := List.length_eq_zero_iff.1 (by rw [oc_length]; rfl)
    rw [he] at hd
    cases hd
  rw [NmSpec.grp_not h]
  rfl
theorem things_plain (pre : ByteArray) : ∀ (n : Nat) (l : List PgSpec.E), l.length = n → Rise l → thingsL pre ⟨#[]⟩ l = (l.filter (hasT pre)).map fun x => (⟨x.f0, false⟩ : T)
  | 0, l, h, _ => by
    obtain rfl := List.length_eq_zero_iff.1 h
    rfl
  | n + 1, l, h, hR => by
    rcases snoc_cases l with rfl | ⟨l', x, rfl⟩
    · simp at h
    · have hR' := List.pairwise_append.1 hR
      have ih := things_plain pre n l' (by simpa using h) hR'.1
      rw [things_snoc, ih, List.filter_append, List.map_append]
      unfold addT
      cases hx : hasT pre x with
      | false => simp [hx]
      | true =>
        rw [if_pos rfl, thing_plain]
        simp only [List.filter_cons, hx, List.filter_nil, if_true, List.map_cons, List.map_nil]
        unfold PgSpec.stepT
        split
        · rfl
        · rename_i u hu
          rw [if_neg]
          have hm := List.mem_of_getLast? hu
          obtain ⟨y, hy, rfl⟩ := List.mem_map.1 hm
          have hlt := hR'.2.2 y (List.mem_filter.1 hy).1 x (by simp)
          intro he
          have he' : y.f0.toList = x.f0.toList := beq_iff_eq.mp he
          have hi := lt_irrefl x.f0
          rw [← lt_congr he' rfl] at hi
          rw [hi] at hlt
          cases hlt
theorem vis_none (ts : List T) : vis ⟨#[]⟩ ts = ts := by
  unfold vis
  rw [List.filter_eq_self]
  intro x _
  unfold skipB
  rw [e0]
  rfl
theorem page_plain (ks : List PgSpec.E) (h : ks.length ≤ 1000) : pageF (ks.map fun x => (⟨x.f0, false⟩ : T)) ⟨#[]⟩ 1000 = (ks.map (fun x => x.f0), [], false, lastOf (ks.map fun x => (⟨x.f0, false⟩ : T))) := by
  rw [page_all (by rw [vis_none, List.length_map]; omega), vis_none]
  have h1 : keysOf (ks.map fun x => (⟨x.f0, false⟩ : T)) = ks.map (fun x => x.f0) := by
    unfold keysOf
    rw [List.filter_eq_self.2 (fun a ha => by obtain ⟨y, _, rfl⟩ := List.mem_map.1 ha; rfl), List.map_map]
    rfl
  have h2 : groupsOf (ks.map fun x => (⟨x.f0, false⟩ : T)) = [] := by
    unfold groupsOf
    rw [List.filter_eq_nil_iff.2 (fun a ha => by obtain ⟨y, _, rfl⟩ := List.mem_map.1 ha; simp)]
    rfl
  rw [h1, h2]
theorem good_most (l : List PgSpec.E) (pre : ByteArray) : goodB l pre ⟨#[]⟩ 1000 = goodB l pre ⟨#[]⟩ 0 := by
  unfold goodB
  simp
theorem mark_is {x : PgSpec.E} (h : x.f1 ≠ []) : (rd_T52 x.f1 0).f2 = markB x := by
  unfold markB rd_T52
  cases hq : x.f1 with
  | nil => exact absurd hq h
  | cons y r => rfl
end Go.Proofs.Ytcnnijkgiioniaa.PgPlain
