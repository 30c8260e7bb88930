/- Without a delimiter things are keys, and the page of all is they. -/
import Derived.Test.YtcnnijkgiioniaaPx13
import Derived.Test.YtcnnijkgiioniaaPgPlain
import Derived.Test.YtcnnijkgiioniaaNmRef
namespace Go.Proofs.Ytcnnijkgiioniaa.Pure
open Go.RowKit Go.Proofs.Ytcnnijkgiioniaa.P Go.Proofs.YtcnnijkgiioniaaW.PrintWords Go.Proofs.YtcnnijkgiioniaaW.PrintLast Go.Proofs.YtcnnijkgiioniaaW.PrintMore Go.Proofs.Ytcnnijkgiioniaa.PureKit Go.Proofs.Ytcnnijkgiioniaa.IdxSpec Go.Proofs.Ytcnnijkgiioniaa.IdxLaws Go.Proofs.Ytcnnijkgiioniaa.PureRd Go.Proofs.Ytcnnijkgiioniaa.PureFew Go.Proofs.Ytcnnijkgiioniaa.PgSpec Go.Proofs.Ytcnnijkgiioniaa.PgT Go.Proofs.Ytcnnijkgiioniaa.PgK Go.Proofs.Ytcnnijkgiioniaa.PgKs Go.Proofs.Ytcnnijkgiioniaa.PgPure Go.Proofs.Ytcnnijkgiioniaa.PgPlain
theorem want_loop (l : List PgSpec.E) (pre s : ByteArray) (hl : l.length ≤ 60) (hn : ∀ x ∈ l, x.f1 ≠ []) : ∀ (rest p : List PgSpec.E), l = p ++ rest →
    Ev (fun k => cellarerlaw07_PagerPlain.l0 k l pre (wantL pre l) (wantL pre p) (p.length : Int) (wantL pre l) [] false s) true
  | [], p, h => by
    have hp : p = l := by simp [h]
    subst hp
    have hw := want_len pre p
    refine ev_succ ?_
    simp only [cellarerlaw07_PagerPlain.l0]
    refine ev_neg (by simp) (ev_bind (same_texts _ (by omega)) (ev_pos rfl (ev_bind (same_texts _ (by omega)) (ev_pos rfl ?_))))
    exact ev_now _
  | x :: rest, p, h => by
    have hlen : l.length = p.length + rest.length + 1 := by rw [h]; simp; omega
    have hx : x ∈ l := by rw [h]; simp
    have ih := want_loop l pre s hl hn rest (p ++ [x]) (by simp [h])
    have hw : wantL pre (p ++ [x]) = if hasT pre x = true then wantL pre p ++ [x.f0] else wantL pre p := by
      unfold wantL
      cases hq : hasT pre x <;> simp [hq]
    have hwl := want_len pre p
    have hne := hn x hx
    have hpos : x.f1.length ≠ 0 := fun e => hne (List.length_eq_zero_iff.1 e)
    refine ev_succ ?_
    simp only [cellarerlaw07_PagerPlain.l0, rd38 h]
    refine ev_pos (by omega) (ev_pos (by omega) (ev_is (NmRef.ref_under x.f0 pre) ?_))
    rw [wrap_id (by omega) (by omega), mark_is hne]
    rw [List.length_append, List.length_singleton, Int.natCast_add, hw] at ih
    unfold hasT at ih
    by_cases hU : oc pre <+: oc x.f0
    · rw [decide_eq_true hU] at ih ⊢
      refine ev_pos rfl (ev_pos (by omega) ?_)
      cases hM : markB x with
      | true =>
        rw [hM] at ih
        exact ev_pos rfl (by simpa using ih)
      | false =>
        rw [hM] at ih
        exact ev_neg (by simp) (ev_pos (by omega) (by simpa using ih))
    · rw [decide_eq_false hU] at ih ⊢
      exact ev_neg (by simp) (by simpa using ih)
theorem PagerPlain : cellarerlaw07_PagerPlain.Pure := by
  intro l0 a1 hl ha
  apply Ev.rounds
  unfold cellarerlaw07_PagerPlain.f
  refine ev_bind (index_few l0) (ev_is (key_few a1) ?_)
  generalize cutI l0 = l
  generalize cutK a1 = p
  refine ev_bind (things_is l p ⟨#[]⟩) (ev_bind (keys_is l p ⟨#[]⟩ ⟨#[]⟩ 1000) ?_)
  rw [good_most]
  by_cases hg : (goodB l p ⟨#[]⟩ 0 && NameW.delimB ⟨#[]⟩) = true
  · rw [if_pos hg, if_pos hg]
    rw [Bool.and_eq_true] at hg
    obtain ⟨h1, h2, _⟩ := good_parts hg.1
    obtain ⟨hn, hl60, _, hR⟩ := index_small h1
    have hf : (l.filter (hasT p)).length ≤ 1000 := Nat.le_trans (List.length_filter_le _ _) (by omega)
    rw [things_plain p l.length l rfl hR, page_plain _ hf, List.map_map]
    refine ev_pos rfl (ev_succ ?_)
    simp only [cellarerlaw07_PagerPlain.j0]
    refine ev_neg (by simp) ?_
    exact want_loop l p _ hl60 hn l [] rfl
  · rw [if_neg hg, if_neg hg]
    refine ev_neg (by simp) (ev_succ ?_)
    simp only [cellarerlaw07_PagerPlain.j0]
    exact ev_pos trivial (ev_pos trivial (ev_pos rfl (ev_now _)))
end Go.Proofs.Ytcnnijkgiioniaa.Pure
