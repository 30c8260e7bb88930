/- A page of any index's keys and groups, and all things, are the document's, or refused. -/
import Derived.Test.YtcnnijkgiioniaaPx13
import Derived.Test.YtcnnijkgiioniaaPgRefT
import Derived.Test.YtcnnijkgiioniaaPgMay
import Derived.Test.YtcnnijkgiioniaaPxOpens
namespace Go.Proofs.Ytcnnijkgiioniaa.Pure
open Go.RowKit Go.Proofs.Ytcnnijkgiioniaa.P Go.Proofs.YtcnnijkgiioniaaW.PrintWords Go.Proofs.YtcnnijkgiioniaaW.PrintLast Go.Proofs.YtcnnijkgiioniaaW.PrintMore Go.Proofs.Ytcnnijkgiioniaa.PureKit Go.Proofs.Ytcnnijkgiioniaa.PureFew Go.Proofs.Ytcnnijkgiioniaa.PgSpec Go.Proofs.Ytcnnijkgiioniaa.PgT Go.Proofs.Ytcnnijkgiioniaa.PgK Go.Proofs.Ytcnnijkgiioniaa.PgKs Go.Proofs.Ytcnnijkgiioniaa.PgPure Go.Proofs.Ytcnnijkgiioniaa.PgPlain Go.Proofs.Ytcnnijkgiioniaa.PgRefT Go.Proofs.Ytcnnijkgiioniaa.PgMay

theorem good_less {l : List PgSpec.E} {p key : ByteArray} {m : Int} (h : goodB l p key m = true) : goodB l p ⟨#[]⟩ 0 = true := by
  unfold goodB at h ⊢
  simp only [Bool.and_eq_true, Bool.or_eq_true, decide_eq_true_eq] at h
  rw [h.1.1.1.1, h.1.1.1.2, e0]
  rfl
theorem small_page (l : List PgSpec.E) (p d key : ByteArray) (m : Int) (hl : l.length ≤ 60) : (pageF (thingsL p d l) key m).1.length ≤ 1000 ∧ (pageF (thingsL p d l) key m).2.1.length ≤ 1000 := by
  have h1 := things_len p d l
  have h2 : ((vis key (thingsL p d l)).take m.toNat).length ≤ 60 := by
    have : (vis key (thingsL p d l)).length ≤ (thingsL p d l).length := List.length_filter_le _ _
    rw [List.length_take]
    omega
  have h3 := keys_len ((vis key (thingsL p d l)).take m.toNat)
  have h4 := groups_len ((vis key (thingsL p d l)).take m.toNat)
  unfold pageF
  exact ⟨by dsimp only; omega, by dsimp only; omega⟩
theorem PagerKeys : cellarerlaw07_PagerKeys.Pure := by
  intro l0 p0 d0 key0 id most hok
  have hsm : SmallI (cutI l0) := small_cutI l0 fun x hx v hv => by
    have h1 := (hok.1.2 x hx).2.2 v hv
    exact (wf_u64 h1.1).1
  apply Ev.rounds
  unfold cellarerlaw07_PagerKeys.f
  have hcut : Ev (fun k => cellarerlaw07_cut.f k l0 p0 d0 key0 id most) (cutI l0, cutK p0, cutK d0, cutK key0, id, most) := by
    unfold cellarerlaw07_cut.f
    exact ev_bind (index_few l0) (ev_is (key_few p0) (ev_is (key_few d0) (ev_is (key_few key0) (ev_now _))))
  refine ev_bind hcut ?_
  dsimp only
  generalize cutI l0 = l at hsm ⊢
  generalize cutK p0 = p
  generalize cutK d0 = d
  generalize cutK key0 = key
  refine ev_bind (keys_is l p d key most) (ev_bind (things_is l p d) (ev_bind (ref_asked l hsm p d ⟨#[]⟩ 0) ?_))
  by_cases hG : (goodB l p ⟨#[]⟩ 0 && NameW.delimB d) = true
  · rw [if_pos hG, hG]
    have hF := fine_of hG
    have hts : (txt (thingsL p d l)).length ≤ 1000 := by
      have h1 := things_len p d l
      have h2 := hF.len
      unfold txt
      rw [List.length_map]
      omega
    refine ev_pos rfl (ev_bind (ref_things l p d hF) (ev_bind (same_texts (txt (thingsL p d l)) hts) (ev_pos rfl ?_)))
    refine PureRd.ev_succ ?_
    simp only [cellarerlaw07_PagerKeys.j0]
    refine ev_neg (by simp) (ev_bind (ref_asked l hsm p d key most) ?_)
    by_cases hK : (goodB l p key most && NameW.delimB d) = true
    · rw [if_pos hK, hK]
      obtain ⟨_, _, _, hm⟩ := good_parts (Bool.and_eq_true _ _ ▸ hK).1
      obtain ⟨s1, s2⟩ := small_page l p d key most hF.len
      refine ev_pos rfl (ev_bind (ref_keys l p d key most hF hm) ?_)
      refine ev_bind (same_texts _ s1) (ev_pos rfl (ev_bind (same_texts _ s2) (ev_pos rfl (ev_pos (by simp) (ev_pos rfl (ev_pos rfl (ev_now _)))))))
    · rw [if_neg hK]
      have hK' : (goodB l p key most && NameW.delimB d) = false := by rw [← Bool.not_eq_true]; exact hK
      rw [hK']
      exact ev_neg (by simp) (ev_pos (by rw [wrap_id] <;> simp) (ev_neg (by simp) (ev_pos e0 (ev_pos rfl (ev_now _)))))
  · have hK : ¬ (goodB l p key most && NameW.delimB d) = true := fun h => hG (by
      rw [Bool.and_eq_true] at h ⊢
      exact ⟨good_less h.1, h.2⟩)
    have hG' : (goodB l p ⟨#[]⟩ 0 && NameW.delimB d) = false := by rw [← Bool.not_eq_true]; exact hG
    rw [if_neg hG, if_neg hK, hG']
    exact ev_neg (by simp) (ev_pos (by rw [wrap_id] <;> simp) (ev_pos rfl (ev_pos rfl (ev_pos rfl (ev_now _)))))
end Go.Proofs.Ytcnnijkgiioniaa.Pure
