/- A page of any index's versions is the document's, or refused with its error. -/
import Derived.Test.YtcnnijkgiioniaaPx20
import Derived.Test.YtcnnijkgiioniaaPgRowsP
import Derived.Test.YtcnnijkgiioniaaPgMay
import Derived.Test.YtcnnijkgiioniaaPgPlain
import Derived.Test.YtcnnijkgiioniaaPxOpens
namespace Go.Proofs.Ytcnnijkgiioniaa.Pure
open Go.RowKit Go.Proofs.Ytcnnijkgiioniaa.P Go.Proofs.YtcnnijkgiioniaaW.PrintWords Go.Proofs.YtcnnijkgiioniaaW.PrintLast Go.Proofs.YtcnnijkgiioniaaW.PrintMore Go.Proofs.Ytcnnijkgiioniaa.PureKit Go.Proofs.Ytcnnijkgiioniaa.PureFew Go.Proofs.Ytcnnijkgiioniaa.PgPure Go.Proofs.Ytcnnijkgiioniaa.PgRowsP Go.Proofs.Ytcnnijkgiioniaa.PgMay

theorem rows_len {l : List PgSpec.E} {pre key : ByteArray} {id most : Int} (h : goodB l pre key most = true) : (rowsB l pre key id most).1.length ≤ 2000 := by
  obtain ⟨h1, _⟩ := good_parts h
  have hf := few_of h1
  have hal := all_len pre l hf.each
  have h60 := hf.len
  have page : ∀ a : List PgRowI.R, a.length ≤ 2000 → (pageR most a).1.length ≤ 2000 := fun a ha => by
    unfold pageR
    split
    · rw [List.length_take]; omega
    · exact ha
  unfold rowsB
  rw [if_pos h]
  split
  · exact page _ (by omega)
  · split
    · simp
    · exact page _ (by rw [List.length_drop]; omega)
theorem PagerRows : cellarerlaw07_PagerRows.Pure := by
  intro l0 p0 d0 key0 id most hok
  have hid0 : ∀ x ∈ l0, ∀ v ∈ x.f1, 0 ≤ v.f0 := fun x hx v hv => by
    have h1 := (hok.1.2 x hx).2.2 v hv
    exact (wf_u64 h1.1).1
  have hsm : SmallI (cutI l0) := small_cutI l0 hid0
  apply Ev.rounds
  unfold cellarerlaw07_PagerRows.f
  have hcut : Ev (fun k => cellarerlaw07_cut.f k l0 p0 d0 key0 id most) (cutI l0, cutK p0, cutK d0, cutK key0, id, most) := by
    unfold cellarerlaw07_cut.f
    exact ev_bind (index_few l0) (ev_is (key_few p0) (ev_is (key_few d0) (ev_is (key_few key0) (ev_now _))))
  refine ev_bind hcut ?_
  dsimp only
  generalize cutI l0 = l at hsm ⊢
  generalize cutK p0 = p
  generalize cutK key0 = key
  refine ev_bind (rows_is l p key id most) (ev_bind (ref_asked l hsm p ⟨#[]⟩ key most) ?_)
  have hde : NameW.delimB ⟨#[]⟩ = true := by decide
  rw [hde, Bool.and_true]
  by_cases hK : goodB l p key most = true
  · rw [hK]
    have ha := all_apart p l (good_parts hK).1 (fun x hx v hv => ((hsm.each x hx).vers.each v hv).id)
    refine ev_pos rfl (ev_bind (ref_rows l p key id most hK ha) (ev_bind (same_rows _ (rows_len hK)) (ev_pos rfl (ev_pos (by simp) (ev_pos rfl (ev_now _))))))
  · have hK' : goodB l p key most = false := by rw [← Bool.not_eq_true]; exact hK
    have e : rowsB l p key id most = ([], false, 1) := if_neg hK
    rw [hK', e]
    exact ev_neg (by simp) (ev_pos rfl (ev_neg (by simp) (ev_pos rfl (ev_now _))))
end Go.Proofs.Ytcnnijkgiioniaa.Pure
