/-
  THE PURE STATEMENT of ChainGets: the latest version of any chain, one by its ID, and the chain without it, is the document's, or refused with its error.
-/
import Derived.Test.YtldmidoemcdaaaaPx17
import Derived.Test.YtldmidoemcdaaaaPxOpens
import Derived.Test.YtldmidoemcdaaaaChSame
import Derived.Test.YtldmidoemcdaaaaChFind
import Derived.Test.YtldmidoemcdaaaaChRefFind
namespace Go.Proofs.Ytldmidoemcdaaaa.Pure
open Go.RowKit Go.Proofs.Ytldmidoemcdaaaa Go.Proofs.Ytldmidoemcdaaaa.P Go.Proofs.YtldmidoemcdaaaaW.PrintWords Go.Proofs.YtldmidoemcdaaaaW.PrintLast Go.Proofs.YtldmidoemcdaaaaW.PrintMore Go.Proofs.Ytldmidoemcdaaaa.PureKit Go.Proofs.Ytldmidoemcdaaaa.ChSpec Go.Proofs.Ytldmidoemcdaaaa.ChFew Go.Proofs.Ytldmidoemcdaaaa.ChSame Go.Proofs.Ytldmidoemcdaaaa.ChFn Go.Proofs.Ytldmidoemcdaaaa.ChFind Go.Proofs.Ytldmidoemcdaaaa.ChRef Go.Proofs.Ytldmidoemcdaaaa.ChRefFind

theorem gets_j0 (l : List V) (id : Int) (hl : l.length ≤ 21) (hw : ∀ v ∈ l, 0 ≤ v.f0) : Ev (fun k => cellarerlaw05_ChainGets.j0 k l id l (dropF l id).1 (dropF l id).2 (dropF l id).1 (dropF l id).2 (getF l).2 (getF l).2 (getF l).1.f0 (getF l).1.f1 (getF l).1.f2 (getF l).1.f3 (getF l).1.f0 (getF l).1.f1 (getF l).1.f2 (getF l).1.f3) true := by
  refine ev_succ ?_
  simp only [cellarerlaw05_ChainGets.j0]
  have hd : (dropF l id).1.length ≤ 1000 := by
    unfold dropF
    split
    · split
      · have := (List.filter_sublist (p := fun x : V => !(x.f0 == id)) (l := l)).length_le
        show (l.filter _).length ≤ 1000
        omega
      · simp
    · simp
  refine ev_bind (find_is l id) (ev_bind (find_ref l id (by omega) hw) (ev_bind (same_chain _ _ hd) ?_))
  rw [sameC_refl]
  refine ev_pos (by simp) (ev_pos (by simp) (ev_pos (by simp) (ev_pos (by simp) (ev_pos (by simp [tup]) (ev_pos (by simp [tup]) (ev_bind (same_chain l l (by omega)) ?_))))))
  rw [sameC_refl]
  exact ev_pos rfl (ev_is (x := true) rfl (ev_now _))

/-- ∀ (l0 : List (S25)) (a1 : Int), (l0.length ≤ maxLen ∧ ∀ y1_ ∈ l0, okS25 y1_) → (Lit.int .u64 a1).wf = true → ∃ k, cellarerlaw05_ChainGets.f k l0 a1 = some true -/
theorem ChainGets : cellarerlaw05_ChainGets.Pure := by
  intro l0 id hl0 _
  have hw0 : ∀ u ∈ l0, 0 ≤ u.f0 := fun u hu => (wf_u64 (hl0.2 u hu).1).1
  apply Ev.rounds
  unfold cellarerlaw05_ChainGets.f
  have hs := small_cutC l0 hw0
  have hid := cutC_id hs
  refine ev_bind (chain_few l0) ?_
  generalize cutC l0 = l at *
  have hl : l.length ≤ 21 := hs.many
  have hw : ∀ v ∈ l, 0 ≤ v.f0 := fun v hv => (hs.each v hv).id
  have hf := chain_few l
  rw [hid] at hf
  obtain ⟨r, hr, hrg⟩ := get_ref l (by omega) hw
  refine ev_bind hf (ev_bind (drop_is l id) (ev_bind (drop_ref l id (by omega) hw) (ev_bind (get_is l) (ev_bind hr (ev_bind (ref_check l (by omega) hw) ?_)))))
  cases hc : chainB l with
  | true =>
    obtain rfl := hrg hc
    exact ev_pos rfl (gets_j0 l id hl hw)
  | false =>
    have hg : getF l = (zV, 1) := by unfold getF atF; rw [hc, if_neg (by simp)]
    have := gets_j0 l id hl hw
    rw [hg] at this ⊢
    exact ev_neg (by simp) this
end Go.Proofs.Ytldmidoemcdaaaa.Pure
