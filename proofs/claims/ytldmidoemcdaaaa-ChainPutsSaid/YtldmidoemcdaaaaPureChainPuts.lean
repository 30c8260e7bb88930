/-
  THE PURE STATEMENT of ChainPuts: whatever version is laid at any chain, or deleted, by any state, the chain then is the document's, or it is refused with its error; what was handed in stays.
-/
import Derived.Test.YtldmidoemcdaaaaPx12
import Derived.Test.YtldmidoemcdaaaaPxOpens
import Derived.Test.YtldmidoemcdaaaaChSame
import Derived.Test.YtldmidoemcdaaaaChFn
import Derived.Test.YtldmidoemcdaaaaChRef
namespace Go.Proofs.Ytldmidoemcdaaaa.Pure
open Go.RowKit Go.Proofs.Ytldmidoemcdaaaa Go.Proofs.Ytldmidoemcdaaaa.P Go.Proofs.YtldmidoemcdaaaaW.PrintWords Go.Proofs.YtldmidoemcdaaaaW.PrintLast Go.Proofs.YtldmidoemcdaaaaW.PrintMore Go.Proofs.Ytldmidoemcdaaaa.PureKit Go.Proofs.Ytldmidoemcdaaaa.ChSpec Go.Proofs.Ytldmidoemcdaaaa.ChFew Go.Proofs.Ytldmidoemcdaaaa.ChSame Go.Proofs.Ytldmidoemcdaaaa.ChFn Go.Proofs.Ytldmidoemcdaaaa.ChOrd

theorem put_ref (l : List V) (s : Int) (x : V) (hl : l.length ≤ 1000) (hw : ∀ v ∈ l, 0 ≤ v.f0) : cellarerref05_Put.f l s x.f0 x.f1 x.f2 x.f3 = some (putF l s x) := by
  unfold cellarerref05_Put.f
  rw [if_pos ⟨hl, List.all_eq_true.2 (fun v hv => decide_eq_true (hw v hv))⟩]
theorem del_ref (l : List V) (s id t : Int) (hl : l.length ≤ 1000) (hw : ∀ v ∈ l, 0 ≤ v.f0) : Ev (fun k => cellarerref05_Delete.f k l s id t) (delF l s id t) := by
  unfold cellarerref05_Delete.f delF
  by_cases h0 : s = 0
  · rw [if_pos h0]
    refine ev_pos h0 (ev_bind (ChRef.drop_ref l 0 hl hw) (ev_now _))
  · rw [if_neg h0]
    refine ev_neg h0 ?_
    by_cases h2 : s = 2
    · rw [show (if s = 2 then (0 : Int) else id) = 0 from if_pos h2]
      exact ev_pos h2 (ev_is (put_ref l s ⟨0, ⟨#[]⟩, true, t⟩ hl hw) (ev_now _))
    · rw [show (if s = 2 then (0 : Int) else id) = id from if_neg h2]
      exact ev_neg h2 (ev_is (put_ref l s ⟨id, ⟨#[]⟩, true, t⟩ hl hw) (ev_now _))
theorem put_len (l : List V) (s : Int) (x : V) : (putF l s x).1.length ≤ 20 := by
  by_cases h : (putF l s x).2 = 0
  · obtain ⟨_, _, _, _, _, h6, h7⟩ := put_good h
    rw [h7]
    exact h6
  · rw [put_bad h]
    simp
theorem drop_len (l : List V) (id : Int) : (dropF l id).1.length ≤ l.length := by
  unfold dropF
  split
  · split
    · exact (without_sub l id).length_le
    · simp
  · simp

/-- ∀ (l0 : List (S25)) (a1 : Int) (a2_0 : Int) (a2_1 : ByteArray) (a2_2 : Bool) (a2_3 : Int), (l0.length ≤ maxLen ∧ ∀ y1_ ∈ l0, okS25 y1_) → (Lit.int .i64 a1).wf = true → okS25 (⟨a2_0, a2_1, a2_2, a2_3⟩ : S25) → ∃ k, cellarerlaw05_ChainPuts.f k l0 a1 a2_0 a2_1 a2_2 a2_3 = some true -/
theorem ChainPuts : cellarerlaw05_ChainPuts.Pure := by
  intro l0 s v0 v1 v2 v3 hl0 hs hv
  have hw0 : ∀ u ∈ l0, 0 ≤ u.f0 := fun u hu => (wf_u64 (hl0.2 u hu).1).1
  apply Ev.rounds
  unfold cellarerlaw05_ChainPuts.f
  have hsm := small_cutC l0 hw0
  have hid := cutC_id hsm
  refine ev_bind (chain_few l0) (ev_is (one_is ⟨v0, v1, v2, v3⟩) ?_)
  have hx0 : (cutV ⟨v0, v1, v2, v3⟩).f0 = v0 := rfl
  have hx2 : (cutV ⟨v0, v1, v2, v3⟩).f2 = v2 := rfl
  have hx3 : (cutV ⟨v0, v1, v2, v3⟩).f3 = v3 := rfl
  generalize cutV ⟨v0, v1, v2, v3⟩ = x at *
  generalize cutC l0 = l at *
  have hl : l.length ≤ 21 := hsm.many
  have hw : ∀ v ∈ l, 0 ≤ v.f0 := fun v hv => (hsm.each v hv).id
  have hf := chain_few l
  rw [hid] at hf
  have hp := put_is l s x hs
  have hq := put_ref l s x (by omega) hw
  rw [hx0, hx2, hx3] at hp hq
  refine ev_bind hf (ev_is hp (ev_is hq (ev_bind (del_is l s v0 v3 hs) (ev_bind (del_ref l s v0 v3 (by omega) hw) ?_))))
  have h1 := put_len l s x
  have h2 : (delF l s v0 v3).1.length ≤ 1000 := by
    unfold delF
    split
    · have := drop_len l 0
      omega
    · have := put_len l s ⟨if s = 2 then 0 else v0, ⟨#[]⟩, true, v3⟩
      omega
  refine ev_bind (same_chain (putF l s x).1 (putF l s x).1 (by omega)) ?_
  rw [sameC_refl]
  refine ev_pos rfl (ev_pos rfl (ev_bind (same_chain (delF l s v0 v3).1 (delF l s v0 v3).1 h2) ?_))
  rw [sameC_refl]
  refine ev_pos rfl (ev_pos rfl (ev_bind (ChChk.check_is l) (ev_bind (ChRef.ref_check l (by omega) hw) ?_)))
  refine ev_pos (by cases chainB l <;> rfl) (ev_bind (same_chain l l (by omega)) ?_)
  rw [sameC_refl]
  exact ev_pos rfl (ev_is (x := true) rfl (ev_now _))
end Go.Proofs.Ytldmidoemcdaaaa.Pure
