/-
  THE PURE STATEMENT of ChainTurns: two versions are taken away either way round; what is taken away is there no more; what was put is taken away again, and all is as it was.
-/
import Derived.Test.YtldmidoemcdaaaaPx18
import Derived.Test.YtldmidoemcdaaaaPxOpens
import Derived.Test.YtldmidoemcdaaaaChOrd
import Derived.Test.YtldmidoemcdaaaaChSame
import Derived.Test.YtldmidoemcdaaaaChFind
namespace Go.Proofs.Ytldmidoemcdaaaa.Pure
open Go.RowKit Go.Proofs.Ytldmidoemcdaaaa Go.Proofs.Ytldmidoemcdaaaa.P Go.Proofs.YtldmidoemcdaaaaW.PrintWords Go.Proofs.YtldmidoemcdaaaaW.PrintLast Go.Proofs.YtldmidoemcdaaaaW.PrintMore Go.Proofs.Ytldmidoemcdaaaa.PureKit Go.Proofs.Ytldmidoemcdaaaa.ChSpec Go.Proofs.Ytldmidoemcdaaaa.ChFew Go.Proofs.Ytldmidoemcdaaaa.ChSame Go.Proofs.Ytldmidoemcdaaaa.ChOrd Go.Proofs.Ytldmidoemcdaaaa.ChFn Go.Proofs.Ytldmidoemcdaaaa.ChFind

theorem drop_ok {l : List V} {a : Int} (h : (dropF l a).2 = 0) : chainB l = true ∧ l.any (fun x => x.f0 == a) = true ∧ dropF l a = (withoutL l a, 0) := by
  unfold dropF at h ⊢
  by_cases hc : chainB l = true
  · rw [if_pos hc] at h ⊢
    by_cases ha : l.any (fun x => x.f0 == a) = true
    · rw [if_pos ha]
      exact ⟨hc, ha, rfl⟩
    · rw [if_neg ha] at h
      exact absurd h (by decide)
  · rw [if_neg hc] at h
    exact absurd h (by decide)
theorem drop_is_ok {l : List V} {a : Int} (hc : chainB l = true) (ha : l.any (fun x => x.f0 == a) = true) : dropF l a = (withoutL l a, 0) := by
  unfold dropF
  rw [if_pos hc, if_pos ha]
theorem turns_j3 (l : List V) (v : V) (hw : ∀ u ∈ l, 0 ≤ u.f0) (hl : l.length ≤ 21) (hv : 0 ≤ v.f0) : Ev (fun k => cellarerlaw05_ChainTurns.j3 k l false v.f0 v.f1 v.f2 v.f3) true := by
  refine ev_succ ?_
  simp only [cellarerlaw05_ChainTurns.j3]
  refine ev_neg (by simp) (ev_is (put_is l 1 v (by decide)) ?_)
  by_cases h : (putF l 1 v).2 = 0
  · obtain ⟨h0, h1, h2⟩ := put_ahead h
    obtain ⟨g1, g2, g3, g4, g5, g6, g7⟩ := put_good h
    have hlen : l.length + 1 ≤ 20 := by
      rw [g7] at h2
      have := congrArg (fun r => r.1.length) h2
      simp at this
      omega
    have hc : chainB (v :: l) = true := chain_ahead hw hv g1 g3 g4 hlen (fun u hu => by have := h1 u hu; have := hw u hu; omega)
    have hd : dropF (v :: l) v.f0 = (l, 0) := by
      rw [drop_is_ok hc (by simp)]
      unfold withoutL
      rw [List.filter_cons_of_neg (by simp)]
      rw [show (l.filter fun x => !(x.f0 == v.f0)) = l from without_id (fun x hx => by have := h1 x hx; omega)]
    rw [h2]
    refine ev_pos rfl (ev_bind (drop_is (v :: l) v.f0) ?_)
    rw [hd]
    refine ev_bind (same_chain l l (by omega)) ?_
    rw [sameC_refl]
    exact ev_pos rfl (ev_pos rfl (ev_is (x := true) rfl (ev_now _)))
  · exact ev_neg h (ev_is (x := true) rfl (ev_now _))
theorem turns_j2 (l : List V) (a : Int) (v : V) (hw : ∀ u ∈ l, 0 ≤ u.f0) (hl : l.length ≤ 21) (hv : 0 ≤ v.f0) : Ev (fun k => cellarerlaw05_ChainTurns.j2 k l a (dropF l a).1 (dropF l a).2 v.f0 v.f1 v.f2 v.f3) true := by
  refine ev_succ ?_
  simp only [cellarerlaw05_ChainTurns.j2]
  refine ev_bind (find_is (dropF l a).1 a) ?_
  by_cases h : (dropF l a).2 = 0
  · obtain ⟨h1, h2, h3⟩ := drop_ok h
    have hf : (tup (findF (dropF l a).1 a)).2.2.2.2 = 4 := by
      rw [h3]
      unfold findF atF tup
      rw [if_pos (chain_sub hw (without_sub l a) h1), find_without]
    refine ev_pos h ?_
    rw [hf]
    exact turns_j3 l v hw hl hv
  · exact ev_neg h (turns_j3 l v hw hl hv)

/-- ∀ (l0_0 : List (S25)) (a0_1 : Int) (a0_2 : Int) (a0_3 : Int) (a0_4 : ByteArray) (a0_5 : Bool) (a0_6 : Int), okS56 (⟨l0_0, a0_1, a0_2, (⟨a0_3, a0_4, a0_5, a0_6⟩ : S25)⟩ : S56) → ∃ k, cellarerlaw05_ChainTurns.f k l0_0 a0_1 a0_2 a0_3 a0_4 a0_5 a0_6 = some true -/
theorem ChainTurns : cellarerlaw05_ChainTurns.Pure := by
  intro l0 a b v0 v1 v2 v3 ok
  obtain ⟨⟨_, hl0⟩, _, _, hv⟩ := ok
  have hw0 : ∀ u ∈ l0, 0 ≤ u.f0 := fun u hu => (wf_u64 (hl0 u hu).1).1
  apply Ev.rounds
  unfold cellarerlaw05_ChainTurns.f
  have hs := small_cutC l0 hw0
  refine ev_bind (chain_few l0) (ev_is (one_is ⟨v0, v1, v2, v3⟩) ?_)
  have hw : ∀ u ∈ cutC l0, 0 ≤ u.f0 := fun u hu => (hs.each u hu).id
  have hl : (cutC l0).length ≤ 21 := hs.many
  have hv0 : 0 ≤ (cutV ⟨v0, v1, v2, v3⟩).f0 := (wf_u64 hv.1).1
  show Ev (fun k => (chain_Drop.f k (cutC l0) a).bind fun bt340 => (chain_Drop.f k (cutC l0) b).bind fun bt344 =>
    if bt340.2 = 0 then (if bt344.2 = 0 then cellarerlaw05_ChainTurns.j0 k (cutC l0) a b bt340.1 bt340.2 bt344.1 (a != b) (cutV ⟨v0, v1, v2, v3⟩).f0 (cutV ⟨v0, v1, v2, v3⟩).f1 (cutV ⟨v0, v1, v2, v3⟩).f2 (cutV ⟨v0, v1, v2, v3⟩).f3 else cellarerlaw05_ChainTurns.j0 k (cutC l0) a b bt340.1 bt340.2 bt344.1 false (cutV ⟨v0, v1, v2, v3⟩).f0 (cutV ⟨v0, v1, v2, v3⟩).f1 (cutV ⟨v0, v1, v2, v3⟩).f2 (cutV ⟨v0, v1, v2, v3⟩).f3)
    else cellarerlaw05_ChainTurns.j0 k (cutC l0) a b bt340.1 bt340.2 bt344.1 false (cutV ⟨v0, v1, v2, v3⟩).f0 (cutV ⟨v0, v1, v2, v3⟩).f1 (cutV ⟨v0, v1, v2, v3⟩).f2 (cutV ⟨v0, v1, v2, v3⟩).f3) true
  generalize cutV ⟨v0, v1, v2, v3⟩ = v at *
  generalize cutC l0 = l at *
  refine ev_bind (drop_is l a) (ev_bind (drop_is l b) ?_)
  have no : Ev (fun k => cellarerlaw05_ChainTurns.j0 k l a b (dropF l a).1 (dropF l a).2 (dropF l b).1 false v.f0 v.f1 v.f2 v.f3) true := by
    refine ev_succ ?_
    simp only [cellarerlaw05_ChainTurns.j0]
    exact ev_neg (by simp) (turns_j2 l a v hw hl hv0)
  by_cases ha : (dropF l a).2 = 0
  · refine ev_pos ha ?_
    by_cases hb : (dropF l b).2 = 0
    · refine ev_pos hb ?_
      by_cases hab : a = b
      · rw [show (a != b) = false by simpa using hab]
        exact no
      · rw [show (a != b) = true by simpa using hab]
        obtain ⟨hc, haa, ea⟩ := drop_ok ha
        obtain ⟨_, hbb, eb⟩ := drop_ok hb
        refine ev_succ ?_
        simp only [cellarerlaw05_ChainTurns.j0]
        refine ev_pos (by simp) (ev_bind (drop_is _ b) (ev_bind (drop_is _ a) ?_))
        have e1 : dropF (dropF l a).1 b = (withoutL (withoutL l a) b, 0) := by
          rw [ea]
          exact drop_is_ok (chain_sub hw (without_sub l a) hc) (by rw [any_without hab]; exact hbb)
        have e2 : dropF (dropF l b).1 a = (withoutL (withoutL l a) b, 0) := by
          rw [eb, without_comm]
          exact drop_is_ok (chain_sub hw (without_sub l b) hc) (by rw [any_without (Ne.symm hab)]; exact haa)
        rw [e1, e2]
        have hlen := ((without_sub (withoutL l a) b).trans (without_sub l a)).length_le
        refine ev_pos rfl (ev_pos rfl (ev_bind (same_chain (withoutL (withoutL l a) b) (withoutL (withoutL l a) b) (by omega)) ?_))
        rw [sameC_refl]
        refine ev_succ ?_
        simp only [cellarerlaw05_ChainTurns.j1]
        exact ev_neg (by simp) (turns_j2 l a v hw hl hv0)
    · exact ev_neg hb no
  · exact ev_neg ha no
end Go.Proofs.Ytldmidoemcdaaaa.Pure
