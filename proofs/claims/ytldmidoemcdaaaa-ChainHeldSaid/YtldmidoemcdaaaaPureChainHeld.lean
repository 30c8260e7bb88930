/-
  THE PURE STATEMENT of ChainHeld: with Held one version of ID 0 is first; all others are as they were, in order.
-/
import Derived.Test.YtldmidoemcdaaaaPx14
import Derived.Test.YtldmidoemcdaaaaPxOpens
import Derived.Test.YtldmidoemcdaaaaChOrd
import Derived.Test.YtldmidoemcdaaaaChFew
import Derived.Test.YtldmidoemcdaaaaChFn
namespace Go.Proofs.Ytldmidoemcdaaaa.Pure
open Go.RowKit Go.Proofs.Ytldmidoemcdaaaa Go.Proofs.Ytldmidoemcdaaaa.P Go.Proofs.YtldmidoemcdaaaaW.PrintWords Go.Proofs.YtldmidoemcdaaaaW.PrintLast Go.Proofs.YtldmidoemcdaaaaW.PrintMore Go.Proofs.Ytldmidoemcdaaaa.PureKit Go.Proofs.Ytldmidoemcdaaaa.ChSpec Go.Proofs.Ytldmidoemcdaaaa.ChFew Go.Proofs.Ytldmidoemcdaaaa.ChOrd Go.Proofs.Ytldmidoemcdaaaa.ChFn

theorem held_loop (l : List V) (x : V) (hl : l.length ≤ 1000) : ∀ (rest pre : List V), l = pre ++ rest →
    Ev (fun k => cellarerlaw05_ChainHeld.l0 k l (x :: withoutL l 0) ((1 + (withoutL pre 0).length : Nat) : Int) (pre.length : Int)) true
  | [], pre, h => by
    refine ev_succ ?_
    simp only [cellarerlaw05_ChainHeld.l0]
    have hp : pre = l := by simpa using h.symm
    subst hp
    refine ev_neg (by simp) (ev_pos (by simp; omega) (ev_is (x := true) rfl (ev_now _)))
  | v :: rest, pre, h => by
    have hlen : l.length = pre.length + rest.length + 1 := by rw [h]; simp; omega
    have hsub : (withoutL pre 0).length ≤ pre.length := (without_sub pre 0).length_le
    have ih := held_loop l x hl rest (pre ++ [v]) (by simp [h])
    rw [show (((pre ++ [v]).length : Nat) : Int) = (pre.length : Int) + 1 by simp] at ih
    refine ev_succ ?_
    simp only [cellarerlaw05_ChainHeld.l0, rd50 h]
    refine ev_pos (by omega) (ev_pos (by omega) ?_)
    by_cases h0 : v.f0 = 0
    · have e : withoutL (pre ++ [v]) 0 = withoutL pre 0 := by unfold withoutL; rw [List.filter_append, List.filter_cons_of_neg (by simp [h0])]; simp
      rw [e] at ih
      refine ev_pos h0 ?_
      rw [wrap_id (by omega) (by omega)]
      exact ih
    · have e : withoutL (pre ++ [v]) 0 = withoutL pre 0 ++ [v] := by unfold withoutL; rw [List.filter_append, List.filter_cons_of_pos (by simp [h0])]; simp
      rw [e] at ih
      have hw : x :: withoutL l 0 = (x :: withoutL pre 0) ++ v :: withoutL rest 0 := by
        rw [h]
        unfold withoutL
        rw [List.filter_append, List.filter_cons_of_pos (by simp [h0])]
        simp
      have hr : rd_T25 (x :: withoutL l 0) ((1 + (withoutL pre 0).length : Nat) : Int) = v := by
        have := rd50 hw
        rw [show ((x :: withoutL pre 0).length) = 1 + (withoutL pre 0).length by simp; omega] at this
        exact this
      have hlt : 1 + (withoutL pre 0).length < (x :: withoutL l 0).length := by rw [hw]; simp; omega
      rw [hr]
      refine ev_neg h0 (ev_neg (by omega) (ev_pos (by omega) (ev_pos (by omega) (ev_neg (by simp) ?_))))
      rw [wrap_id (x := (pre.length : Int) + 1) (by omega) (by omega), wrap_id (x := ((1 + (withoutL pre 0).length : Nat) : Int) + 1) (by omega) (by omega)]
      rw [show (((1 + (withoutL pre 0 ++ [v]).length : Nat) : Int)) = ((1 + (withoutL pre 0).length : Nat) : Int) + 1 by simp; omega] at ih
      exact ih

/-- ∀ (l0 : List (S25)) (a1_0 : Int) (a1_1 : ByteArray) (a1_2 : Bool) (a1_3 : Int), (l0.length ≤ maxLen ∧ ∀ y1_ ∈ l0, okS25 y1_) → okS25 (⟨a1_0, a1_1, a1_2, a1_3⟩ : S25) → ∃ k, cellarerlaw05_ChainHeld.f k l0 a1_0 a1_1 a1_2 a1_3 = some true -/
theorem ChainHeld : cellarerlaw05_ChainHeld.Pure := by
  intro l0 v0 v1 v2 v3 hl0 hv
  have hw0 : ∀ u ∈ l0, 0 ≤ u.f0 := fun u hu => (wf_u64 (hl0.2 u hu).1).1
  apply Ev.rounds
  unfold cellarerlaw05_ChainHeld.f
  have hs := small_cutC l0 hw0
  refine ev_bind (chain_few l0) (ev_is (one_is ⟨v0, v1, v2, v3⟩) ?_)
  have hl : (cutC l0).length ≤ 21 := hs.many
  refine ev_is (put_is (cutC l0) 2 (cutV ⟨v0, v1, v2, v3⟩) (by decide)) ?_
  show Ev (fun k => if (putF (cutC l0) 2 (cutV ⟨v0, v1, v2, v3⟩)).2 = 0 then (if ((putF (cutC l0) 2 (cutV ⟨v0, v1, v2, v3⟩)).1.length : Int) = 0 then cellarerlaw05_ChainHeld.j0 k (cutC l0) (putF (cutC l0) 2 (cutV ⟨v0, v1, v2, v3⟩)).1 true else (if 0 < ((putF (cutC l0) 2 (cutV ⟨v0, v1, v2, v3⟩)).1.length : Int) then cellarerlaw05_ChainHeld.j0 k (cutC l0) (putF (cutC l0) 2 (cutV ⟨v0, v1, v2, v3⟩)).1 (!((rd_T25 (putF (cutC l0) 2 (cutV ⟨v0, v1, v2, v3⟩)).1 0).f0 == 0) || (!((rd_T25 (putF (cutC l0) 2 (cutV ⟨v0, v1, v2, v3⟩)).1 0).f1.toList == (cutV ⟨v0, v1, v2, v3⟩).f1.toList) || (!((rd_T25 (putF (cutC l0) 2 (cutV ⟨v0, v1, v2, v3⟩)).1 0).f2 == (cutV ⟨v0, v1, v2, v3⟩).f2) || (!((rd_T25 (putF (cutC l0) 2 (cutV ⟨v0, v1, v2, v3⟩)).1 0).f3 == (cutV ⟨v0, v1, v2, v3⟩).f3))))) else none)) else (if ((putF (cutC l0) 2 (cutV ⟨v0, v1, v2, v3⟩)).1.length : Int) = 0 then cellarerlaw05_awake.f.bind fun t262 => some t262 else some false)) true
  generalize cutV ⟨v0, v1, v2, v3⟩ = v
  generalize cutC l0 = l at *
  by_cases h : (putF l 2 v).2 = 0
  · obtain ⟨_, _, _, _, _, _, e⟩ := put_good h
    have e2 : (putF l 2 v).1 = { v with f0 := 0 } :: withoutL l 0 := by rw [e]; rfl
    rw [e2]
    refine ev_pos h (ev_neg (by simp; try omega) (ev_pos (by simp; try omega) ?_))
    refine ev_succ ?_
    simp only [cellarerlaw05_ChainHeld.j0]
    refine ev_neg (by simp [rd_T25]) ?_
    exact held_loop l { v with f0 := 0 } (by omega) l [] rfl
  · rw [put_bad h]
    exact ev_neg h (ev_pos rfl (ev_is (x := true) rfl (ev_now _)))
end Go.Proofs.Ytldmidoemcdaaaa.Pure
