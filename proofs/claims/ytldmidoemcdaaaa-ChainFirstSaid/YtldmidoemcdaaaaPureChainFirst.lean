/-
  THE PURE STATEMENT of ChainFirst: what is got is the first version, or a Mark that is; each one is found by its ID; one of another ID is not there.
-/
import Derived.Test.YtldmidoemcdaaaaPx19
import Derived.Test.YtldmidoemcdaaaaPxOpens
import Derived.Test.YtldmidoemcdaaaaChOrd
import Derived.Test.YtldmidoemcdaaaaChFew
import Derived.Test.YtldmidoemcdaaaaChFind
namespace Go.Proofs.Ytldmidoemcdaaaa.Pure
open Go.RowKit Go.Proofs.Ytldmidoemcdaaaa Go.Proofs.Ytldmidoemcdaaaa.P Go.Proofs.YtldmidoemcdaaaaW.PrintWords Go.Proofs.YtldmidoemcdaaaaW.PrintLast Go.Proofs.YtldmidoemcdaaaaW.PrintMore Go.Proofs.Ytldmidoemcdaaaa.PureKit Go.Proofs.Ytldmidoemcdaaaa.ChSpec Go.Proofs.Ytldmidoemcdaaaa.ChFew Go.Proofs.Ytldmidoemcdaaaa.ChOrd Go.Proofs.Ytldmidoemcdaaaa.ChFn Go.Proofs.Ytldmidoemcdaaaa.ChChk Go.Proofs.Ytldmidoemcdaaaa.ChFind

theorem first_j2 (l : List V) (id : Int) (hc : chainB l = true) : Ev (fun k => cellarerlaw05_ChainFirst.j2 k l id (l.any fun x => x.f0 == id) false) true := by
  refine ev_succ ?_
  simp only [cellarerlaw05_ChainFirst.j2]
  refine ev_neg (by simp) (ev_bind (find_is l id) ?_)
  refine ev_pos ?_ (ev_is (x := true) rfl (ev_now _))
  unfold findF atF tup
  rw [if_pos hc]
  cases hf : l.find? (fun x => x.f0 == id) with
  | none =>
    have : l.any (fun x => x.f0 == id) = false := by
      rw [List.find?_eq_none] at hf
      rw [List.any_eq_false]
      exact hf
    rw [this]
    rfl
  | some v =>
    have : l.any (fun x => x.f0 == id) = true := List.any_eq_true.2 ⟨v, List.mem_of_find?_eq_some hf, List.find?_some (p := fun x : V => x.f0 == id) hf⟩
    rw [this]
    by_cases hm : v.f2 = true
    · simp [hm]
    · simp [hm]
theorem first_loop (l : List V) (id : Int) (hl : l.length ≤ 1000) (hc : chainB l = true) (hp : l.Pairwise Ord) : ∀ (rest pre : List V), l = pre ++ rest →
    Ev (fun k => cellarerlaw05_ChainFirst.l0 k l id (pre.any fun x => x.f0 == id) (pre.length : Int)) true
  | [], pre, h => by
    have e : pre = l := by simpa using h.symm
    subst e
    refine ev_succ ?_
    simp only [cellarerlaw05_ChainFirst.l0]
    refine ev_neg (by simp) (ev_bind (get_is pre) ?_)
    have hj := first_j2 pre id hc
    cases pre with
    | nil => exact ev_pos rfl (ev_pos rfl (ev_neg (by simp) hj))
    | cons v r =>
      refine ev_neg (by simp; try omega) (ev_pos (by simp; try omega) (ev_pos (by simp; try omega) ?_))
      have hg : tup (getF (v :: r)) = (v.f0, v.f1, v.f2, v.f3, if v.f2 = true then 13 else 0) := by
        unfold getF atF tup
        rw [if_pos hc]
        rfl
      rw [hg]
      have hr : rd_T25 (v :: r) 0 = v := rfl
      rw [hr]
      simpa using hj
  | v :: rest, pre, h => by
    have hlen : l.length = pre.length + rest.length + 1 := by rw [h]; simp; omega
    have ih := first_loop l id hl hc hp rest (pre ++ [v]) (by simp [h])
    rw [show (((pre ++ [v]).length : Nat) : Int) = (pre.length : Int) + 1 by simp] at ih
    rw [show (pre ++ [v]).any (fun x => x.f0 == id) = (pre.any (fun x => x.f0 == id) || (v.f0 == id)) by simp] at ih
    have hj : Ev (fun k => cellarerlaw05_ChainFirst.j1 k l id (pre.any fun x => x.f0 == id) (pre.length : Int) false) true := by
      refine ev_succ ?_
      simp only [cellarerlaw05_ChainFirst.j1, rd50 h]
      rw [wrap_id (by omega) (by omega)]
      refine ev_neg (by simp) ?_
      cases ha : pre.any (fun x => x.f0 == id) with
      | true =>
        rw [ha] at ih
        exact ev_pos rfl (by simpa using ih)
      | false =>
        rw [ha] at ih
        exact ev_neg (by simp) (ev_pos (by omega) (ev_pos (by omega) (by simpa using ih)))
    refine ev_succ ?_
    simp only [cellarerlaw05_ChainFirst.l0, rd50 h]
    refine ev_pos (by omega) (ev_pos (by omega) (ev_bind (find_is l v.f0) ?_))
    have hf : tup (findF l v.f0) = (v.f0, v.f1, v.f2, v.f3, if v.f2 = true then 13 else 0) := by
      unfold findF atF tup
      rw [if_pos hc, find_self hp h]
    rw [hf]
    refine ev_neg (by simp) ?_
    cases hm : v.f2 with
    | true => exact ev_neg (by simp) (ev_neg (by simp) hj)
    | false => exact ev_neg (by simp) (ev_pos (by simp) hj)

/-- ∀ (l0 : List (S25)) (a1 : Int), (l0.length ≤ maxLen ∧ ∀ y1_ ∈ l0, okS25 y1_) → (Lit.int .u64 a1).wf = true → ∃ k, cellarerlaw05_ChainFirst.f k l0 a1 = some true -/
theorem ChainFirst : cellarerlaw05_ChainFirst.Pure := by
  intro l0 id hl0 _
  have hw0 : ∀ u ∈ l0, 0 ≤ u.f0 := fun u hu => (wf_u64 (hl0.2 u hu).1).1
  apply Ev.rounds
  unfold cellarerlaw05_ChainFirst.f
  have hs := small_cutC l0 hw0
  refine ev_bind (chain_few l0) ?_
  generalize cutC l0 = l at *
  have hl : l.length ≤ 21 := hs.many
  have hw : ∀ v ∈ l, 0 ≤ v.f0 := fun v hv => (hs.each v hv).id
  refine ev_bind (check_is l) ?_
  by_cases hc : chainB l = true
  · rw [if_pos hc]
    exact ev_pos rfl (first_loop l id (by omega) hc ((chain_iff hw).1 hc).2.2 l [] rfl)
  · rw [if_neg hc]
    exact ev_neg (by decide) (ev_is (x := true) rfl (ev_now _))
end Go.Proofs.Ytldmidoemcdaaaa.Pure
