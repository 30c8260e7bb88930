/-
  layer 5: THE DOCUMENT's Check, without, Drop (AS PRINTED), in ChSpec's words.
-/
import Derived.Test.YtldmidoemcdaaaaPx4
import Derived.Test.YtldmidoemcdaaaaPx5
import Derived.Test.YtldmidoemcdaaaaChOrd
namespace Go.Proofs.Ytldmidoemcdaaaa.ChRef
open Go.RowKit Go.Proofs.Ytldmidoemcdaaaa.P Go.Proofs.YtldmidoemcdaaaaW.PrintWords Go.Proofs.YtldmidoemcdaaaaW.PrintLast Go.Proofs.YtldmidoemcdaaaaW.PrintMore Go.Proofs.Ytldmidoemcdaaaa.PureKit Go.Proofs.Ytldmidoemcdaaaa.ChSpec Go.Proofs.Ytldmidoemcdaaaa.ChOrd

/-! ### A chain -/
theorem may_is (v : V) : cellarerref05_May.f v.f0 v.f1 v.f2 v.f3 = some (mayB v) := by
  unfold cellarerref05_May.f mayB
  by_cases h0 : v.f0 ≤ 281474976710655 <;> by_cases h1 : (v.f1.size : Int) ≤ 2000 <;> cases h2 : v.f2 <;> by_cases h3 : v.f1.toList = [] <;> by_cases h4 : 0 ≤ v.f3 <;> simp [h0, h1, h3, h4]
theorem inner_loop (l : List V) (hl : l.length ≤ 1000) (v : V) (rest pre : List V) (h : l = pre ++ v :: rest) (r : Bool) (hn : Ev (fun k => cellarerref05_Check.l0 k l ((pre.length : Int) + 1)) r) :
    ∀ (b a : List V), pre = a ++ b → Ev (fun k => cellarerref05_Check.l1 k l (pre.length : Int) (a.length : Int)) (!(b.any (clash v)) && r)
  | [], a, hp => by
    have hlen : l.length = pre.length + rest.length + 1 := by rw [h]; simp; omega
    refine ev_succ ?_
    simp only [cellarerref05_Check.l1]
    refine ev_neg (by rw [hp]; simp) ?_
    rw [wrap_id (by omega) (by omega)]
    simpa using hn
  | u :: b, a, hp => by
    have hlen : l.length = pre.length + rest.length + 1 := by rw [h]; simp; omega
    have hpl : pre.length = a.length + b.length + 1 := by rw [hp]; simp; omega
    have ih := inner_loop l hl v rest pre h r hn b (a ++ [u]) (by simp [hp])
    rw [show (((a ++ [u]).length : Nat) : Int) = (a.length : Int) + 1 by simp] at ih
    have hu : rd_T25 l (a.length : Int) = u := rd50 (rest := b ++ v :: rest) (by rw [h, hp]; simp)
    have tail : ∀ c : Bool, c = clash v u → Ev (fun k => cellarerref05_Check.j3 k l (pre.length : Int) (a.length : Int) c) (!((u :: b).any (clash v)) && r) := by
      intro c hc
      refine ev_succ ?_
      simp only [cellarerref05_Check.j3]
      rw [List.any_cons, ← hc]
      cases c with
      | true => exact ev_pos rfl (ev_now _)
      | false =>
        refine ev_neg (by simp) ?_
        rw [wrap_id (by omega) (by omega)]
        simpa using ih
    refine ev_succ ?_
    simp only [cellarerref05_Check.l1, rd50 h, hu]
    refine ev_pos (by omega) (ev_pos (by omega) (ev_pos (by omega) ?_))
    by_cases h1 : v.f0 = 0
    · refine ev_pos h1 (ev_pos (by omega) (ev_pos (by omega) ?_))
      by_cases h2 : u.f0 = 0
      · exact ev_pos h2 (tail _ (by simp [clash, h1, h2]))
      · exact ev_neg h2 (tail _ (by simp [clash, h1, h2]))
    · refine ev_neg h1 (ev_pos (by omega) (ev_pos (by omega) ?_))
      by_cases h2 : u.f0 = 0
      · exact ev_pos h2 (tail _ (by simp [clash, h1, h2]))
      · exact ev_neg h2 (tail _ (by simp [clash, h1, h2]))
theorem chain_loop (l : List V) (hl : l.length ≤ 1000) : ∀ (rest pre : List V), l = pre ++ rest → Ev (fun k => cellarerref05_Check.l0 k l (pre.length : Int)) (refGood pre rest && decide (l.length ≤ 20))
  | [], pre, h => by
    refine ev_succ ?_
    simp only [cellarerref05_Check.l0]
    refine ev_neg (by rw [h]; simp) ?_
    rw [show decide ((l.length : Int) ≤ 20) = decide (l.length ≤ 20) by apply decide_eq_decide.2; omega]
    simpa [refGood] using ev_now _
  | v :: rest, pre, h => by
    have hlen : l.length = pre.length + rest.length + 1 := by rw [h]; simp; omega
    have hn := chain_loop l hl rest (pre ++ [v]) (by simp [h])
    rw [show (((pre ++ [v]).length : Nat) : Int) = (pre.length : Int) + 1 by simp] at hn
    have hin := inner_loop l hl v rest pre h _ hn pre [] rfl
    have tail : ∀ c : Bool, c = (!mayB v || later pre.getLast? v) → Ev (fun k => cellarerref05_Check.j1 k l (pre.length : Int) c) (refGood pre (v :: rest) && decide (l.length ≤ 20)) := by
      intro c hc
      refine ev_succ ?_
      simp only [cellarerref05_Check.j1]
      cases c with
      | true =>
        have : refGood pre (v :: rest) = false := by
          rw [refGood]
          cases hm : mayB v <;> cases hx : later pre.getLast? v <;> simp [hm, hx] at hc ⊢
        rw [this]
        exact ev_pos rfl (ev_now _)
      | false =>
        have : mayB v = true ∧ later pre.getLast? v = false := by cases hm : mayB v <;> cases hx : later pre.getLast? v <;> simp [hm, hx] at hc ⊢
        refine ev_neg (by simp) ?_
        rw [refGood, this.1, this.2]
        simpa [Bool.and_assoc] using hin
    refine ev_succ ?_
    simp only [cellarerref05_Check.l0, rd50 h]
    refine ev_pos (by omega) (ev_pos (by omega) (ev_is (may_is v) ?_))
    cases hm : mayB v with
    | false =>
      refine ev_neg (by simp) (tail true (by simp [hm]))
    | true =>
      refine ev_pos rfl ?_
      rcases snoc_cases pre with rfl | ⟨pre', u, rfl⟩
      · refine ev_neg (by simp) (tail false (by simp [hm, later]))
      · have hp : (pre' ++ [u]).length = pre'.length + 1 := by simp
        have hw : wrap64 (((pre' ++ [u]).length : Int) - 1) = (pre'.length : Int) := by rw [wrap_id (by omega) (by omega)]; omega
        have hr : rd_T25 l (pre'.length : Int) = u := rd50 (rest := v :: rest) (by simp [h])
        rw [hw, hr]
        refine ev_pos (by omega) (ev_pos (by omega) (ev_pos (by omega) ?_))
        exact tail _ (by simp [hm, later])
theorem ref_check (l : List V) (hl : l.length ≤ 1000) (hw : ∀ v ∈ l, 0 ≤ v.f0) : Ev (fun k => cellarerref05_Check.f k l) (chainB l) := by
  rw [← chain_eq l hw]
  exact chain_loop l hl l [] rfl
theorem without_loop (l : List V) (id : Int) (hl : l.length ≤ 1000) : ∀ (rest pre : List V), l = pre ++ rest →
    Ev (fun k => cellarerref05_without.l0 k l id (withoutL pre id) (pre.length : Int)) (withoutL l id)
  | [], pre, h => by
    refine ev_succ ?_
    simp only [cellarerref05_without.l0]
    have hp : pre = l := by simpa using h.symm
    subst hp
    exact ev_neg (by simp) (ev_now _)
  | v :: rest, pre, h => by
    have hlen : l.length = pre.length + rest.length + 1 := by rw [h]; simp; omega
    have hsub : (withoutL pre id).length ≤ pre.length := (without_sub pre id).length_le
    have ih := without_loop l id hl rest (pre ++ [v]) (by simp [h])
    rw [show (((pre ++ [v]).length : Nat) : Int) = (pre.length : Int) + 1 by simp] at ih
    refine ev_succ ?_
    simp only [cellarerref05_without.l0, rd50 h]
    refine ev_pos (by omega) (ev_pos (by omega) ?_)
    rw [wrap_id (by omega) (by omega)]
    by_cases h0 : v.f0 = id
    · have e : withoutL (pre ++ [v]) id = withoutL pre id := by unfold withoutL; rw [List.filter_append, List.filter_cons_of_neg (by simp [h0])]; simp
      rw [e] at ih
      exact ev_pos h0 ih
    · have e : withoutL (pre ++ [v]) id = withoutL pre id ++ [v] := by unfold withoutL; rw [List.filter_append, List.filter_cons_of_pos (by simp [h0])]; simp
      rw [e] at ih
      exact ev_neg h0 (ev_pos (by omega) ih)
theorem without_is (l : List V) (id : Int) (hl : l.length ≤ 1000) : Ev (fun k => cellarerref05_without.f k l id) (withoutL l id) := without_loop l id hl l [] rfl
theorem without_same (l : List V) (id : Int) : (withoutL l id).length = l.length ↔ l.any (fun x => x.f0 == id) = false := by
  unfold withoutL
  constructor
  · intro h
    rw [List.any_eq_false]
    intro x hx
    have := List.length_filter_eq_length_iff.1 h x hx
    simpa using this
  · intro h
    rw [List.any_eq_false] at h
    exact List.length_filter_eq_length_iff.2 (fun x hx => by simpa using h x hx)
theorem drop_ref (l : List V) (id : Int) (hl : l.length ≤ 1000) (hw : ∀ v ∈ l, 0 ≤ v.f0) : Ev (fun k => cellarerref05_Drop.f k l id) (dropF l id) := by
  unfold cellarerref05_Drop.f dropF
  refine ev_bind (ref_check l hl hw) ?_
  cases hc : chainB l with
  | false =>
    rw [if_neg (by simp)]
    exact ev_neg (by simp) (ev_now _)
  | true =>
    rw [if_pos rfl]
    refine ev_pos rfl (ev_bind (without_is l id hl) ?_)
    have hs := without_same l id
    cases ha : l.any (fun x => x.f0 == id) with
    | false =>
      have : (withoutL l id).length = l.length := hs.2 ha
      rw [show (if false = true then (withoutL l id, (0 : Int)) else ([], 4)) = ([], 4) from if_neg (by simp)]
      exact ev_pos (by omega) (ev_now _)
    | true =>
      have : (withoutL l id).length ≠ l.length := fun h => by rw [hs.1 h] at ha; cases ha
      rw [show (if true = true then (withoutL l id, (0 : Int)) else ([], 4)) = (withoutL l id, 0) from if_pos rfl]
      exact ev_neg (by omega) (ev_now _)
end Go.Proofs.Ytldmidoemcdaaaa.ChRef
