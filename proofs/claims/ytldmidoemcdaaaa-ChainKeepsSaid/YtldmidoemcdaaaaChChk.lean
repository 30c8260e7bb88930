/-
  layer 5: WHAT chain.Check (AS PRINTED) COMPUTES, in ChSpec's words.
-/
import Derived.Test.YtldmidoemcdaaaaPx2
import Derived.Test.YtldmidoemcdaaaaChSpec
namespace Go.Proofs.Ytldmidoemcdaaaa.ChChk
open Go.RowKit Go.Proofs.Ytldmidoemcdaaaa.P Go.Proofs.YtldmidoemcdaaaaW.PrintWords Go.Proofs.YtldmidoemcdaaaaW.PrintLast Go.Proofs.YtldmidoemcdaaaaW.PrintMore Go.Proofs.Ytldmidoemcdaaaa.PureKit Go.Proofs.Ytldmidoemcdaaaa.ChSpec

theorem may_is (v : V) : chain_may.f v.f0 v.f1 v.f2 v.f3 = some (mayB v) := by
  unfold chain_may.f mayB
  by_cases h0 : v.f0 ≤ 281474976710655 <;> by_cases h1 : (v.f1.size : Int) ≤ 2000 <;> cases h2 : v.f2 <;> by_cases h3 : v.f1.toList = [] <;> by_cases h4 : 0 ≤ v.f3 <;> simp [h0, h1, h3, h4]
theorem contains_is (l : List V) : contains_Check_1.f l () = some (!l.all mayB) := by
  have e : ∀ v : V, chain_Check_1.f v.f0 v.f1 v.f2 v.f3 = some (!mayB v) := fun v => by unfold chain_Check_1.f; rw [may_is]; rfl
  unfold contains_Check_1.f
  simp only [e, Option.isSome_some, Option.getD_some]
  rw [if_pos (by simp)]
  congr 1
  induction l with
  | nil => rfl
  | cons v r ih => simp [ih]

theorem good_loop (l : List V) (hl : l.length ≤ 1000) : ∀ (rest pre : List V) (last : Int) (null : Bool), l = pre ++ rest →
    Ev (fun k => chain_Check.l0 k l last null l (l.length : Int) (pre.length : Int)) (if good last null pre.getLast? rest = true then 0 else 1)
  | [], pre, last, null, h => by
    refine ev_succ ?_
    simp only [chain_Check.l0]
    refine ev_neg (by rw [h]; simp) ?_
    exact ev_now _
  | v :: rest, pre, last, null, h => by
    have hlen : l.length = pre.length + rest.length + 1 := by rw [h]; simp; omega
    have hn : ∀ last' null', Ev (fun k => chain_Check.l0 k l last' null' l (l.length : Int) (wrap64 ((pre.length : Int) + 1))) (if good last' null' (some v) rest = true then 0 else 1) := by
      intro last' null'
      have := good_loop l hl rest (pre ++ [v]) last' null' (by simp [h])
      rw [wrap_id (by omega) (by omega)]
      simpa using this
    have tail : ∀ b : Bool, (b = true → good last null pre.getLast? (v :: rest) = false) → (b = false → good last null pre.getLast? (v :: rest) = if v.f0 = 0 then good last true (some v) rest else good v.f0 null (some v) rest) →
        Ev (fun k => chain_Check.j3 k l last null l (l.length : Int) (pre.length : Int) b v.f0 v.f1 v.f2 v.f3) (if good last null pre.getLast? (v :: rest) = true then 0 else 1) := by
      intro b h1 h2
      refine ev_succ ?_
      simp only [chain_Check.j3]
      cases b with
      | true =>
        rw [h1 rfl]
        exact ev_pos rfl (ev_now _)
      | false =>
        rw [h2 rfl]
        refine ev_neg (by simp) ?_
        by_cases h0 : v.f0 = 0
        · rw [if_pos h0]
          exact ev_pos h0 (hn _ _)
        · rw [if_neg h0]
          exact ev_neg h0 (hn _ _)
    have mid : ∀ b : Bool, b = later pre.getLast? v →
        Ev (fun k => chain_Check.j2 k l last null l (l.length : Int) (pre.length : Int) b v.f0 v.f1 v.f2 v.f3) (if good last null pre.getLast? (v :: rest) = true then 0 else 1) := by
      intro b hb
      refine ev_succ ?_
      simp only [chain_Check.j2]
      cases b with
      | true =>
        refine ev_pos rfl (tail true (fun _ => ?_) (fun h => by cases h))
        rw [good_cons]
        exact if_pos hb.symm
      | false =>
        have hb' : ¬ later pre.getLast? v = true := by rw [← hb]; simp
        refine ev_neg (by simp) ?_
        by_cases h0 : v.f0 = 0
        · refine ev_pos h0 ?_
          cases null with
          | true =>
            refine ev_pos rfl (tail true (fun _ => ?_) (fun h => by cases h))
            rw [good_cons, if_neg hb', if_pos h0]
            simp
          | false =>
            refine ev_neg (by simp) (tail _ (fun hx => ?_) (fun hx => ?_))
            · rw [good_cons, if_neg hb', if_pos h0, if_neg (by simp), if_pos (by simpa using hx)]
            · rw [good_cons, if_neg hb', if_pos h0, if_neg (by simp), if_neg (by simpa using hx), if_pos h0]
        · refine ev_neg h0 (tail _ (fun hx => ?_) (fun hx => ?_))
          · rw [good_cons, if_neg hb', if_neg h0, if_pos (by simpa using hx)]
          · rw [good_cons, if_neg hb', if_neg h0, if_neg (by simpa using hx), if_neg h0]
    refine ev_succ ?_
    simp only [chain_Check.l0, rd50 h]
    refine ev_pos (by omega) (ev_pos (by omega) (ev_pos (by omega) ?_))
    rcases snoc_cases pre with rfl | ⟨pre', u, rfl⟩
    · refine ev_neg (by simp) ?_
      exact mid false rfl
    · have hp : (pre' ++ [u]).length = pre'.length + 1 := by simp
      have hw : wrap64 (((pre' ++ [u]).length : Int) - 1) = (pre'.length : Int) := by rw [wrap_id (by omega) (by omega)]; omega
      have hr : rd_T25 l (pre'.length : Int) = u := rd50 (rest := v :: rest) (by simp [h])
      rw [hw, hr]
      refine ev_pos (by omega) (ev_pos (by omega) (ev_pos (by omega) ?_))
      exact mid _ (by simp [later])

theorem check_is (l : List V) : Ev (fun k => chain_Check.f k l) (if chainB l = true then 0 else 1) := by
  unfold chain_Check.f chainB
  by_cases hl : l.length ≤ 20
  · refine ev_neg (by omega) (ev_is (contains_is l) ?_)
    refine ev_succ ?_
    simp only [chain_Check.j0]
    cases ha : l.all mayB with
    | false => exact ev_pos rfl (by simpa [hl] using ev_now _)
    | true =>
      refine ev_neg (by simp) ?_
      have := good_loop l (by omega) l [] 281474976710656 false rfl
      rw [show (decide (l.length ≤ 20) && true && good 281474976710656 false none l) = good 281474976710656 false none l by simp [hl]]
      exact this
  · refine ev_pos (by omega) (ev_succ ?_)
    simp only [chain_Check.j0]
    simpa [hl] using ev_now _
end Go.Proofs.Ytldmidoemcdaaaa.ChChk
