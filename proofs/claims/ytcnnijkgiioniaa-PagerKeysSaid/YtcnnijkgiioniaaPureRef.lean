/-
  THE DOCUMENT's FUNCTIONS OF LAYERS 1, 5, 6 (AS PRINTED), and what cuts the arguments, in IdxSpec's words.
-/
import Derived.Test.YtcnnijkgiioniaaPx6
import Derived.Test.YtcnnijkgiioniaaPx2
import Derived.Test.YtcnnijkgiioniaaIdxLaws
import Derived.Test.YtcnnijkgiioniaaPureRd
namespace Go.Proofs.Ytcnnijkgiioniaa.PureRef
open Go.RowKit Go.Proofs.Ytcnnijkgiioniaa.P Go.Proofs.YtcnnijkgiioniaaW.PrintWords Go.Proofs.YtcnnijkgiioniaaW.PrintLast Go.Proofs.YtcnnijkgiioniaaW.PrintMore Go.Proofs.Ytcnnijkgiioniaa.PureKit Go.Proofs.Ytcnnijkgiioniaa.IdxSpec Go.Proofs.Ytcnnijkgiioniaa.IdxLaws Go.Proofs.Ytcnnijkgiioniaa.PureRd

/-! ### A key -/
theorem keys_loop (s : ByteArray) (hs : s.size ≤ 1000) : ∀ (rest pre : List Nat), oc s = pre ++ rest → Ev (fun k => cellarerref01_keys.l0 k s (pre.length : Int)) (rest.all Name.plainB)
  | [], pre, h => by
    have := size_split h
    refine ev_succ ?_
    simp only [cellarerref01_keys.l0]
    exact ev_neg (by simp at this; omega) (ev_now _)
  | x :: rest, pre, h => by
    have hz := size_split h
    simp only [List.length_append, List.length_cons] at hz
    have hn := keys_loop s hs rest (pre ++ [x]) (by simp [h])
    rw [show (((pre ++ [x]).length : Nat) : Int) = (pre.length : Int) + 1 by simp] at hn
    refine ev_succ ?_
    simp only [cellarerref01_keys.l0, bt_split h]
    refine ev_pos (by omega) (ev_pos (by omega) ?_)
    rw [wrap_id (by omega) (by omega)]
    by_cases h1 : (x : Int) < 32
    · refine ev_pos h1 ?_
      have : Name.plainB x = false := by simp [Name.plainB]; omega
      simpa [this] using ev_now _
    · refine ev_neg h1 ?_
      by_cases h2 : (x : Int) > 126
      · refine ev_pos h2 ?_
        have : Name.plainB x = false := by simp [Name.plainB]; omega
        simpa [this] using ev_now _
      · refine ev_neg h2 ?_
        have : Name.plainB x = true := by simp [Name.plainB]; omega
        simpa [this] using hn
theorem size_zero (s : ByteArray) : s.toList = [] ↔ s.size = 0 := by
  rw [ByteArray.toList_eq s]
  rw [← List.length_eq_zero_iff, Array.length_toList]
  rfl
theorem key_is (s : ByteArray) : Ev (fun k => cellarerref01_Key.f k s) (Name.keyB s) := by
  unfold cellarerref01_Key.f Name.keyB Name.isB
  by_cases h0 : s.toList = []
  · refine ev_pos h0 ?_
    rw [size_zero] at h0
    simpa [h0] using ev_now _
  · refine ev_neg h0 ?_
    have h0' : s.size ≠ 0 := fun h => h0 ((size_zero s).2 h)
    by_cases h1 : s.size ≤ 60
    · refine ev_pos (by omega) ?_
      have := keys_loop s (by omega) (oc s) [] rfl
      refine ev_bind (g := fun k => cellarerref01_keys.f k s) this ?_
      simpa [h1, show 1 ≤ s.size by omega] using ev_now _
    · refine ev_neg (by omega) ?_
      simpa [h1] using ev_now _

/-! ### A chain -/
theorem may_is (v : V) : cellarerref05_May.f v.f0 v.f1 v.f2 v.f3 = some (mayB v) := by
  unfold cellarerref05_May.f mayB
  by_cases h0 : v.f0 ≤ 281474976710655 <;> by_cases h1 : (v.f1.size : Int) ≤ 2000 <;> cases h2 : v.f2 <;> by_cases h3 : v.f1.toList = [] <;> by_cases h4 : 0 ≤ v.f3 <;> simp [h0, h1, h3, h4]
theorem inner_loop (l : List V) (hl : l.length ≤ 1000) (v : V) (rest pre : List V) (h : l = pre ++ v :: rest) (r : Bool) (hn : Ev (fun k => cellarerref05_Check.l0 k l ((pre.length : Int) + 1)) r) :
    ∀ (b a : List V), pre = a ++ b → Ev (fun k => cellarerref05_Check.l1 k l (pre.length : Int) (a.length : Int)) (!(b.any (clash v)) && r)
  | [], a, hp => by
    have hlen : l.length = pre.length + rest.length + 1 := by rw [h]; simp; omega
    refine ev_succ ?_
    simp only [cellarerref05_Check.l1]
    refine ev_neg (by rw [hp]; simp) ?_
    rw [wrap_id (by omega) (by omega)]
    simpa using hn
  | u :: b, a, hp => by
    have hlen : l.length = pre.length + rest.length + 1 := by rw [h]; simp; omega
    have hpl : pre.length = a.length + b.length + 1 := by rw [hp]; simp; omega
    have ih := inner_loop l hl v rest pre h r hn b (a ++ [u]) (by simp [hp])
    rw [show (((a ++ [u]).length : Nat) : Int) = (a.length : Int) + 1 by simp] at ih
    have hu : rd_T52 l (a.length : Int) = u := rd50 (rest := b ++ v :: rest) (by rw [h, hp]; simp)
    have tail : ∀ c : Bool, c = clash v u → Ev (fun k => cellarerref05_Check.j3 k l (pre.length : Int) (a.length : Int) c) (!((u :: b).any (clash v)) && r) := by
      intro c hc
      refine ev_succ ?_
      simp only [cellarerref05_Check.j3]
      rw [List.any_cons, ← hc]
      cases c with
      | true => exact ev_pos rfl (ev_now _)
      | false =>
        refine ev_neg (by simp) ?_
        rw [wrap_id (by omega) (by omega)]
        simpa using ih
    refine ev_succ ?_
    simp only [cellarerref05_Check.l1, rd50 h, hu]
    refine ev_pos (by omega) (ev_pos (by omega) (ev_pos (by omega) ?_))
    by_cases h1 : v.f0 = 0
    · refine ev_pos h1 (ev_pos (by omega) (ev_pos (by omega) ?_))
      by_cases h2 : u.f0 = 0
      · exact ev_pos h2 (tail _ (by simp [clash, h1, h2]))
      · exact ev_neg h2 (tail _ (by simp [clash, h1, h2]))
    · refine ev_neg h1 (ev_pos (by omega) (ev_pos (by omega) ?_))
      by_cases h2 : u.f0 = 0
      · exact ev_pos h2 (tail _ (by simp [clash, h1, h2]))
      · exact ev_neg h2 (tail _ (by simp [clash, h1, h2]))
theorem chain_loop (l : List V) (hl : l.length ≤ 1000) : ∀ (rest pre : List V), l = pre ++ rest → Ev (fun k => cellarerref05_Check.l0 k l (pre.length : Int)) (refGood pre rest && decide (l.length ≤ 20))
  | [], pre, h => by
    refine ev_succ ?_
    simp only [cellarerref05_Check.l0]
    refine ev_neg (by rw [h]; simp) ?_
    rw [show decide ((l.length : Int) ≤ 20) = decide (l.length ≤ 20) by apply decide_eq_decide.2; omega]
    simpa [refGood] using ev_now _
  | v :: rest, pre, h => by
    have hlen : l.length = pre.length + rest.length + 1 := by rw [h]; simp; omega
    have hn := chain_loop l hl rest (pre ++ [v]) (by simp [h])
    rw [show (((pre ++ [v]).length : Nat) : Int) = (pre.length : Int) + 1 by simp] at hn
    have hin := inner_loop l hl v rest pre h _ hn pre [] rfl
    have tail : ∀ c : Bool, c = (!mayB v || later pre.getLast? v) → Ev (fun k => cellarerref05_Check.j1 k l (pre.length : Int) c) (refGood pre (v :: rest) && decide (l.length ≤ 20)) := by
      intro c hc
      refine ev_succ ?_
      simp only [cellarerref05_Check.j1]
      cases c with
      | true =>
        have : refGood pre (v :: rest) = false := by
          rw [refGood]
          cases hm : mayB v <;> cases hx : later pre.getLast? v <;> simp [hm, hx] at hc ⊢
        rw [this]
        exact ev_pos rfl (ev_now _)
      | false =>
        have : mayB v = true ∧ later pre.getLast? v = false := by cases hm : mayB v <;> cases hx : later pre.getLast? v <;> simp [hm, hx] at hc ⊢
        refine ev_neg (by simp) ?_
        rw [refGood, this.1, this.2]
        simpa [Bool.and_assoc] using hin
    refine ev_succ ?_
    simp only [cellarerref05_Check.l0, rd50 h]
    refine ev_pos (by omega) (ev_pos (by omega) (ev_is (may_is v) ?_))
    cases hm : mayB v with
    | false =>
      refine ev_neg (by simp) (tail true (by simp [hm]))
    | true =>
      refine ev_pos rfl ?_
      rcases snoc_cases pre with rfl | ⟨pre', u, rfl⟩
      · refine ev_neg (by simp) (tail false (by simp [hm, later]))
      · have hp : (pre' ++ [u]).length = pre'.length + 1 := by simp
        have hw : wrap64 (((pre' ++ [u]).length : Int) - 1) = (pre'.length : Int) := by rw [wrap_id (by omega) (by omega)]; omega
        have hr : rd_T52 l (pre'.length : Int) = u := rd50 (rest := v :: rest) (by simp [h])
        rw [hw, hr]
        refine ev_pos (by omega) (ev_pos (by omega) (ev_pos (by omega) ?_))
        exact tail _ (by simp [hm, later])
theorem ref_check (l : List V) (hl : l.length ≤ 1000) (hw : ∀ v ∈ l, 0 ≤ v.f0) : Ev (fun k => cellarerref05_Check.f k l) (chainB l) := by
  rw [← chain_eq l hw]
  exact chain_loop l hl l [] rfl
end Go.Proofs.Ytcnnijkgiioniaa.PureRef
