/-
  layer 5: WHAT chain.Drop, Delete, Get, Find (AS PRINTED) COMPUTE, in ChSpec's words.
-/
import Derived.Test.YtldmidoemcdaaaaPx7
import Derived.Test.YtldmidoemcdaaaaPx10
import Derived.Test.YtldmidoemcdaaaaChChk
namespace Go.Proofs.Ytldmidoemcdaaaa.ChFn
open Go.RowKit Go.Proofs.Ytldmidoemcdaaaa.P Go.Proofs.YtldmidoemcdaaaaW.PrintWords Go.Proofs.YtldmidoemcdaaaaW.PrintLast Go.Proofs.YtldmidoemcdaaaaW.PrintMore Go.Proofs.Ytldmidoemcdaaaa.PureKit Go.Proofs.Ytldmidoemcdaaaa.ChSpec Go.Proofs.Ytldmidoemcdaaaa.ChChk

theorem chain_len {l : List V} (h : chainB l = true) : l.length ≤ 20 := by unfold chainB at h; simp at h; exact h.1.1
theorem put_is (l : List V) (s : Int) (x : V) (hs : (Lit.int .i64 s).wf = true) : chain_Put.f l s x.f0 x.f1 x.f2 x.f3 = some (putF l s x) := by unfold chain_Put.f; rw [if_pos hs]
theorem idx_neg (p : V → Bool) (l : List V) : IdxV.idx p l < 0 ↔ l.any p = false := by
  rw [← IdxV.idx_any]
  simp
theorem drop_is (l : List V) (id : Int) : Ev (fun k => chain_Drop.f k l id) (dropF l id) := by
  unfold chain_Drop.f dropF
  refine ev_bind (check_is l) ?_
  by_cases hc : chainB l = true
  · have hl := chain_len hc
    rw [if_pos hc, if_pos hc]
    refine ev_pos rfl (ev_is (x := IdxV.idx (fun x => x.f0 == id) l) rfl ?_)
    by_cases ha : l.any (fun x => x.f0 == id) = true
    · rw [if_pos ha]
      refine ev_neg (by rw [idx_neg, ha]; simp) ?_
      refine ev_is (x := withoutL l id) (by unfold chain_versions_without.f; rw [if_pos (by omega)]; rfl) (ev_now _)
    · rw [if_neg ha]
      refine ev_pos (by rw [idx_neg]; simpa using ha) (ev_now _)
  · rw [if_neg hc, if_neg hc]
    exact ev_neg (by decide) (ev_now _)
theorem del_is (l : List V) (s id t : Int) (hs : (Lit.int .i64 s).wf = true) : Ev (fun k => chain_Delete.f k l s id t) (delF l s id t) := by
  unfold chain_Delete.f delF
  by_cases h0 : s = 0
  · rw [if_pos h0]
    refine ev_pos h0 (ev_bind (drop_is l 0) (ev_now _))
  · rw [if_neg h0]
    refine ev_neg h0 ?_
    by_cases h2 : s = 2
    · rw [show (if s = 2 then (0 : Int) else id) = 0 from if_pos h2]
      exact ev_pos h2 (ev_is (put_is l s ⟨0, ⟨#[]⟩, true, t⟩ hs) (ev_now _))
    · rw [show (if s = 2 then (0 : Int) else id) = id from if_neg h2]
      exact ev_neg h2 (ev_is (put_is l s ⟨id, ⟨#[]⟩, true, t⟩ hs) (ev_now _))
theorem at_is (l : List V) (i : Int) (o : Option V) (hi : (i < 0 ∧ o = none) ∨ (0 ≤ i ∧ o = l[i.toNat]?)) : Ev (fun k => chain_at.f k l i) (tup (atF l o)) := by
  unfold chain_at.f atF
  refine ev_bind (check_is l) ?_
  by_cases hc : chainB l = true
  · rw [if_pos hc, if_pos hc]
    refine ev_pos rfl ?_
    rcases hi with ⟨hi, rfl⟩ | ⟨hi, rfl⟩
    · refine ev_pos hi (ev_succ ?_)
      simp only [chain_at.j0]
      exact ev_pos (by simp) (ev_now _)
    · refine ev_neg (by omega) ?_
      by_cases hlt : i < (l.length : Int)
      · have hn : i.toNat < l.length := by omega
        have hr : rd_T25 l i = l[i.toNat] := by
          unfold rd_T25
          rw [List.getD_eq_getElem?_getD, List.getElem?_eq_getElem hn]
          rfl
        rw [decide_eq_false (show ¬ i ≥ (l.length : Int) by omega), List.getElem?_eq_getElem hn]
        refine ev_succ ?_
        simp only [chain_at.j0, hr]
        refine ev_neg (by simp) (ev_pos hi (ev_pos hlt ?_))
        by_cases hm : l[i.toNat].f2 = true
        · rw [show (if l[i.toNat].f2 = true then (13 : Int) else 0) = 13 from if_pos hm]
          exact ev_pos hm (ev_now _)
        · rw [show (if l[i.toNat].f2 = true then (13 : Int) else 0) = 0 from if_neg hm]
          exact ev_neg hm (ev_now _)
      · rw [decide_eq_true (show i ≥ (l.length : Int) by omega), List.getElem?_eq_none (by omega)]
        refine ev_succ ?_
        simp only [chain_at.j0]
        exact ev_pos (by simp) (ev_now _)
  · rw [if_neg hc, if_neg hc]
    exact ev_neg (by decide) (ev_now _)
theorem get_is (l : List V) : Ev (fun k => chain_Get.f k l) (tup (getF l)) := by
  unfold chain_Get.f getF
  exact ev_bind (at_is l 0 l.head? (.inr ⟨by omega, by cases l <;> rfl⟩)) (ev_now _)
end Go.Proofs.Ytldmidoemcdaaaa.ChFn
