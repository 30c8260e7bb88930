/-
  layer 5: WHAT chain.Find (AS PRINTED) COMPUTES, in ChSpec's words.
-/
import Derived.Test.YtldmidoemcdaaaaPx16
import Derived.Test.YtldmidoemcdaaaaChFn
namespace Go.Proofs.Ytldmidoemcdaaaa.ChFind
open Go.RowKit Go.Proofs.Ytldmidoemcdaaaa.P Go.Proofs.YtldmidoemcdaaaaW.PrintWords Go.Proofs.YtldmidoemcdaaaaW.PrintLast Go.Proofs.YtldmidoemcdaaaaW.PrintMore Go.Proofs.Ytldmidoemcdaaaa.PureKit Go.Proofs.Ytldmidoemcdaaaa.ChSpec Go.Proofs.Ytldmidoemcdaaaa.ChChk Go.Proofs.Ytldmidoemcdaaaa.ChFn

theorem idx_find (p : V → Bool) : ∀ l : List V, (IdxV.idx p l < 0 ∧ l.find? p = none) ∨ (0 ≤ IdxV.idx p l ∧ l.find? p = l[(IdxV.idx p l).toNat]?) := fun l => by
  unfold IdxV.idx
  cases h : l.findIdx? p with
  | none =>
    refine .inl ⟨by simp, ?_⟩
    rw [List.findIdx?_eq_none_iff] at h
    rw [List.find?_eq_none]
    intro x hx
    simpa using h x hx
  | some i =>
    refine .inr ⟨by simp, ?_⟩
    obtain ⟨hi, hp, hn⟩ := List.findIdx?_eq_some_iff_getElem.1 h
    rw [Int.toNat_natCast, List.getElem?_eq_getElem hi, List.find?_eq_some_iff_getElem]
    exact ⟨hp, i, hi, rfl, fun j hj => by simpa using hn j hj⟩
theorem find_is (l : List V) (id : Int) : Ev (fun k => chain_Find.f k l id) (tup (findF l id)) := by
  unfold chain_Find.f findF
  refine ev_is (x := IdxV.idx (fun x => x.f0 == id) l) rfl ?_
  exact ev_bind (at_is l _ _ (idx_find _ l)) (ev_now _)
end Go.Proofs.Ytldmidoemcdaaaa.ChFind
