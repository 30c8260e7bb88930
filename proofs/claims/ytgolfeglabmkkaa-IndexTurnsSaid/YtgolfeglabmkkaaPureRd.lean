/-
  Reading a list where it is split.
-/
import Derived.Test.YtgolfeglabmkkaaIdxSpec
import Derived.Test.YtgolfeglabmkkaaPureKit
namespace Go.Proofs.Ytgolfeglabmkkaa.PureRd
open Go.RowKit Go.Proofs.Ytgolfeglabmkkaa.P Go.Proofs.YtgolfeglabmkkaaW.PrintWords Go.Proofs.Ytgolfeglabmkkaa.PureKit Go.Proofs.Ytgolfeglabmkkaa.IdxSpec

theorem ev_succ {α : Type} {g : Nat → Option α} {r : α} (h : Ev (fun k => g (k + 1)) r) : Ev g r := ev_step (fun _ => rfl) h
theorem snoc_cases {α : Type} (l : List α) : l = [] ∨ ∃ l' u, l = l' ++ [u] := by
  rcases List.eq_nil_or_concat l with h | ⟨l', u, h⟩
  · exact .inl h
  · exact .inr ⟨l', u, by simpa using h⟩
theorem rd50 {l pre rest : List V} {v : V} (h : l = pre ++ v :: rest) : rd_T50 l (pre.length : Int) = v := by
  subst h
  simp [rd_T50]
theorem rd38 {l pre rest : List E} {v : E} (h : l = pre ++ v :: rest) : rd_T38 l (pre.length : Int) = v := by
  subst h
  simp [rd_T38]

end Go.Proofs.Ytgolfeglabmkkaa.PureRd
