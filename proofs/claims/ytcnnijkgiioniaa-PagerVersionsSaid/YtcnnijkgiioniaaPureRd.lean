/-
  Reading a list where it is split.
-/
import Derived.Test.YtcnnijkgiioniaaProg
import Derived.Test.YtcnnijkgiioniaaCmp
import Derived.Test.YtcnnijkgiioniaaIdxE
import Derived.Test.YtcnnijkgiioniaaIdxSpec
import Derived.Test.YtcnnijkgiioniaaPureKit
import Derived.Test.YtcnnijkgiioniaaPx0
import Derived.Test.YtcnnijkgiioniaaV0
namespace Go.Proofs.Ytcnnijkgiioniaa.PureRd
open Go.RowKit Go.Proofs.Ytcnnijkgiioniaa.P Go.Proofs.YtcnnijkgiioniaaW.PrintWords Go.Proofs.Ytcnnijkgiioniaa.PureKit Go.Proofs.Ytcnnijkgiioniaa.IdxSpec

theorem ev_succ {α : Type} {g : Nat → Option α} {r : α} (h : Ev (fun k => g (k + 1)) r) : Ev g r := ev_step (fun _ => rfl) h
theorem snoc_cases {α : Type} (l : List α) : l = [] ∨ ∃ l' u, l = l' ++ [u] := by
  rcases List.eq_nil_or_concat l with h | ⟨l', u, h⟩
  · exact .inl h
  · exact .inr ⟨l', u, by simpa using h⟩
theorem rd50 {l pre rest : List V} {v : V} (h : l = pre ++ v :: rest) : rd_T52 l (pre.length : Int) = v := by
  subst h
  simp [rd_T52]
theorem rd38 {l pre rest : List E} {v : E} (h : l = pre ++ v :: rest) : rd_T50 l (pre.length : Int) = v := by
  subst h
  simp [rd_T50]

end Go.Proofs.Ytcnnijkgiioniaa.PureRd
