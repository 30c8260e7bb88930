/-
  index.find: WHERE AN ENTRY STANDS: slices.IndexFunc over entries, whatever function value; the closure that knows a key; find.
-/
import Derived.Test.YtcnnijkgiioniaaProg
import Derived.Test.YtcnnijkgiioniaaCmp
import Derived.Test.YtcnnijkgiioniaaPx0
import Derived.Test.YtcnnijkgiioniaaV0
namespace Go.Proofs.Ytcnnijkgiioniaa.IdxE
open Go.RowKit Go.Proofs.Ytcnnijkgiioniaa.P Go.Proofs.YtcnnijkgiioniaaW.PrintWords

abbrev E := S50
/-- Where the first is of which p holds; -1: none is. -/
def idx (p : E → Bool) (l : List E) : Int := match l.findIdx? p with
  | some i => (i : Int)
  | none => -1
theorem idx_hit (p : E → Bool) (l : List E) (k : Nat) (hk : k < l.length) (hp : p l[k] = true) (hn : ∀ j (h : j < l.length), j < k → p l[j] = false) : idx p l = (k : Int) := by
  unfold idx
  have : l.findIdx? p = some k := List.findIdx?_eq_some_iff_getElem.2 ⟨hk, hp, fun j hj => by simpa using hn j (by omega) hj⟩
  rw [this]
theorem idx_miss (p : E → Bool) (l : List E) (hn : ∀ j (h : j < l.length), p l[j] = false) : idx p l = -1 := by
  unfold idx
  have : l.findIdx? p = none := by
    rw [List.findIdx?_eq_none_iff]
    intro x hx
    obtain ⟨j, hj, rfl⟩ := List.getElem_of_mem hx
    exact hn j hj
  rw [this]
/-- Has an entry this key? -/
def has (key : ByteArray) (x : E) : Bool := x.f0.toList == key.toList
end Go.Proofs.Ytcnnijkgiioniaa.IdxE
