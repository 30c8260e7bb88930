/-
  layers 1, 5, 6: WHAT THE FUNCTIONS SAY, in plain words: when a version, a chain, an index may be; where a key goes; what is put.
-/
import Derived.Test.YtcnnijkgiioniaaProg
import Derived.Test.YtcnnijkgiioniaaCmp
import Derived.Test.YtcnnijkgiioniaaIdxE
import Derived.Test.YtcnnijkgiioniaaName
import Derived.Test.YtcnnijkgiioniaaPx0
import Derived.Test.YtcnnijkgiioniaaV0
namespace Go.Proofs.Ytcnnijkgiioniaa.IdxSpec
open Go.RowKit Go.Proofs.Ytcnnijkgiioniaa.P Go.Proofs.YtcnnijkgiioniaaW.PrintWords Go.Proofs.Ytcnnijkgiioniaa.PureKit Go.Proofs.Ytcnnijkgiioniaa.Cmp

abbrev V := S52
abbrev E := S50
/-- The order of texts. -/
def lt (a b : ByteArray) : Bool := Op.bytesLess a.toList b.toList
theorem lt_irrefl (a : ByteArray) : lt a a = false := less_irrefl _
theorem lt_trans {a b c : ByteArray} (h1 : lt a b = true) (h2 : lt b c = true) : lt a c = true := less_trans _ _ _ h1 h2
theorem lt_asymm {a b : ByteArray} (h : lt a b = true) : lt b a = false := by
  cases h' : lt b a with
  | false => rfl
  | true => have := lt_trans h h'; rw [lt_irrefl] at this; cases this
theorem lt_tri {a b : ByteArray} (h1 : lt a b = false) (h2 : lt b a = false) : a.toList = b.toList := less_tri _ _ h1 h2
theorem lt_congr {a b c d : ByteArray} (h1 : a.toList = b.toList) (h2 : c.toList = d.toList) : lt a c = lt b d := by unfold lt; rw [h1, h2]

/-- May a version be? -/
def mayB (v : V) : Bool := decide (v.f0 ≤ 281474976710655) && decide ((v.f1.size : Int) ≤ 2000) && (!v.f2 || decide (v.f1.toList = [])) && decide (0 ≤ v.f3) && decide (v.f3 ≤ 1099511627775)
/-- Is it younger than the one ahead? -/
def later (prev : Option V) (v : V) : Bool := match prev with
  | some u => decide (u.f3 < v.f3)
  | none => false
/-- The chain's order, as the code goes through it: the last ID that is not 0, whether 0 was there, the version ahead. -/
def good (last : Int) (null : Bool) (prev : Option V) : List V → Bool
  | [] => true
  | v :: r => if later prev v = true then false
    else if v.f0 = 0 then (if null = true then false else if v.f0 ≥ last then false else good last true (some v) r)
    else if v.f0 ≥ last then false else good v.f0 null (some v) r
theorem good_cons (last : Int) (null : Bool) (prev : Option V) (v : V) (r : List V) : good last null prev (v :: r) = (if later prev v = true then false
    else if v.f0 = 0 then (if null = true then false else if v.f0 ≥ last then false else good last true (some v) r)
    else if v.f0 ≥ last then false else good v.f0 null (some v) r) := rfl
/-- May a chain be? -/
def chainB (l : List V) : Bool := decide (l.length ≤ 20) && l.all mayB && good 281474976710656 false none l
/-- Is its key behind the one's ahead? -/
def follows (prev : Option E) (x : E) : Bool := match prev with
  | some u => lt u.f0 x.f0
  | none => true
/-- The keys rise, each may be, each has versions that may be. -/
def rising (prev : Option E) : List E → Bool
  | [] => true
  | x :: r => Name.keyB x.f0 && follows prev x && !x.f1.isEmpty && chainB x.f1 && rising (some x) r
theorem rising_cons (prev : Option E) (x : E) (r : List E) : rising prev (x :: r) = (Name.keyB x.f0 && follows prev x && !x.f1.isEmpty && chainB x.f1 && rising (some x) r) := rfl
/-- May an index be? -/
def indexB (l : List E) : Bool := decide (l.length ≤ 60) && rising none l
/-- How many keys are less. -/
def at_ (l : List E) (key : ByteArray) : Nat := (l.filter fun x => lt x.f0 key).length
/-- The place behind the key's. -/
def behind (l : List E) (key : ByteArray) : Nat := if IdxE.idx (IdxE.has key) l ≥ 0 then at_ l key + 1 else at_ l key
def new (key : ByteArray) (c : List V) : List E := if c = [] then [] else [⟨key, c⟩]
def putL (l : List E) (key : ByteArray) (c : List V) : List E := l.take (at_ l key) ++ new key c ++ l.drop (behind l key)
/-- What is put, and the error. -/
def put (l : List E) (key : ByteArray) (c : List V) : List E × Int :=
  if indexB l = true ∧ Name.keyB key = true ∧ chainB c = true then (if (putL l key c).length > 60 then ([], 6) else (putL l key c, 0)) else ([], 1)
theorem idx_nonneg (p : E → Bool) (l : List E) (h : IdxE.idx p l ≥ 0) : ∃ x ∈ l, p x = true := by
  unfold IdxE.idx at h
  cases hf : l.findIdx? p with
  | none => rw [hf] at h; simp at h
  | some i =>
    obtain ⟨hi, hp, _⟩ := List.findIdx?_eq_some_iff_getElem.1 hf
    exact ⟨l[i], List.getElem_mem hi, hp⟩
theorem idx_neg (p : E → Bool) (l : List E) (h : ¬ IdxE.idx p l ≥ 0) : ∀ x ∈ l, p x = false := by
  unfold IdxE.idx at h
  cases hf : l.findIdx? p with
  | none => rw [List.findIdx?_eq_none_iff] at hf; exact hf
  | some i => rw [hf] at h; simp at h
end Go.Proofs.Ytcnnijkgiioniaa.IdxSpec
