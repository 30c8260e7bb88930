/-
  What an index that may be asked is, so that its things rise; things' texts.
-/
import Derived.Test.YtcnnijkgiioniaaPgRise
import Derived.Test.YtcnnijkgiioniaaNmRef
namespace Go.Proofs.Ytcnnijkgiioniaa.PgRefT
open Go.RowKit Go.Proofs.Ytcnnijkgiioniaa.P Go.Proofs.YtcnnijkgiioniaaW.PrintWords Go.Proofs.YtcnnijkgiioniaaW.PrintLast Go.Proofs.YtcnnijkgiioniaaW.PrintMore Go.Proofs.Ytcnnijkgiioniaa.PureKit Go.Proofs.Ytcnnijkgiioniaa.IdxSpec Go.Proofs.Ytcnnijkgiioniaa.IdxLaws Go.Proofs.Ytcnnijkgiioniaa.PureRd Go.Proofs.Ytcnnijkgiioniaa.PureFew Go.Proofs.Ytcnnijkgiioniaa.NmSpec Go.Proofs.Ytcnnijkgiioniaa.PgSpec Go.Proofs.Ytcnnijkgiioniaa.PgT Go.Proofs.Ytcnnijkgiioniaa.PgK Go.Proofs.Ytcnnijkgiioniaa.PgKs Go.Proofs.Ytcnnijkgiioniaa.PgPure Go.Proofs.Ytcnnijkgiioniaa.PgPlain Go.Proofs.Ytcnnijkgiioniaa.PgRise

theorem rd_tx {ts p rest : List ByteArray} {t : ByteArray} (h : ts = p ++ t :: rest) : rdOf ByteArray.empty ts (p.length : Int) = t := by
  subst h
  simp [rdOf]
/-- What is asked of an index, so that things rise. -/
structure Fine (l : List PgSpec.E) (pre delim : ByteArray) : Prop where
  rise : Rise l
  key : ∀ x ∈ l, Name.keyB x.f0 = true
  some : ∀ x ∈ l, x.f1 ≠ []
  size : ∀ x ∈ l, x.f0.size ≤ 60
  len : l.length ≤ 60
  pre : NameW.prefixB pre = true
  delim : NameW.delimB delim = true
theorem fine_of {l : List PgSpec.E} {pre delim after : ByteArray} {most : Int} (h : (goodB l pre after most && NameW.delimB delim) = true) : Fine l pre delim := by
  rw [Bool.and_eq_true] at h
  obtain ⟨h1, h2, _⟩ := good_parts h.1
  obtain ⟨a, b, c, d⟩ := index_small h1
  exact ⟨d, fun x hx => (c x hx).2.2, a, fun x hx => (c x hx).1, b, h2, h.2⟩
theorem Fine.left {l m : List PgSpec.E} {pre delim : ByteArray} (h : Fine (l ++ m) pre delim) : Fine l pre delim :=
  ⟨(List.pairwise_append.1 h.rise).1, fun x hx => h.key x (by simp [hx]), fun x hx => h.some x (by simp [hx]), fun x hx => h.size x (by simp [hx]), by have := h.len; simp at this; omega, h.pre, h.delim⟩
def txt (ts : List T) : List ByteArray := ts.map fun x => x.f0
end Go.Proofs.Ytcnnijkgiioniaa.PgRefT
