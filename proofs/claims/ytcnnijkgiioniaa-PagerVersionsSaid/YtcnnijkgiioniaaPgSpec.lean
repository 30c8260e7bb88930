/-
  layer 7: WHAT THE PAGER SAYS, in plain words: things, pages.
-/
import Derived.Test.YtcnnijkgiioniaaProg
import Derived.Test.YtcnnijkgiioniaaCmp
import Derived.Test.YtcnnijkgiioniaaNmSpec
import Derived.Test.YtcnnijkgiioniaaPureKit
import Derived.Test.YtcnnijkgiioniaaPx0
import Derived.Test.YtcnnijkgiioniaaV0
namespace Go.Proofs.Ytcnnijkgiioniaa.PgSpec
open Go.RowKit Go.Proofs.Ytcnnijkgiioniaa.P Go.Proofs.YtcnnijkgiioniaaW.PrintWords Go.Proofs.Ytcnnijkgiioniaa.PureKit Go.Proofs.Ytcnnijkgiioniaa.Name Go.Proofs.Ytcnnijkgiioniaa.NameW Go.Proofs.Ytcnnijkgiioniaa.NmSpec

abbrev V := S52
abbrev E := S50
/-- A thing: a key, or a group. -/
structure T where
  f0 : ByteArray
  f1 : Bool
/-- Is the latest version a Mark? -/
def markB (x : E) : Bool := match x.f1 with
  | [] => false
  | v :: _ => v.f2
/-- A key's thing. -/
def thingOf (pre delim : ByteArray) (x : E) : T := if (grp x.f0 pre delim).2 = true then ⟨(grp x.f0 pre delim).1, true⟩ else ⟨x.f0, false⟩
/-- Has it one? -/
def hasT (pre : ByteArray) (x : E) : Bool := decide (oc pre <+: oc x.f0) && !markB x
/-- Behind what there is, if it is not the last already. -/
def stepT (acc : List T) (t : T) : List T := match acc.getLast? with
  | none => acc ++ [t]
  | some u => if (u.f0.toList == t.f0.toList) = true then acc else acc ++ [t]
def addT (pre delim : ByteArray) (acc : List T) (x : E) : List T := if hasT pre x = true then stepT acc (thingOf pre delim x) else acc
def thingsL (pre delim : ByteArray) (l : List E) : List T := l.foldl (addT pre delim) []
theorem things_snoc (pre delim : ByteArray) (l : List E) (x : E) : thingsL pre delim (l ++ [x]) = addT pre delim (thingsL pre delim l) x := by
  unfold thingsL
  rw [List.foldl_append]
  rfl
theorem step_len (acc : List T) (t : T) : (stepT acc t).length ≤ acc.length + 1 := by
  unfold stepT
  split
  · simp
  · split
    · omega
    · simp
theorem things_len (pre delim : ByteArray) (l : List E) : (thingsL pre delim l).length ≤ l.length := by
  suffices h : ∀ (l : List E) (acc : List T), (l.foldl (addT pre delim) acc).length ≤ acc.length + l.length by
    have := h l []
    simpa [thingsL] using this
  intro l
  induction l with
  | nil => intro acc; simp
  | cons x r ih =>
    intro acc
    have h1 := ih (addT pre delim acc x)
    have h2 : (addT pre delim acc x).length ≤ acc.length + 1 := by
      unfold addT
      split
      · exact step_len _ _
      · omega
    simp only [List.foldl_cons, List.length_cons]
    omega

/-! ### rows of things -/
def zT : T := ⟨⟨#[]⟩, false⟩
def kT : Kd T := Kd.iso (Kd.pair Kd.string Kd.bool) (fun x : T => (x.f0, x.f1))
theorem kT_open {w : World} {x : T} {cs : List Value} (h : kT.K w x cs) : cs = [.string x.f0, .bool x.f1] := by
  obtain ⟨_, _, rfl, rfl, rfl⟩ := h
  exact rfl
theorem kT_mkM (w : World) (base : Nat) (ok : Nat → Prop) (x : T) : kT.M w base ok x [.string x.f0, .bool x.f1] := ⟨[.string x.f0], [.bool x.f1], rfl, rfl, rfl⟩
theorem infoT : (Try.prog.info? 72).map (fun i => (i.zero, i.size, i.bytes)) = some (some (.agg #[(.string ⟨#[]⟩), (.bool false)]), 2, 24) := by kernel_rfl
def rdT (xs : List T) (i : Int) : T := xs.getD i.toNat zT
theorem atT {w : World} {A : Option Addr} {n : Nat} {xs : List T} (h : Kd.C kT w A n xs) (i : Int) (h0 : 0 ≤ i) (h1 : i < n) : ∃ ad, A = some ad ∧ w.cell? (ad.add (i.toNat * 2)) = some (.string (rdT xs i).f0) ∧ w.cell? ⟨(ad.add (i.toNat * 2)).block, (ad.add (i.toNat * 2)).off + 1, none⟩ = some (.bool (rdT xs i).f1) := by
  obtain ⟨ad, c, e, _, hK, hc0⟩ := Kd.C_get h zT i h0 h1
  have hc : ∀ j u, c[j]? = some u → w.cell? (ad.add (i.toNat * 2 + j)) = some u := hc0
  obtain rfl := kT_open hK
  exact ⟨ad, e, hc 0 _ rfl, by rw [← add_field _ _ 1 (by omega)]; exact hc 1 _ rfl⟩
/-- A row of things lies in ONE block, of their type. -/
theorem row_block {w : World} {base : Nat} {ok : Nat → Prop} {v : Value} {xs : List T} (h : Kd.R kT 72 w base ok v xs) (hp : 0 < xs.length) :
    ∃ g cap cs, v = .slice (some ⟨g, 0, none⟩) xs.length cap ∧ base ≤ g ∧ w.heap[g]? = some (.cells cs 72 (0, 0)) ∧ ∀ j (hj : j < xs.length), cs[j * 2]? = some (.string xs[j].f0) ∧ cs[j * 2 + 1]? = some (.bool xs[j].f1) := by
  obtain ⟨g, cap, rfl, h1, h2, cs, h3⟩ := Kd.R_form h hp
  refine ⟨g, cap, cs, rfl, h1, h3, fun j hj => ?_⟩
  obtain ⟨ad, e, c0, c1⟩ := atT (Kd.R_reads' h).2.2 (j : Int) (by omega) (by omega)
  cases e
  have hr : rdT xs (j : Int) = xs[j] := by
    unfold rdT
    rw [Int.toNat_natCast, List.getD_eq_getElem?_getD, List.getElem?_eq_getElem hj]
    rfl
  rw [hr, Int.toNat_natCast] at c0 c1
  constructor
  · rw [add_plain, blk_cell h3] at c0
    exact c0
  · rw [add_plain] at c1
    have c1' : w.cell? ⟨g, j * 2 + 1, none⟩ = some (.bool xs[j].f1) := c1
    rw [blk_cell h3] at c1'
    exact c1'
end Go.Proofs.Ytcnnijkgiioniaa.PgSpec
