/-
  pager.Keys.
-/
import Derived.Maps.AppendAt
import Derived.Test.YtcnnijkgiioniaaProg
import Derived.LoopIn
import Derived.LoopNIn
import Derived.OwnWalkIn
import Derived.RangeFuncBound
import Derived.RangeFuncCalls
import Derived.RangeFuncLeaves
import Derived.RangeFuncNested
import Derived.Shelf.Abstract
import Derived.TacticsInMore
import Derived.Test.YtcnnijkgiioniaaCmp
import Derived.Test.YtcnnijkgiioniaaNmSpec
import Derived.Test.YtcnnijkgiioniaaPgSpec
import Derived.Test.YtcnnijkgiioniaaV0
set_option linter.unusedVariables false
set_option linter.unusedSimpArgs false
namespace Go.Proofs.Ytcnnijkgiioniaa.PgK
open Go.RowKit Go.Shelf Go.Proofs.Ytcnnijkgiioniaa.P Go.Proofs.YtcnnijkgiioniaaW.PrintWords Go.Proofs.YtcnnijkgiioniaaW.PrintLast Go.Proofs.YtcnnijkgiioniaaW.PrintMore Go.Proofs.Ytcnnijkgiioniaa.PureKit Go.Proofs.Ytcnnijkgiioniaa.Name Go.Proofs.Ytcnnijkgiioniaa.NameW Go.Proofs.Ytcnnijkgiioniaa.NmSpec Go.Proofs.Ytcnnijkgiioniaa.PgSpec
attribute [local go_sem] Oper.semAt_some

/-! ### What a page is -/
def skipB (after : ByteArray) (x : T) : Bool := (after.toList != ([] : List UInt8)) && !(Op.bytesLess after.toList x.f0.toList)
def vis (after : ByteArray) (p : List T) : List T := p.filter fun x => !skipB after x
def keysOf (v : List T) : List ByteArray := (v.filter fun x => !x.f1).map fun x => x.f0
def groupsOf (v : List T) : List ByteArray := (v.filter fun x => x.f1).map fun x => x.f0
def lastOf (v : List T) : ByteArray := match v.getLast? with
  | some x => x.f0
  | none => ⟨#[]⟩
theorem vis_skip {after : ByteArray} {x : T} (p : List T) (h : skipB after x = true) : vis after (p ++ [x]) = vis after p := by simp [vis, h]
theorem vis_see {after : ByteArray} {x : T} (p : List T) (h : skipB after x = false) : vis after (p ++ [x]) = vis after p ++ [x] := by simp [vis, h]
theorem keys_key {x : T} (v : List T) (h : x.f1 = false) : keysOf (v ++ [x]) = keysOf v ++ [x.f0] := by simp [keysOf, h]
theorem keys_group {x : T} (v : List T) (h : x.f1 = true) : keysOf (v ++ [x]) = keysOf v := by simp [keysOf, h]
theorem groups_key {x : T} (v : List T) (h : x.f1 = false) : groupsOf (v ++ [x]) = groupsOf v := by simp [groupsOf, h]
theorem groups_group {x : T} (v : List T) (h : x.f1 = true) : groupsOf (v ++ [x]) = groupsOf v ++ [x.f0] := by simp [groupsOf, h]
theorem last_snoc (v : List T) (x : T) : lastOf (v ++ [x]) = x.f0 := by simp [lastOf]
theorem keys_len (v : List T) : (keysOf v).length ≤ v.length := by
  unfold keysOf
  rw [List.length_map]
  exact List.length_filter_le _ _
theorem groups_len (v : List T) : (groupsOf v).length ≤ v.length := by
  unfold groupsOf
  rw [List.length_map]
  exact List.length_filter_le _ _

/-! ### What the loop's cells hold -/
structure KInv (base B8 B9 B10 B12 : Nat) (after : ByteArray) (m : Int) (v0 v1 : Value) (ks gs : List ByteArray) (more : Bool) (last : ByteArray) (W : World) : Prop where
  c8 : W.heap[B8]? = some (Obj.cells #[.string after] 9 (0, 0))
  c9 : W.heap[B9]? = some (Obj.cells #[.int .i64 m] 3 (0, 0))
  c10 : W.heap[B10]? = some (Obj.cells #[.slice none 0 0, .slice none 0 0, .bool false, .string (⟨#[]⟩ : ByteArray)] 29 (0, 0))
  c12 : W.heap[B12]? = some (Obj.cells #[v0, v1, .bool more, .string last] 29 (0, 0))
  o0 : W.ownsRow base 9 1 v0 ks.length (ks.map Value.string)
  o1 : W.ownsRow base 9 1 v1 gs.length (gs.map Value.string)
  ne : ∀ k, v0.ownBlock = some k → v1.ownBlock ≠ some k
  b8 : B8 < base
  b9 : B9 < base
  b10 : B10 < base
  b12 : B12 < base
  n89 : B8 ≠ B9
  n812 : B8 ≠ B12
  n910 : B9 ≠ B10
  n912 : B9 ≠ B12
  n1012 : B10 ≠ B12
  hb : base ≤ W.heap.size
theorem own_ge {W : World} {base : Nat} {e size n : Nat} {v : Value} {xs : List Value} (h : W.ownsRow base e size v n xs) : ∀ k, v.ownBlock = some k → base ≤ k ∧ k < W.heap.size ∧ ∃ cur, W.heap[k]? = some (Obj.cells cur e (0, 0)) := by
  intro k hk
  rcases h.2 with ⟨rfl, _⟩ | ⟨g, cap, cur, rfl, hb, hg, _⟩
  · simp [Value.ownBlock] at hk
  · obtain rfl : g = k := by simpa [Value.ownBlock] using hk
    exact ⟨hb, blk_lt hg, cur, hg⟩
section
variable {base B8 B9 B10 B12 : Nat} {after : ByteArray} {m : Int} {v0 v1 : Value} {ks gs : List ByteArray} {more : Bool} {last : ByteArray} {W W' : World}
theorem KInv.move (h : KInv base B8 B9 B10 B12 after m v0 v1 ks gs more last W) {row : Option Nat} (hg : W.grownBy W' row) (hrow : ∀ r, row = some r → r ≠ B8 ∧ r ≠ B9 ∧ r ≠ B10 ∧ r ≠ B12 ∧ v0.ownBlock ≠ some r ∧ v1.ownBlock ≠ some r) : KInv base B8 B9 B10 B12 after m v0 v1 ks gs more last W' := by
  have hne : ∀ B, (∀ r, row = some r → r ≠ B) → some B ≠ row := fun B h e => h B e.symm rfl
  have hk : ∀ v : Value, (∀ r, row = some r → v.ownBlock ≠ some r) → v.ownBlock = none ∨ v.ownBlock ≠ row := fun v h => by
    cases hr : row with
    | none => cases hv : v.ownBlock <;> simp
    | some r => exact .inr (h r hr)
  exact ⟨blk_grown h.c8 hg (hne _ fun r e => (hrow r e).1), blk_grown h.c9 hg (hne _ fun r e => (hrow r e).2.1), blk_grown h.c10 hg (hne _ fun r e => (hrow r e).2.2.1), blk_grown h.c12 hg (hne _ fun r e => (hrow r e).2.2.2.1),
    h.o0.kept hg (hk _ fun r e => (hrow r e).2.2.2.2.1), h.o1.kept hg (hk _ fun r e => (hrow r e).2.2.2.2.2), h.ne, h.b8, h.b9, h.b10, h.b12, h.n89, h.n812, h.n910, h.n912, h.n1012, Nat.le_trans h.hb hg.size⟩
theorem KInv.alloc (h : KInv base B8 B9 B10 B12 after m v0 v1 ks gs more last W) (o : Obj) : KInv base B8 B9 B10 B12 after m v0 v1 ks gs more last (W.alloc o) := h.move (World.grownBy_alloc W o none) (fun r e => by cases e)
/-- The turn of a block that is no cells. -/
theorem KInv.turn (h : KInv base B8 B9 B10 B12 after m v0 v1 ks gs more last W) {row : Option Nat} (hg : W.grownBy W' row) (hrow : ∀ r, row = some r → ∃ o : Obj, W.heap[r]? = some o ∧ o.isCells = false) : KInv base B8 B9 B10 B12 after m v0 v1 ks gs more last W' := by
  refine h.move hg fun r e => ?_
  obtain ⟨o, ho, hc⟩ := hrow r e
  have hx : ∀ (B : Nat) (cs : Array Value) (t : TypeId), W.heap[B]? = some (Obj.cells cs t (0, 0)) → r ≠ B := by
    rintro B cs t hB rfl
    rw [hB] at ho
    cases ho
    simp [Obj.isCells] at hc
  refine ⟨hx _ _ _ h.c8, hx _ _ _ h.c9, hx _ _ _ h.c10, hx _ _ _ h.c12, fun hv => ?_, fun hv => ?_⟩
  · obtain ⟨_, _, cur, hcur⟩ := own_ge h.o0 r hv
    exact hx _ _ _ hcur rfl
  · obtain ⟨_, _, cur, hcur⟩ := own_ge h.o1 r hv
    exact hx _ _ _ hcur rfl
theorem KInv.own_set (h : KInv base B8 B9 B10 B12 after m v0 v1 ks gs more last W) {B : Nat} (hB : B < base) (j : Nat) (u : Value) {v : Value} {n : Nat} {xs : List Value} (ho : W.ownsRow base 9 1 v n xs) : (W.setCell ⟨B, j, none⟩ u).ownsRow base 9 1 v n xs := by
  refine ho.kept (row := some B) ⟨rfl, rfl, rfl, by simp, fun k _ hk => Below.heap_setCell _ _ _ _ (fun e => hk (by rw [e]))⟩ ?_
  refine .inr fun e => ?_
  have := (own_ge ho B e).1
  omega
/-- 'most' is written. -/
theorem KInv.set9 (h : KInv base B8 B9 B10 B12 after m v0 v1 ks gs more last W) (m' : Int) : KInv base B8 B9 B10 B12 after m' v0 v1 ks gs more last (W.setCell ⟨B9, 0, none⟩ (.int .i64 m')) :=
  ⟨blk_far h.c8 (p := ⟨B9, 0, none⟩) h.n89 _, blk_set h.c9 0 _, blk_far h.c10 (p := ⟨B9, 0, none⟩) h.n910.symm _, blk_far h.c12 (p := ⟨B9, 0, none⟩) h.n912.symm _, h.own_set h.b9 _ _ h.o0, h.own_set h.b9 _ _ h.o1, h.ne, h.b8, h.b9, h.b10, h.b12, h.n89, h.n812, h.n910, h.n912, h.n1012, by simpa using h.hb⟩
/-- 'p.Last' is written. -/
theorem KInv.setLast (h : KInv base B8 B9 B10 B12 after m v0 v1 ks gs more last W) (s : ByteArray) : KInv base B8 B9 B10 B12 after m v0 v1 ks gs more s (W.setCell ⟨B12, 3, none⟩ (.string s)) :=
  ⟨blk_far h.c8 (p := ⟨B12, 3, none⟩) h.n812 _, blk_far h.c9 (p := ⟨B12, 3, none⟩) h.n912 _, blk_far h.c10 (p := ⟨B12, 3, none⟩) h.n1012 _, blk_set h.c12 3 _, h.own_set h.b12 _ _ h.o0, h.own_set h.b12 _ _ h.o1, h.ne, h.b8, h.b9, h.b10, h.b12, h.n89, h.n812, h.n910, h.n912, h.n1012, by simpa using h.hb⟩
/-- 'p.More' is written. -/
theorem KInv.setMore (h : KInv base B8 B9 B10 B12 after m v0 v1 ks gs more last W) : KInv base B8 B9 B10 B12 after m v0 v1 ks gs true last (W.setCell ⟨B12, 2, none⟩ (.bool true)) :=
  ⟨blk_far h.c8 (p := ⟨B12, 2, none⟩) h.n812 _, blk_far h.c9 (p := ⟨B12, 2, none⟩) h.n912 _, blk_far h.c10 (p := ⟨B12, 2, none⟩) h.n1012 _, blk_set h.c12 2 _, h.own_set h.b12 _ _ h.o0, h.own_set h.b12 _ _ h.o1, h.ne, h.b8, h.b9, h.b10, h.b12, h.n89, h.n812, h.n910, h.n912, h.n1012, by simpa using h.hb⟩
/-- A key is put behind. -/
theorem KInv.addKey (h : KInv base B8 B9 B10 B12 after m v0 v1 ks gs more last W) {tmp : Obj} {w1 : World} {v' : Value} {s : ByteArray} (hown : w1.ownsRow base 9 1 v' (ks.length + 1) (ks.map Value.string ++ [.string s])) (hg : (W.alloc tmp).grownBy w1 v0.ownBlock) (hat : v'.ownBlock = v0.ownBlock ∨ v'.ownBlock = some (W.alloc tmp).heap.size) :
    KInv base B8 B9 B10 B12 after m v' v1 (ks ++ [s]) gs more last (w1.setCell ⟨B12, 0, none⟩ v') := by
  have ha := h.alloc tmp
  have hlt : ∀ B, B < base → some B ≠ v0.ownBlock := fun B hB e => by have := (own_ge h.o0 B e.symm).1; omega
  have c8 := blk_grown ha.c8 hg (hlt _ h.b8)
  have c9 := blk_grown ha.c9 hg (hlt _ h.b9)
  have c10 := blk_grown ha.c10 hg (hlt _ h.b10)
  have c12 := blk_grown ha.c12 hg (hlt _ h.b12)
  have o1 := ha.o1.kept hg (by
    cases hv : v1.ownBlock with
    | none => exact .inl rfl
    | some r => exact .inr fun e => h.ne r e.symm hv)
  have own_set : ∀ {v : Value} {n : Nat} {xs : List Value}, w1.ownsRow base 9 1 v n xs → (w1.setCell ⟨B12, 0, none⟩ v').ownsRow base 9 1 v n xs := fun ho => by
    refine ho.kept (row := some B12) ⟨rfl, rfl, rfl, by simp, fun k _ hk => Below.heap_setCell _ _ _ _ (fun e => hk (by rw [e]))⟩ (.inr fun e => ?_)
    have := (own_ge ho B12 e).1
    have := h.b12
    omega
  have hsz := hg.size
  simp only [World.size_alloc] at hsz
  refine ⟨blk_far c8 (p := ⟨B12, 0, none⟩) h.n812 _, blk_far c9 (p := ⟨B12, 0, none⟩) h.n912 _, blk_far c10 (p := ⟨B12, 0, none⟩) h.n1012 _, blk_set c12 0 _, ?_, own_set o1, ?_, h.b8, h.b9, h.b10, h.b12, h.n89, h.n812, h.n910, h.n912, h.n1012, by have := h.hb; simp; omega⟩
  · rw [List.length_append, List.map_append]
    exact own_set hown
  · intro k hk
    rcases hat with e | e
    · rw [e] at hk
      exact h.ne k hk
    · intro h1
      rw [e] at hk
      have h2 := (own_ge h.o1 k h1).2.1
      injection hk with hk
      simp at hk
      omega
theorem KInv.addGroup (h : KInv base B8 B9 B10 B12 after m v0 v1 ks gs more last W) {tmp : Obj} {w1 : World} {v' : Value} {s : ByteArray} (hown : w1.ownsRow base 9 1 v' (gs.length + 1) (gs.map Value.string ++ [.string s])) (hg : (W.alloc tmp).grownBy w1 v1.ownBlock) (hat : v'.ownBlock = v1.ownBlock ∨ v'.ownBlock = some (W.alloc tmp).heap.size) :
    KInv base B8 B9 B10 B12 after m v0 v' ks (gs ++ [s]) more last (w1.setCell ⟨B12, 1, none⟩ v') := by
  have ha := h.alloc tmp
  have hlt : ∀ B, B < base → some B ≠ v1.ownBlock := fun B hB e => by have := (own_ge h.o1 B e.symm).1; omega
  have c8 := blk_grown ha.c8 hg (hlt _ h.b8)
  have c9 := blk_grown ha.c9 hg (hlt _ h.b9)
  have c10 := blk_grown ha.c10 hg (hlt _ h.b10)
  have c12 := blk_grown ha.c12 hg (hlt _ h.b12)
  have o0 := ha.o0.kept hg (by
    cases hv : v0.ownBlock with
    | none => exact .inl rfl
    | some r => exact .inr fun e => h.ne r hv e.symm)
  have own_set : ∀ {v : Value} {n : Nat} {xs : List Value}, w1.ownsRow base 9 1 v n xs → (w1.setCell ⟨B12, 1, none⟩ v').ownsRow base 9 1 v n xs := fun ho => by
    refine ho.kept (row := some B12) ⟨rfl, rfl, rfl, by simp, fun k _ hk => Below.heap_setCell _ _ _ _ (fun e => hk (by rw [e]))⟩ (.inr fun e => ?_)
    have := (own_ge ho B12 e).1
    have := h.b12
    omega
  have hsz := hg.size
  simp only [World.size_alloc] at hsz
  refine ⟨blk_far c8 (p := ⟨B12, 1, none⟩) h.n812 _, blk_far c9 (p := ⟨B12, 1, none⟩) h.n912 _, blk_far c10 (p := ⟨B12, 1, none⟩) h.n1012 _, blk_set c12 1 _, own_set o0, ?_, ?_, h.b8, h.b9, h.b10, h.b12, h.n89, h.n812, h.n910, h.n912, h.n1012, by have := h.hb; simp; omega⟩
  · rw [List.length_append, List.map_append]
    exact own_set hown
  · intro k hk h1
    rcases hat with e | e
    · rw [e] at h1
      exact h.ne k hk h1
    · rw [e] at h1
      have h2 := (own_ge h.o0 k hk).2.1
      injection h1 with h1
      simp at h1
      omega
end
end Go.Proofs.Ytcnnijkgiioniaa.PgK
