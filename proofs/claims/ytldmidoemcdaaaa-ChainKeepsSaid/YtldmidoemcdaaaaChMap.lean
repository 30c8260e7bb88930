/-
  ChainKeeps: THE MAP of what was laid, by its ID.
-/
import Derived.Test.YtldmidoemcdaaaaChFind
import Derived.Test.YtldmidoemcdaaaaChFew
import Derived.Test.YtldmidoemcdaaaaIdxV
import Derived.Maps.OwnSet
import Derived.Maps.RangeWalk
import Derived.Carry
set_option linter.unusedVariables false
namespace Go.Proofs.Ytldmidoemcdaaaa.ChMap
open Go.RowKit Go.Maps Go.WideMaps Go.ChangeMaps Go.Proofs.Ytldmidoemcdaaaa.P Go.Proofs.YtldmidoemcdaaaaW.PrintWords Go.Proofs.YtldmidoemcdaaaaW.PrintLast Go.Proofs.YtldmidoemcdaaaaW.PrintMore Go.Proofs.Ytldmidoemcdaaaa.PureKit Go.Proofs.Ytldmidoemcdaaaa.IdxV Go.Proofs.Ytldmidoemcdaaaa.ChSpec Go.Proofs.Ytldmidoemcdaaaa.ChFew

abbrev D := DataW Unit
theorem law : Keyed Try.prog 23 := int_keyed Try.underlying23
theorem map_is : Try.prog.underlying 54 = some (.map 23 25) := by kernel_rfl
def enc (x : V) : D := .agg [.lit (.int .u64 x.f0), .lit (.string x.f1.data.toList), .lit (.bool x.f2), .lit (.int .i64 x.f3)]
/-- How a version reads. -/
def verElem : Value → Option (D × List MemPlace)
  | .agg cs => match cs.toList with
    | [.int .u64 a, .string s, .bool b, .int .i64 c] => some (enc ⟨a, s, b, c⟩, [])
    | _ => none
  | _ => none
theorem verElem_mk (x : V) : verElem (ver x) = some (enc x, []) := rfl
theorem verElem_inv {v : Value} {y : D × List MemPlace} (h : verElem v = some y) : ∃ c : V, v = ver c ∧ y = (enc c, []) := by
  unfold verElem at h
  split at h
  · rename_i cs
    split at h
    · rename_i a s b c hcs
      refine ⟨⟨a, s, b, c⟩, ?_, (Option.some.inj h).symm⟩
      unfold ver
      congr 1
      apply Array.ext'
      exact hcs
    · cases h
  · cases h
theorem enc_inj {a b : V} (h : enc a = enc b) : a = b := by
  unfold enc at h
  simp only [DataW.agg.injEq, List.cons.injEq, DataW.lit.injEq, Lit.int.injEq, Lit.string.injEq, Lit.bool.injEq, true_and, and_true] at h
  obtain ⟨h0, h1, h2, h3⟩ := h
  have h1' : a.f1 = b.f1 := toList_inj (by rw [ByteArray.toList_eq, ByteArray.toList_eq]; exact h1)
  cases a; cases b
  simp only at h0 h1' h2 h3
  rw [h0, h1', h2, h3]
/-- The map, in the first block of the call's own: each entry is one of what was laid, under its ID. -/
def MK (w : World) (base : Nat) (xs : List V) : Prop := ∃ (n : Nat) (d : D), w.ownsMap Try.prog 23 verElem base n d ∧ n = xs.length ∧ ∀ id : Int, has d (.int .u64 id) = true → ∃ x ∈ xs, x.f0 = id ∧ ∀ z, d.atKey (.int .u64 id) z = enc x
section
variable {w w1 : World} {base : Nat} {xs : List V}
theorem made (w : World) : MK (w.alloc (.map #[] 0)) w.heap.size [] := ⟨_, _, World.ownsMap_made _ _ _ _, rfl, fun id h => by cases h⟩
theorem MK_heap (h : MK w base xs) (hm : w1.heap[base]? = w.heap[base]?) : MK w1 base xs := by
  obtain ⟨n, d, ⟨es, clock, hb, h3⟩, h4⟩ := h
  exact ⟨n, d, ⟨es, clock, hm.trans hb, h3⟩, h4⟩
theorem MK_lt (h : MK w base xs) : base < w.heap.size := by
  obtain ⟨n, d, h1, _⟩ := h
  exact h1.lt
theorem MK_below (h : MK w base xs) (hb : Below w.heap.size w w1) : MK w1 base xs := MK_heap h (hb.block _ (MK_lt h))
theorem MK_alloc (h : MK w base xs) (o : Obj) : MK (w.alloc o) base xs := MK_below h (below_alloc (Below.refl _ _) o)
theorem MK_drew (h : MK w base xs) : MK w.drew base xs := MK_below h (below_drew (Below.refl _ _))
theorem MK_drewN (h : MK w base xs) (m : Nat) : MK (w.drewN m) base xs := MK_below h (pw_below_drewN (Below.refl _ _) m)
theorem ne (h : MK w base xs) {g : Nat} {cs : Array Value} {t : TypeId} {fr : Nat × Nat} (hb : w.heap[g]? = some (.cells cs t fr)) : base ≠ g := by
  obtain ⟨n, d, ⟨es, clock, hm, _⟩, _⟩ := h
  rintro rfl
  rw [hm] at hb
  cases hb
theorem MK_far (h : MK w base xs) {g : Nat} (hne : base ≠ g) (j : Nat) (u : Value) : MK (w.setCell ⟨g, j, none⟩ u) base xs := MK_heap h (Below.heap_setCell _ _ _ _ hne)
/-- A block that is no cells has turned. -/
def Turn (w w1 : World) (mb : Nat) : Prop := w.grownBy w1 (some mb) ∧ (∃ es c, w.heap[mb]? = some (.map es c))
theorem R_turn {α : Type} {k : Kd α} {e b : Nat} {ok : Nat → Prop} {u : Value} {ys : List α} (h : k.R e w b ok u ys) (ht : Turn w w1 base) : k.R e w1 b ok u ys := by
  obtain ⟨hg, es, c, hm⟩ := ht
  refine Kd.R_mono (Kd.R_grown (Kd.R_bound h) hg fun q hq => ?_) (fun _ hq => hq.1)
  obtain ⟨_, _, _, t, _, cells, hc⟩ := hq
  rintro e
  cases e
  rw [hm] at hc
  cases hc
theorem blk_turn {g : Nat} {cs : Array Value} {t : TypeId} (h : w.heap[g]? = some (.cells cs t (0, 0))) (ht : Turn w w1 base) : w1.heap[g]? = some (.cells cs t (0, 0)) := by
  obtain ⟨hg, es, c, hm⟩ := ht
  refine (hg.block g (blk_lt h) fun e => ?_).trans h
  cases e
  rw [hm] at h
  cases h
theorem below_turn {w0 : World} (h : Below w0.heap.size w0 w) (ht : Turn w w1 w0.heap.size) : Below w0.heap.size w0 w1 :=
  h.grown ht.1 h.size (fun j hj => by cases hj; exact Nat.le_refl _)
end
theorem one_id {a : Int} {b : ByteArray} {c : Bool} {d r1 : Int} {r2 : ByteArray} {r3 : Bool} {r4 : Int} (h : cellarerlaw05_One.f a b c d = some (r1, r2, r3, r4)) : a = r1 := by
  have h2 := one_is ⟨a, b, c, d⟩
  rw [h2] at h
  cases h
  rfl
/-- A version is laid down. -/
theorem update {W : World} {ops : Array Oper} {rest : List Oper} {o : Oper} {a : Act} {Q : Exit → Act → World → Prop} {base : Nat} {xs : List V} {id : Int} (y : V) (hg : o.guard = none) (m x v : Operand) (hop : o.op = Op.mapUpdate 54 m x v)
    (hm : a.eval m = .map (some base)) (hMS : MK W base xs) (hx : a.eval x = .int .u64 id) (hw : (Lit.int .u64 id).wf = true) (hid : id = y.f0) (hv : a.eval v = ver y) (hl : xs.length < maxLen)
    (hK : ∀ w', MK w' base (xs ++ [y]) → Turn W w' base → wpList Try.prog ops Q rest (a.put o.dst undef) w') : wpList Try.prog ops Q (o :: rest) a W := by
  obtain ⟨n, d, hown, rfl, hhas⟩ := hMS
  refine wpList_mapUpdate_own W hg m x v 54 hop 23 25 law map_is _ base _ d hm hown hl _ _ _ hx hv (keyOf_int_mk Try.underlying23 hw) _ [] (verElem_mk y) fun w' ho hgr => hK w' ?_ ?_
  · refine ⟨xs.length + 1, _, ho, by simp, fun j hj => ?_⟩
    by_cases he : j = id
    · subst he
      exact ⟨y, by simp, hid.symm, fun z => atKey_put_same hown.isMap (by trivial) _ _⟩
    · have hne : (Lit.int .u64 j) ≠ (Lit.int .u64 id) := by simpa using he
      rw [has_put_other hne] at hj
      obtain ⟨u, hu, h1, h2⟩ := hhas j hj
      exact ⟨u, by simp [hu], h1, fun z => by rw [atKey_put_other hne]; exact h2 z⟩
  · obtain ⟨es, clock, hq, _⟩ := hown
    exact ⟨hgr, es, clock, hq⟩
/-- Is each one that was laid found, as it was? -/
def laidAt (next laid : List V) : Option Bool := some (laid.all fun x => eqV (findF next x.f0).1 x)
theorem laid_all {next laid : List V} (h : laidAt next laid = some true) : ∀ x ∈ laid, (findF next x.f0).1 = x := fun x hx =>
  (eqV_iff _ _).1 (List.all_eq_true.1 (Option.some.inj h) x hx)
/-- What the loop over the map meets. -/
structure Meets (d : D) (next : List V) : Prop where
  at_ : ∀ (x : Int) (c : V), has d (.int .u64 x) = true → (∀ z, d.atKey (.int .u64 x) z = enc c) → ∃ kf, chain_Find.f kf next x = some (c.f0, c.f1, c.f2, c.f3, (findF next x).2)
theorem meets {d : D} {next laid : List V} (hl : laidAt next laid = some true) (hd : ∀ id : Int, has d (.int .u64 id) = true → ∃ x ∈ laid, x.f0 = id ∧ ∀ z, d.atKey (.int .u64 id) z = enc x) : Meets d next := by
  refine ⟨fun x c hx hc => ?_⟩
  obtain ⟨y, hy, h1, h2⟩ := hd x hx
  have e : c = y := enc_inj ((hc (enc c)).symm.trans (h2 (enc c)))
  have h3 := laid_all hl y hy
  rw [h1] at h3
  obtain ⟨kf, hkf⟩ := (ChFind.find_is next x).rounds
  refine ⟨kf, hkf.trans ?_⟩
  unfold tup
  rw [h3, e]
theorem keyOf_u64 {x : Int} {kl : Lit} (h : keyOf Try.prog 23 (.int .u64 x) = some kl) : kl = .int .u64 x := by
  obtain ⟨y, h1, h2, _⟩ := Maps.keyOf_int_inv Try.underlying23 h
  cases h1
  exact h2
end Go.Proofs.Ytldmidoemcdaaaa.ChMap
