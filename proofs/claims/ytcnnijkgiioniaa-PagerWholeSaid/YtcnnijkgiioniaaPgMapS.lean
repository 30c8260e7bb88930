/-
  A SET OF TEXTS that the call fills: a map from texts to true (PagerWhole).
-/
import Derived.Test.YtcnnijkgiioniaaPx0
import Derived.Maps.OwnSet
import Derived.Carry
set_option linter.unusedVariables false
namespace Go.Proofs.Ytcnnijkgiioniaa.PgMapS
open Go.RowKit Go.Maps Go.WideMaps Go.ChangeMaps Go.Proofs.Ytcnnijkgiioniaa.P Go.Proofs.YtcnnijkgiioniaaW.PrintWords Go.Proofs.YtcnnijkgiioniaaW.PrintMore

abbrev D := DataW Unit
theorem law : Keyed Try.prog 9 := string_keyed Try.underlying9
theorem zero_b (w : World) : (zeroValue 4).run Try.prog w = .ok (.bool false) w := by kernel_rfl
theorem map_is : Try.prog.underlying 42 = some (.map 9 4) := by kernel_rfl
theorem bool_is : Try.prog.underlying 4 = some .bool := by kernel_rfl
theorem bool_inv {v : Value} {b : Bool} {ps : List MemPlace} (h : plainElem (H := Unit) Try.prog 4 v = some (.lit (.bool b), ps)) : v = .bool b := by
  unfold plainElem at h
  rw [bool_is] at h
  cases v <;> simp at h
  rw [h.1]
/-- The map that holds these texts. -/
def MS (w : World) (base : Nat) (v : Value) (xs : List ByteArray) : Prop := ∃ (mb n : Nat) (d : D), v = .map (some mb) ∧ base ≤ mb ∧ w.ownsMap Try.prog 9 (plainElem Try.prog 4) mb n d ∧ n = xs.length ∧
  ∀ s : ByteArray, d.atKey (.string s.data.toList) (.lit (.bool false)) = .lit (.bool (xs.any fun y => y.toList == s.toList))
section
variable {w w1 : World} {base mb : Nat} {v : Value} {xs : List ByteArray}
theorem made (w : World) {base : Nat} (hb : base ≤ w.heap.size) : MS (w.alloc (.map #[] 0)) base (.map (some w.heap.size)) [] :=
  ⟨w.heap.size, 0, _, rfl, hb, World.ownsMap_made _ _ _ _, rfl, fun s => rfl⟩
theorem MS_heap (h : MS w base v xs) (hm : ∀ b, v = .map (some b) → w1.heap[b]? = w.heap[b]?) : MS w1 base v xs := by
  obtain ⟨mb, n, d, h1, h2, ⟨es, clock, hb, h3⟩, h4⟩ := h
  exact ⟨mb, n, d, h1, h2, ⟨es, clock, (hm mb h1).trans hb, h3⟩, h4⟩
theorem MS_lt (h : MS w base v xs) : ∀ b, v = .map (some b) → b < w.heap.size := by
  obtain ⟨mb, n, d, h1, h2, h3, h4⟩ := h
  rintro b rfl
  cases h1
  exact h3.lt
theorem MS_below (h : MS w base v xs) (hb : Below w.heap.size w w1) : MS w1 base v xs := MS_heap h fun b hv => hb.block b (MS_lt h b hv)
theorem MS_alloc (h : MS w base v xs) (o : Obj) : MS (w.alloc o) base v xs := MS_below h (below_alloc (Below.refl _ _) o)
theorem MS_drew (h : MS w base v xs) : MS w.drew base v xs := MS_below h (below_drew (Below.refl _ _))
theorem MS_drewN (h : MS w base v xs) (m : Nat) : MS (w.drewN m) base v xs := MS_below h (pw_below_drewN (Below.refl _ _) m)
/-- A block that is no cells has turned, of the call's own. -/
def Turn (w w1 : World) (base : Nat) : Prop := ∃ mb, w.grownBy w1 (some mb) ∧ base ≤ mb ∧ (∃ es c, w.heap[mb]? = some (.map es c))
theorem R_turn {α : Type} {k : Kd α} {e b : Nat} {ok : Nat → Prop} {u : Value} {ys : List α} (h : k.R e w b ok u ys) (ht : Turn w w1 base) : k.R e w1 b ok u ys := by
  obtain ⟨mb, hg, _, es, c, hm⟩ := ht
  refine Kd.R_mono (Kd.R_grown (Kd.R_bound h) hg fun q hq => ?_) (fun _ hq => hq.1)
  obtain ⟨_, _, _, t, _, cells, hc⟩ := hq
  rintro e
  cases e
  rw [hm] at hc
  cases hc
theorem S_turn {α : Type} {k : Kd α} {e b : Nat} {ok : Nat → Prop} {u : Value} {ys : List α} (h : Kd.S k e w b ok u ys) (ht : Turn w w1 base) : Kd.S k e w1 b ok u ys := by
  obtain ⟨mb, hg, _, es, c, hm⟩ := ht
  refine Kd.S_mono (Kd.S_grown (Kd.S_bound h) hg fun q hq => ?_) (fun _ hq => hq.1)
  obtain ⟨_, _, _, t, _, cells, hc⟩ := hq
  rintro e
  cases e
  rw [hm] at hc
  cases hc
theorem blk_turn {g : Nat} {cs : Array Value} {t : TypeId} (h : w.heap[g]? = some (.cells cs t (0, 0))) (ht : Turn w w1 base) : w1.heap[g]? = some (.cells cs t (0, 0)) := by
  obtain ⟨mb, hg, _, es, c, hm⟩ := ht
  refine (hg.block g (blk_lt h) fun e => ?_).trans h
  cases e
  rw [hm] at h
  cases h
theorem below_turn {w0 : World} (h : Below w0.heap.size w0 w) (ht : Turn w w1 w0.heap.size) : Below w0.heap.size w0 w1 := by
  obtain ⟨mb, hg, hb, _⟩ := ht
  exact h.grown hg h.size (fun j hj => by cases hj; exact hb)
end
/-- A text is put into the set. -/
theorem update {W : World} {ops : Array Oper} {rest : List Oper} {o : Oper} {a : Act} {Q : Exit → Act → World → Prop} {base : Nat} {u : Value} {xs : List ByteArray} {s : ByteArray} (hg : o.guard = none) (m x v : Operand) (hop : o.op = Op.mapUpdate 42 m x v)
    (hm : a.eval m = u) (hMS : MS W base u xs) (hx : a.eval x = .string s) (hs : s.size ≤ maxLen) (hv : a.eval v = .bool true) (hl : xs.length < maxLen)
    (hK : ∀ w', MS w' base u (xs ++ [s]) → Turn W w' base → wpList Try.prog ops Q rest (a.put o.dst undef) w') : wpList Try.prog ops Q (o :: rest) a W := by
  obtain ⟨mb, n, d, rfl, hb, hown, rfl, hat⟩ := hMS
  refine wpList_mapUpdate_own W hg m x v 42 hop 9 4 law map_is _ mb _ d hm hown hl _ _ _ hx hv (keyOf_string_mk Try.underlying9 hs) _ [] (plainElem_bool bool_is true) fun w' ho hgr => hK w' ?_ ?_
  · refine ⟨mb, xs.length + 1, _, rfl, hb, ho, by simp, fun t => ?_⟩
    by_cases he : s.toList = t.toList
    · have he' : s.data.toList = t.data.toList := by rw [← ByteArray.toList_eq, ← ByteArray.toList_eq]; exact he
      rw [← he', atKey_put_same hown.isMap (by trivial)]
      simp [he]
    · have he' : t.data.toList ≠ s.data.toList := fun e => he (by rw [ByteArray.toList_eq, ByteArray.toList_eq]; exact e.symm)
      rw [atKey_put_other (by simpa using he'), hat]
      simp [he]
  · obtain ⟨es, clock, hq, _⟩ := hown
    exact ⟨mb, hgr, hb, es, clock, hq⟩
def hasAt (xs : List ByteArray) (s : ByteArray) : Option Bool := if s.size ≤ 1000000 then some (xs.any fun y => y.toList == s.toList) else none
/-- Is a text in the set? -/
theorem look {W : World} {ops : Array Oper} {rest : List Oper} {o : Oper} {a : Act} {Q : Exit → Act → World → Prop} {base : Nat} {u : Value} {xs : List ByteArray} {s : ByteArray} {b : Bool} (hg : o.guard = none) (m x : Operand) (hop : o.op = Op.lookup 42 m x false)
    (hm : a.eval m = u) (hMS : MS W base u xs) (hx : a.eval x = .string s) (h : hasAt xs s = some b)
    (hK : wpList Try.prog ops Q rest (a.put o.dst (.bool b)) W) : wpList Try.prog ops Q (o :: rest) a W := by
  obtain ⟨mb, n, d, rfl, hb, hown, rfl, hat⟩ := hMS
  unfold hasAt at h
  split at h
  · rename_i hs
    obtain rfl := Option.some.inj h
    refine wpList_plain hg fun K' hK' => ?_
    obtain ⟨v, ps, hrun, hv⟩ := hown.lookup law map_is (zero_b W) (plainElem_bool bool_is false) (keyOf_string_mk Try.underlying9 (Nat.le_trans hs (by decide) : s.size ≤ maxLen))
    rw [hat] at hv
    obtain rfl := bool_inv hv
    unfold Oper.wp execOp
    simp only [hop, hm, hx, Sem.run_bind, Sem.run_pure, hrun, Result.andThen_ok]
    exact hK' _ _ hK
  · cases h
end Go.Proofs.Ytcnnijkgiioniaa.PgMapS
