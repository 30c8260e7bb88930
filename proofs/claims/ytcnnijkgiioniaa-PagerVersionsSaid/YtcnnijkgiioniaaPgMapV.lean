/-
  A COUNT OF TEXTS that the call fills: a map from texts to whole numbers (PagerVersions): how many there are.
-/
import Derived.Maps.OwnSet
import Derived.Carry
import Derived.Test.YtcnnijkgiioniaaProg
import Derived.Test.YtcnnijkgiioniaaCmp
import Derived.Test.YtcnnijkgiioniaaV0
set_option linter.unusedVariables false
namespace Go.Proofs.Ytcnnijkgiioniaa.PgMapV
open Go.RowKit Go.Maps Go.WideMaps Go.ChangeMaps Go.Proofs.YtcnnijkgiioniaaW.PrintWords Go.Proofs.YtcnnijkgiioniaaW.PrintMore

abbrev D := DataW Unit
theorem law : Keyed Try.prog 9 := string_keyed Try.underlying9
theorem zero_i (w : World) : (zeroValue 3).run Try.prog w = .ok (.int .i64 0) w := by kernel_rfl
theorem map_is : Try.prog.underlying 63 = some (.map 9 3) := by kernel_rfl
/-- The texts, each once. -/
def addD (acc : List ByteArray) (s : ByteArray) : List ByteArray := if (acc.any fun y => y.toList == s.toList) = true then acc else acc ++ [s]
def dset (xs : List ByteArray) : List ByteArray := xs.foldl addD []
def distN (xs : List ByteArray) : Nat := (dset xs).length
theorem dset_any_aux (t : ByteArray) : ∀ (xs acc : List ByteArray), ((xs.foldl addD acc).any fun y => y.toList == t.toList) = ((acc.any fun y => y.toList == t.toList) || (xs.any fun y => y.toList == t.toList))
  | [], acc => by simp
  | s :: r, acc => by
    rw [List.foldl_cons, dset_any_aux t r (addD acc s), List.any_cons, ← Bool.or_assoc]
    congr 1
    unfold addD
    split
    · rename_i h
      by_cases he : s.toList = t.toList
      · rw [← he, h]
        simp
      · have : (s.toList == t.toList) = false := by simpa using he
        rw [this, Bool.or_false]
    · rw [List.any_append]
      simp
theorem dset_any (xs : List ByteArray) (t : ByteArray) : ((dset xs).any fun y => y.toList == t.toList) = (xs.any fun y => y.toList == t.toList) := by
  unfold dset
  rw [dset_any_aux]
  simp
theorem dist_snoc (xs : List ByteArray) (s : ByteArray) : distN (xs ++ [s]) = if (xs.any fun y => y.toList == s.toList) = true then distN xs else distN xs + 1 := by
  unfold distN
  have : dset (xs ++ [s]) = addD (dset xs) s := by
    unfold dset
    rw [List.foldl_append]
    rfl
  rw [this]
  unfold addD
  rw [dset_any]
  split
  · rfl
  · simp
/-- The map that counts these texts, in block mb. -/
def MV (w : World) (base mb : Nat) (xs : List ByteArray) : Prop := ∃ (n : Nat) (d : D), base ≤ mb ∧ w.ownsMap Try.prog 9 (plainElem Try.prog 3) mb n d ∧ n = xs.length ∧
  (∀ s : ByteArray, has d (.string s.data.toList) = (xs.any fun y => y.toList == s.toList)) ∧ size d = distN xs
section
variable {w w1 : World} {base mb : Nat} {xs : List ByteArray}
theorem made (w : World) {base : Nat} (hb : base ≤ w.heap.size) : MV (w.alloc (.map #[] 0)) base w.heap.size [] :=
  ⟨_, _, hb, World.ownsMap_made _ _ _ _, rfl, fun s => rfl, rfl⟩
theorem MV_below (h : MV w base mb xs) (hb : Below w.heap.size w w1) : MV w1 base mb xs := by
  obtain ⟨n, d, h2, h0, h4⟩ := h
  have hlt := h0.lt
  obtain ⟨es, clock, hm, h3⟩ := h0
  exact ⟨n, d, h2, ⟨es, clock, (hb.block mb hlt).trans hm, h3⟩, h4⟩
theorem MV_alloc (h : MV w base mb xs) (o : Obj) : MV (w.alloc o) base mb xs := MV_below h (below_alloc (Below.refl _ _) o)
theorem MV_drew (h : MV w base mb xs) : MV w.drew base mb xs := MV_below h (below_drew (Below.refl _ _))
theorem MV_drewN (h : MV w base mb xs) (m : Nat) : MV (w.drewN m) base mb xs := MV_below h (pw_below_drewN (Below.refl _ _) m)
/-- The block of the map has turned, of the call's own. -/
def Turn (w w1 : World) (base mb : Nat) : Prop := w.grownBy w1 (some mb) ∧ base ≤ mb ∧ (∃ es c, w.heap[mb]? = some (.map es c))
theorem S_turn {α : Type} {k : Kd α} {e b : Nat} {ok : Nat → Prop} {u : Value} {ys : List α} (h : Kd.S k e w b ok u ys) (ht : Turn w w1 base mb) : Kd.S k e w1 b ok u ys := by
  obtain ⟨hg, _, es, c, hm⟩ := ht
  refine Kd.S_mono (Kd.S_grown (Kd.S_bound h) hg fun q hq => ?_) (fun _ hq => hq.1)
  obtain ⟨_, _, _, t, _, cells, hc⟩ := hq
  rintro e
  cases e
  rw [hm] at hc
  cases hc
theorem V_turn {α : Type} {k : Kd α} {e b : Nat} {ok : Nat → Prop} {u : Value} {ys : List α} (h : Kd.V k e w b (fun q => ok q ∧ q ≠ mb) u ys) (ht : Turn w w1 base mb) : Kd.V k e w1 b (fun q => ok q ∧ q ≠ mb) u ys :=
  Kd.V_grown h ht.1 fun q hq e => hq.2 (Option.some.inj e)
theorem below_turn {w0 : World} (h : Below w0.heap.size w0 w) (ht : Turn w w1 w0.heap.size mb) : Below w0.heap.size w0 w1 :=
  h.grown ht.1 h.size (fun j hj => by cases hj; exact ht.2.1)
end
/-- A text is counted. -/
theorem update {W : World} {ops : Array Oper} {rest : List Oper} {o : Oper} {a : Act} {Q : Exit → Act → World → Prop} {base mb : Nat} {xs : List ByteArray} {s : ByteArray} {c : Int} {val : Value} (hg : o.guard = none) (m x v : Operand) (hop : o.op = Op.mapUpdate 63 m x v)
    (hm : a.eval m = .map (some mb)) (hMS : MV W base mb xs) (hx : a.eval x = .string s) (hs : s.size ≤ maxLen) (hv : a.eval v = val) (hval : plainElem (H := Unit) Try.prog 3 val = some (.lit (.int .i64 c), [])) (hl : xs.length < maxLen)
    (hK : ∀ w', MV w' base mb (xs ++ [s]) → Turn W w' base mb → wpList Try.prog ops Q rest (a.put o.dst undef) w') : wpList Try.prog ops Q (o :: rest) a W := by
  obtain ⟨n, d, hb, hown, rfl, hhas, hsz⟩ := hMS
  refine wpList_mapUpdate_own W hg m x v 63 hop 9 3 law map_is _ mb _ d hm hown hl _ _ _ hx hv (keyOf_string_mk Try.underlying9 hs) _ [] hval fun w' ho hgr => hK w' ?_ ?_
  · refine ⟨xs.length + 1, _, hb, ho, by simp, fun t => ?_, ?_⟩
    · by_cases he : s.toList = t.toList
      · have he' : s.data.toList = t.data.toList := by rw [← ByteArray.toList_eq, ← ByteArray.toList_eq]; exact he
        rw [← he', has_put_same hown.isMap (by trivial)]
        simp [he]
      · have he' : t.data.toList ≠ s.data.toList := fun e => he (by rw [ByteArray.toList_eq, ByteArray.toList_eq]; exact e.symm)
        rw [has_put_other (by simpa using he'), hhas]
        simp [he]
    · rw [dist_snoc, ← hhas s, ← hsz]
      exact size_put (hown.tidy law) _
  · obtain ⟨es, clock, hq, _⟩ := hown
    exact ⟨hgr, hb, es, clock, hq⟩
/-- A text's count. -/
theorem look {W : World} {ops : Array Oper} {rest : List Oper} {o : Oper} {a : Act} {Q : Exit → Act → World → Prop} {base mb : Nat} {xs : List ByteArray} {s : ByteArray} (hg : o.guard = none) (m x : Operand) (hop : o.op = Op.lookup 63 m x false)
    (hm : a.eval m = .map (some mb)) (hMS : MV W base mb xs) (hx : a.eval x = .string s) (hs : s.size ≤ maxLen)
    (hK : ∀ c : Int, wpList Try.prog ops Q rest (a.put o.dst (.int .i64 c)) W) : wpList Try.prog ops Q (o :: rest) a W := by
  obtain ⟨n, d, hb, hown, rfl, hhas, hsz⟩ := hMS
  exact wpList_lookup_own_int W hg m x _ hop 9 3 .i64 law map_is Try.underlying3 (zero_i W) mb _ d hm hown _ _ hx (keyOf_string_mk Try.underlying9 hs) (fun c _ _ => hK c)
def lenAt (xs : List ByteArray) : Option Int := some (distN xs : Int)
/-- How many texts there are. -/
theorem len_ {W : World} {ops : Array Oper} {rest : List Oper} {o : Oper} {a : Act} {Q : Exit → Act → World → Prop} {base mb : Nat} {xs : List ByteArray} {r : Int} (hg : o.guard = none) (m : Operand) (hop : o.op = Op.call { callee := Callee.builtin Builtin.len, args := #[m], argTypes := #[63] })
    (hm : a.eval m = .map (some mb)) (hMS : MV W base mb xs) (h : lenAt xs = some r) (hK : wpList Try.prog ops Q rest (a.put o.dst (.int .i64 r)) W) : wpList Try.prog ops Q (o :: rest) a W := by
  obtain ⟨n, d, hb, hown, rfl, hhas, hsz⟩ := hMS
  obtain rfl := Option.some.inj h
  refine wpList_len_own W hg m _ hop 9 3 map_is _ mb _ d hm hown ?_
  rw [hsz]
  exact hK
end Go.Proofs.Ytcnnijkgiioniaa.PgMapV
