/-
  chain.Put's own map of function values: what is found in it under each state.
-/
import Derived.Test.YtldmidoemcdaaaaPx0
import Derived.Test.YtldmidoemcdaaaaPureKit
import Derived.Maps.OwnSet
import Derived.Carry
set_option linter.unusedVariables false
namespace Go.Proofs.Ytldmidoemcdaaaa.VMap
open Go.RowKit Go.Maps Go.Proofs.Ytldmidoemcdaaaa.P Go.Proofs.YtldmidoemcdaaaaW.PrintWords Go.Proofs.Ytldmidoemcdaaaa.PureKit

abbrev D := DataW Unit
/-- How a function's value reads: by the function's number; -1: it is another value. -/
def fnElem : Value → Option (D × List MemPlace)
  | .func (.func g) a b => if a.size = 0 ∧ b.size = 0 then some (.lit (.int .i64 g), []) else some (.lit (.int .i64 (-1)), [])
  | _ => some (.lit (.int .i64 (-1)), [])
theorem fnElem_mk (g : Nat) : fnElem (.func (.func g) #[] #[]) = some (.lit (.int .i64 g), []) := rfl
theorem fnElem_inv {v : Value} {g : Nat} {ps : List MemPlace} (h : fnElem v = some (.lit (.int .i64 (g : Int)), ps)) : v = .func (.func g) #[] #[] := by
  unfold fnElem at h
  split at h
  · rename_i q a b
    split at h
    · rename_i hc
      obtain ⟨ha, hb⟩ := hc
      obtain rfl := Array.eq_empty_of_size_eq_zero ha
      obtain rfl := Array.eq_empty_of_size_eq_zero hb
      simp only [Option.some.injEq, Prod.mk.injEq, DataW.lit.injEq, Lit.int.injEq, true_and] at h
      have : q = g := Int.ofNat.inj h.1
      rw [this]
    · simp only [Option.some.injEq, Prod.mk.injEq, DataW.lit.injEq, Lit.int.injEq, true_and] at h
      have := h.1
      omega
  · simp only [Option.some.injEq, Prod.mk.injEq, DataW.lit.injEq, Lit.int.injEq, true_and] at h
    have := h.1
    omega
theorem law : Keyed Try.prog 3 := int_keyed Try.underlying3
abbrev F0 : Value := .func (.func 26) #[] #[]
abbrev F1 : Value := .func (.func 27) #[] #[]
abbrev MT : Nat := 61
abbrev FT : Nat := 58
theorem key_mk {a : Int} (h : (Lit.int .i64 a).wf = true) : keyOf Try.prog 3 (.int .i64 a) = some (.int .i64 a) := keyOf_int_mk Try.underlying3 h
theorem zero_fn (w : World) : (zeroValue FT).run Try.prog w = .ok .nilFunc w := by kernel_rfl

/-- The three stores, and the look-up behind them. -/
theorem made (w : World) (state : Int) (hs : (Lit.int .i64 state).wf = true) : ∃ M1 M2 M3 : World, ∃ v : Value, ∃ is : Bool,
    (Instr.mapUpdate 61 (.map (some w.heap.size)) (.int .i64 0) (.func (.func 26) #[] #[])).run Try.prog (w.alloc (.map #[] 0)) = .ok () M1 ∧
    (Instr.mapUpdate 61 (.map (some w.heap.size)) (.int .i64 1) (.func (.func 27) #[] #[])).run Try.prog M1 = .ok () M2 ∧
    (Instr.mapUpdate 61 (.map (some w.heap.size)) (.int .i64 2) (.func (.func 26) #[] #[])).run Try.prog M2 = .ok () M3 ∧
    (Instr.lookup 61 (.map (some w.heap.size)) (.int .i64 state) true).run Try.prog M3 = .ok (.tuple #[v, .bool is]) M3 ∧
    Below w.heap.size w M3 ∧ (is = decide (state = 0 ∨ state = 1 ∨ state = 2)) ∧ (state = 0 ∨ state = 2 → v = (.func (.func 26) #[] #[])) ∧ (state = 1 → v = (.func (.func 27) #[] #[])) := by
  have ht : Try.prog.underlying 61 = some (.map 3 58) := by kernel_rfl
  obtain ⟨M1, r1, o1, g1⟩ := (World.ownsMap_made (H := Unit) w Try.prog 3 fnElem).update law ht (by decide) (key_mk (a := 0) (by decide)) (fnElem_mk 26)
  obtain ⟨M2, r2, o2, g2⟩ := o1.update law ht (by decide) (key_mk (a := 1) (by decide)) (fnElem_mk 27)
  obtain ⟨M3, r3, o3, g3⟩ := o2.update law ht (by decide) (key_mk (a := 2) (by decide)) (fnElem_mk 26)
  obtain ⟨v, ps, r4, h4⟩ := o3.look_ok law ht (zero_fn M3) (zd := .lit (.int .i64 (-1))) (zp := []) (by rfl) (key_mk hs)
  have b0 : Below w.heap.size w (w.alloc (.map #[] 0)) := below_alloc (Below.refl _ _) _
  have b1 := b0.grown g1 b0.size (fun k e => by cases e; exact Nat.le_refl _)
  have b2 := b1.grown g2 b1.size (fun k e => by cases e; exact Nat.le_refl _)
  have b3 := b2.grown g3 b2.size (fun k e => by cases e; exact Nat.le_refl _)
  refine ⟨M1, M2, M3, v, _, r1, r2, r3, r4, b3, ?_, ?_, ?_⟩
  · by_cases h : state = 0 ∨ state = 1 ∨ state = 2
    · rw [decide_eq_true h]
      rcases h with rfl | rfl | rfl <;> rfl
    · rw [decide_eq_false h]
      simp only [not_or] at h
      obtain ⟨n0, n1, n2⟩ := h
      show has (DataW.map [(Lit.int .i64 0, DataW.lit (Lit.int .i64 26)), (Lit.int .i64 1, DataW.lit (Lit.int .i64 27)), (Lit.int .i64 2, DataW.lit (Lit.int .i64 26))]) (Lit.int .i64 state) = false
      simp [has, Lit.sameKey]
      omega
  · rintro (rfl | rfl)
    · exact fnElem_inv h4
    · exact fnElem_inv h4
  · rintro rfl
    exact fnElem_inv h4
end Go.Proofs.Ytldmidoemcdaaaa.VMap
