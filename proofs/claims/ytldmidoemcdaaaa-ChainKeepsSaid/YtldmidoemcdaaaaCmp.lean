/-
  THE ORDER OF TEXTS: '<' goes on and parts any two; '>', '>=', '<=' as the print spells them.
-/
import Derived.Laws.Strings
namespace Go.Proofs.Ytldmidoemcdaaaa.Cmp
theorem less_irrefl : ∀ x : List UInt8, Op.bytesLess x x = false
  | [] => by simp [Op.bytesLess]
  | a :: x => by simp [Op.bytesLess, less_irrefl x]
theorem less_trans : ∀ x y z : List UInt8, Op.bytesLess x y = true → Op.bytesLess y z = true → Op.bytesLess x z = true
  | _, [], _ => by intro h; cases ‹List UInt8› <;> simp [Op.bytesLess] at h
  | _, _ :: _, [] => by intro _ h; simp [Op.bytesLess] at h
  | [], _ :: _, _ :: _ => by intro _ _; simp [Op.bytesLess]
  | a :: x, b :: y, c :: z => by
    intro h1 h2
    have ih := less_trans x y z
    simp only [Op.bytesLess, Bool.or_eq_true, Bool.and_eq_true, decide_eq_true_eq, beq_iff_eq] at h1 h2 ⊢
    rcases h1 with h1 | ⟨rfl, h1⟩ <;> rcases h2 with h2 | ⟨rfl, h2⟩
    · exact .inl (UInt8.lt_trans h1 h2)
    · exact .inl h1
    · exact .inl h2
    · exact .inr ⟨rfl, ih h1 h2⟩
theorem less_tri : ∀ x y : List UInt8, Op.bytesLess x y = false → Op.bytesLess y x = false → x = y
  | [], [] => fun _ _ => rfl
  | [], _ :: _ => by intro h; simp [Op.bytesLess] at h
  | _ :: _, [] => by intro _ h; simp [Op.bytesLess] at h
  | a :: x, b :: y => by
    intro h1 h2
    have ih := less_tri x y
    simp only [Op.bytesLess, Bool.or_eq_false_iff, decide_eq_false_iff_not, Bool.and_eq_false_iff, beq_eq_false_iff_ne] at h1 h2
    have e : a = b := UInt8.le_antisymm (UInt8.not_lt.1 h2.1) (UInt8.not_lt.1 h1.1)
    subst e
    rcases h1.2 with h | h
    · exact absurd rfl h
    · rcases h2.2 with h' | h'
      · exact absurd rfl h'
      · rw [ih h h']
theorem less_other (x y : List UInt8) : (!(Op.bytesLess x y || x == y)) = Op.bytesLess y x := by
  cases h1 : Op.bytesLess x y with
  | true =>
    cases h2 : Op.bytesLess y x with
    | false => rfl
    | true =>
      have := less_trans x y x h1 h2
      rw [less_irrefl] at this
      cases this
  | false =>
    cases h2 : Op.bytesLess y x with
    | true =>
      have hne : (x == y) = false := by
        cases h3 : x == y with
        | false => rfl
        | true =>
          rw [beq_iff_eq.1 h3, less_irrefl] at h2
          cases h2
      rw [hne]
      rfl
    | false =>
      rw [less_tri x y h1 h2]
      simp
theorem less_eq_other (x y : List UInt8) : (Op.bytesLess x y || x == y) = !Op.bytesLess y x := by
  rw [← less_other x y, Bool.not_not]
@[go_sem] theorem binOp_gtr (t : TypeId) (a b : ByteArray) : binOp .gtr t (.string a) (.string b) = pure (.bool (Op.bytesLess b.toList a.toList)) := by
  rw [← less_other]
  simp [binOp, Op.stringOp]
@[go_sem] theorem binOp_geq (t : TypeId) (a b : ByteArray) : binOp .geq t (.string a) (.string b) = pure (.bool !(Op.bytesLess a.toList b.toList)) := by
  simp [binOp, Op.stringOp]
@[go_sem] theorem binOp_leq (t : TypeId) (a b : ByteArray) : binOp .leq t (.string a) (.string b) = pure (.bool !(Op.bytesLess b.toList a.toList)) := by
  rw [← less_eq_other]
  simp [binOp, Op.stringOp]
end Go.Proofs.Ytldmidoemcdaaaa.Cmp
