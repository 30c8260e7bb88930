/-
  A NUMBER's DIGITS, base ten; Atoi of these; a text's two parts.
-/
import Derived.Test.YtmlnkdknpogknaaDoorPureKit
import Derived.Test.YtmlnkdknpogknaaDoorLaid
import Derived.Lib.AtoiTie
import Derived.Lib.ItoaLen
set_option linter.unusedVariables false
set_option linter.unusedSimpArgs false
namespace Go.Proofs.YtmlnkdknpogknaaDoor.Dig
open Go.RowKit Go.Proofs.YtmlnkdknpogknaaDoorW.PrintWords Go.Proofs.YtmlnkdknpogknaaDoor.PureKit Go.Proofs.YtmlnkdknpogknaaDoor.Laid

/-! ### Digits -/
def dig (n : Nat) : List Nat := if h : n < 10 then [48 + n] else dig (n / 10) ++ [48 + n % 10]
termination_by n
decreasing_by omega
theorem dig_small {n : Nat} (h : n < 10) : dig n = [48 + n] := by rw [dig, dif_pos h]
theorem dig_big {n : Nat} (h : ¬ n < 10) : dig n = dig (n / 10) ++ [48 + n % 10] := by rw [dig, dif_neg h]
theorem dig_is : ∀ (k n : Nat), n < k → (Lib.decDigits n).map UInt8.toNat = dig n
  | 0, n, h => by omega
  | k + 1, n, h => by
    by_cases h1 : n < 10
    · rw [dig_small h1, Lib.decDigits_one h1]
      simp
      omega
    · rw [dig_big h1, Lib.decDigits, dif_neg h1, List.map_append, dig_is k (n / 10) (by omega)]
      simp
      omega
theorem oc_itoa {n : Int} (h : 0 ≤ n) : oc (⟨(Lib.itoa n).toArray⟩ : ByteArray) = dig n.toNat := by
  unfold oc Lib.itoa
  rw [if_neg (by omega)]
  exact dig_is _ _ (Nat.lt_succ_self _)
theorem dig_range (n : Nat) : ∀ x ∈ dig n, 48 ≤ x ∧ x ≤ 57 := by
  suffices h : ∀ k n : Nat, n < k → ∀ x ∈ dig n, 48 ≤ x ∧ x ≤ 57 from h _ n (Nat.lt_succ_self n)
  intro k
  induction k with
  | zero => intro n hn; omega
  | succ k ih =>
    intro n hn x hx
    by_cases h1 : n < 10
    · rw [dig_small h1] at hx
      simp at hx
      omega
    · rw [dig_big h1] at hx
      rcases List.mem_append.1 hx with hx | hx
      · exact ih (n / 10) (by omega) x hx
      · simp at hx
        omega
theorem dig_ne (n : Nat) : dig n ≠ [] := by
  rw [dig]
  split <;> simp
theorem dig_len : ∀ (k n : Nat), n < 10 ^ (k + 1) → (dig n).length ≤ k + 1
  | 0, n, h => by
    rw [dig_small (by omega)]
    simp
  | k + 1, n, h => by
    by_cases h1 : n < 10
    · rw [dig_small h1]
      simp
    · rw [dig_big h1, List.length_append]
      have := dig_len k (n / 10) (by rw [Nat.pow_succ] at h; omega)
      simp
      omega
/-! ### Atoi of digits -/
theorem dec_app (l : List UInt8) (b : UInt8) : ∀ acc, Lib.decFrom acc (l ++ [b]) = (Lib.decFrom acc l).bind fun a => (Lib.digitVal b).map fun d => a * 10 + d := by
  induction l with
  | nil =>
    intro acc
    simp only [List.nil_append, Lib.decFrom, Option.bind_some]
    cases Lib.digitVal b <;> rfl
  | cons c r ih =>
    intro acc
    simp only [List.cons_append, Lib.decFrom]
    cases Lib.digitVal c with
    | none => rfl
    | some d => exact ih _
theorem digit_val {d : Nat} (h : d < 10) : Lib.digitVal (UInt8.ofNat (48 + d)) = some d := by
  unfold Lib.digitVal
  have : (UInt8.ofNat (48 + d)).toNat = 48 + d := by simp; omega
  rw [this, if_pos (by omega)]
  congr 1
  omega
theorem dec_digits : ∀ (k n : Nat), n < k → Lib.decFrom 0 (Lib.decDigits n) = some n
  | 0, n, h => by omega
  | k + 1, n, h => by
    by_cases h1 : n < 10
    · rw [Lib.decDigits_one h1]
      simp only [Lib.decFrom, digit_val h1]
      simp
    · rw [Lib.decDigits, dif_neg h1, dec_app, dec_digits k (n / 10) (by omega), digit_val (by omega)]
      simp
      omega
theorem first_digit (n : Nat) : ∃ b r, Lib.decDigits n = b :: r ∧ 48 ≤ b.toNat := by
  have h := dig_range n
  rw [← dig_is _ n (Nat.lt_succ_self n)] at h
  cases hd : Lib.decDigits n with
  | nil =>
    have := dig_ne n
    rw [← dig_is _ n (Nat.lt_succ_self n), hd] at this
    simp at this
  | cons b r =>
    rw [hd] at h
    exact ⟨b, r, rfl, (h b.toNat (by simp)).1⟩
theorem atoi_digits {n : Nat} (h : n ≤ 1099511627775) : atoiF (Lib.decDigits n) = ((n : Int), true) := by
  have hl : (Lib.decDigits n).length ≤ 13 := by
    have := dig_len 12 n (by omega)
    rwa [← dig_is _ n (Nat.lt_succ_self n), List.length_map] at this
  have ha : Lib.atoi (Lib.decDigits n) = some (n : Int) := by
    obtain ⟨b, r, hb, h48⟩ := first_digit n
    rw [hb]
    have h45 : (b == 45) = false := by rw [beq_eq_false_iff_ne]; rintro rfl; simp at h48
    have h43 : (b == 43) = false := by rw [beq_eq_false_iff_ne]; rintro rfl; simp at h48
    simp only [Lib.atoi, h45, h43, Bool.false_eq_true, if_false]
    rw [← hb]
    unfold Lib.decNat
    have : (Lib.decDigits n).isEmpty = false := by rw [hb]; rfl
    rw [this, dec_digits _ n (Nat.lt_succ_self n)]
    rfl
  unfold atoiF
  rw [Lib.atoiAll_short _ (by omega), ha]
  rfl
theorem oc_map {s : ByteArray} {l : List UInt8} (h : s.data.toList = l) : oc s = l.map UInt8.toNat := by unfold oc; rw [h]
/-! ### A text's two parts -/
theorem first_of (d : Nat) : ∀ l : List Nat, d ∉ l ∨ ∃ a b, l = a ++ d :: b ∧ d ∉ a
  | [] => .inl (by simp)
  | x :: r => by
    by_cases e : x = d
    · exact .inr ⟨[], r, by simp [e], by simp⟩
    · rcases first_of d r with h | ⟨a, b, h, hd⟩
      · exact .inl (by simp only [List.mem_cons, not_or]; exact ⟨fun q => e q.symm, h⟩)
      · exact .inr ⟨x :: a, b, by rw [h]; rfl, by simp only [List.mem_cons, not_or]; exact ⟨fun q => e q.symm, hd⟩⟩
theorem one_cut {d : Nat} : ∀ {a a' b b' : List Nat}, a ++ d :: b = a' ++ d :: b' → d ∉ a → d ∉ a' → a = a' ∧ b = b'
  | [], [], b, b', h, _, _ => by simpa using h
  | [], x :: a', b, b', h, _, h2 => by
    simp only [List.nil_append, List.cons_append, List.cons.injEq] at h
    exact absurd (by rw [h.1]; simp) h2
  | x :: a, [], b, b', h, h1, _ => by
    simp only [List.nil_append, List.cons_append, List.cons.injEq] at h
    exact absurd (by rw [← h.1]; simp) h1
  | x :: a, y :: a', b, b', h, h1, h2 => by
    simp only [List.cons_append, List.cons.injEq, List.mem_cons, not_or] at h h1 h2
    obtain ⟨e1, e2⟩ := one_cut h.2 h1.2 h2.2
    exact ⟨by rw [h.1, e1], e2⟩
theorem dig_45 (n : Nat) : 45 ∉ dig n := fun h => by have := dig_range n 45 h; omega
end Go.Proofs.YtmlnkdknpogknaaDoor.Dig
