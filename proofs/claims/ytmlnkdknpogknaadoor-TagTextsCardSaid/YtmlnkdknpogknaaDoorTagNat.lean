/-
  tag: THE PLAIN MATHEMATICS of a register's steps: linear (exclusive-or), one to one; no program here.
-/
namespace Go.Proofs.YtmlnkdknpogknaaDoor.TagNat

def pol : Nat := 2197175160
/-- One bit on. -/
def s (c : Nat) : Nat := if c % 2 = 1 then c / 2 ^^^ pol else c / 2
def sN : Nat → Nat → Nat
  | 0, c => c
  | k + 1, c => sN k (s c)
theorem xor_half (a b : Nat) : (a ^^^ b) / 2 = a / 2 ^^^ b / 2 := by
  have := Nat.shiftRight_xor_distrib (i := 1) (a := a) (b := b)
  simpa [Nat.shiftRight_succ, Nat.shiftRight_zero] using this
theorem xor_odd (a b : Nat) : (a ^^^ b) % 2 = (a + b) % 2 := by
  have h := Nat.testBit_xor a b 0
  simp only [Nat.testBit_zero] at h
  have h1 : a % 2 = 0 ∨ a % 2 = 1 := by omega
  have h2 : b % 2 = 0 ∨ b % 2 = 1 := by omega
  have h3 : (a ^^^ b) % 2 = 0 ∨ (a ^^^ b) % 2 = 1 := by omega
  rcases h1 with h1 | h1 <;> rcases h2 with h2 | h2 <;> rcases h3 with h3 | h3 <;> simp [h1, h2, h3] at h <;> omega
theorem xor4 (a b p : Nat) : (a ^^^ p) ^^^ (b ^^^ p) = a ^^^ b := by
  rw [Nat.xor_assoc, Nat.xor_comm b p, ← Nat.xor_assoc p p b, Nat.xor_self, Nat.zero_xor]
theorem s_xor (a b : Nat) : s (a ^^^ b) = s a ^^^ s b := by
  have ho := xor_odd a b
  have hh := xor_half a b
  unfold s
  rw [hh, ho]
  have h1 : a % 2 = 0 ∨ a % 2 = 1 := by omega
  have h2 : b % 2 = 0 ∨ b % 2 = 1 := by omega
  rcases h1 with h1 | h1 <;> rcases h2 with h2 | h2
  · rw [if_neg (by omega), if_neg (by omega), if_neg (by omega)]
  · rw [if_pos (by omega), if_neg (by omega), if_pos (by omega), Nat.xor_assoc]
  · rw [if_pos (by omega), if_pos (by omega), if_neg (by omega), Nat.xor_assoc, Nat.xor_comm (b / 2) pol, ← Nat.xor_assoc]
  · rw [if_neg (by omega), if_pos (by omega), if_pos (by omega), xor4]
theorem s_zero : s 0 = 0 := by decide
theorem sN_xor (k : Nat) : ∀ a b, sN k (a ^^^ b) = sN k a ^^^ sN k b := by
  induction k with
  | zero => intro a b; rfl
  | succ k ih => intro a b; show sN k (s (a ^^^ b)) = _; rw [s_xor, ih]; rfl
theorem s_lt {c : Nat} (h : c < 2 ^ 32) : s c < 2 ^ 32 := by
  unfold s
  split
  · exact Nat.xor_lt_two_pow (by omega) (by unfold pol; decide)
  · omega
theorem sN_lt (k : Nat) : ∀ {c : Nat}, c < 2 ^ 32 → sN k c < 2 ^ 32 := by
  induction k with
  | zero => intro c h; exact h
  | succ k ih => intro c h; exact ih (s_lt h)
theorem s_even (y : Nat) : s (2 * y) = y := by
  unfold s
  rw [if_neg (by omega)]
  omega
theorem s_null {c : Nat} (h : c < 2 ^ 32) (h0 : s c = 0) : c = 0 := by
  unfold s at h0
  split at h0
  · rename_i ho
    have h1 : c / 2 = pol := by
      have := congrArg (· ^^^ pol) h0
      simpa [Nat.xor_assoc] using this
    unfold pol at h1
    omega
  · omega
theorem xor_eq_zero_of {a b : Nat} (h : a ^^^ b = 0) : a = b := by
  have := congrArg (· ^^^ b) h
  simpa [Nat.xor_assoc] using this
theorem s_inj {a b : Nat} (ha : a < 2 ^ 32) (hb : b < 2 ^ 32) (h : s a = s b) : a = b := by
  refine xor_eq_zero_of (s_null (Nat.xor_lt_two_pow ha hb) ?_)
  rw [s_xor, h, Nat.xor_self]
theorem sN_inj (k : Nat) : ∀ {a b : Nat}, a < 2 ^ 32 → b < 2 ^ 32 → sN k a = sN k b → a = b := by
  induction k with
  | zero => intro a b _ _ h; exact h
  | succ k ih => intro a b ha hb h; exact s_inj ha hb (ih (s_lt ha) (s_lt hb) h)
theorem sN_last (k : Nat) : ∀ c, sN (k + 1) c = s (sN k c) := by
  induction k with
  | zero => intro c; rfl
  | succ k ih => intro c; show sN (k + 1) (s c) = _; rw [ih]; rfl
theorem s8_high (y : Nat) : sN 8 (256 * y) = y := by
  have e : 256 * y = 2 * (2 * (2 * (2 * (2 * (2 * (2 * (2 * y))))))) := by omega
  rw [e]
  show s (s (s (s (s (s (s (s _))))))) = y
  simp only [s_even]
theorem parts (c : Nat) : c = c % 256 ^^^ 256 * (c / 256) := by
  apply Nat.eq_of_testBit_eq
  intro i
  rw [Nat.testBit_xor, show (256 : Nat) = 2 ^ 8 from rfl, Nat.testBit_mod_two_pow, Nat.testBit_two_pow_mul, Nat.testBit_div_two_pow]
  by_cases h : i < 8
  · simp [h, show ¬ (8 ≤ i) by omega]
  · simp [h, show 8 ≤ i by omega, show i - 8 + 8 = i by omega]
/-- A table's step is eight bits' steps. -/
theorem by_table (c x : Nat) : sN 8 (c % 256 ^^^ x) ^^^ c / 256 = sN 8 (c ^^^ x) := by
  have h := parts c
  have e : c ^^^ x = (c % 256 ^^^ x) ^^^ 256 * (c / 256) := by
    rw [Nat.xor_assoc, Nat.xor_comm x, ← Nat.xor_assoc, ← h]
  rw [e, sN_xor 8 (c % 256 ^^^ x) (256 * (c / 256)), s8_high]

/-- A register behind octets. -/
def run (c : Nat) : List Nat → Nat
  | [] => c
  | x :: r => run (sN 8 (c ^^^ x)) r
theorem run_append (l m : List Nat) : ∀ c, run c (l ++ m) = run (run c l) m := by
  induction l with
  | nil => intro c; rfl
  | cons x r ih => intro c; exact ih _
theorem run_lt (l : List Nat) : ∀ {c}, c < 2 ^ 32 → (∀ x ∈ l, x < 256) → run c l < 2 ^ 32 := by
  induction l with
  | nil => intro c h _; exact h
  | cons x r ih =>
    intro c h hx
    have h1 : x < 256 := hx x (by simp)
    exact ih (sN_lt 8 (Nat.xor_lt_two_pow h (by omega))) (fun y hy => hx y (by simp [hy]))
theorem run_inj (l : List Nat) : ∀ {a b}, a < 2 ^ 32 → b < 2 ^ 32 → (∀ x ∈ l, x < 256) → run a l = run b l → a = b := by
  induction l with
  | nil => intro a b _ _ _ h; exact h
  | cons x r ih =>
    intro a b ha hb hx h
    have h1 : x < 256 := hx x (by simp)
    have ha' : a ^^^ x < 2 ^ 32 := Nat.xor_lt_two_pow ha (by omega)
    have hb' : b ^^^ x < 2 ^ 32 := Nat.xor_lt_two_pow hb (by omega)
    have := sN_inj 8 ha' hb' (ih (sN_lt 8 ha') (sN_lt 8 hb') (fun y hy => hx y (by simp [hy])) h)
    have := congrArg (· ^^^ x) this
    simpa [Nat.xor_assoc] using this
/-- Octets that part in one place part in their register. -/
theorem run_parts (l m : List Nat) (x y : Nat) {c : Nat} (hc : c < 2 ^ 32) (hl : ∀ z ∈ l, z < 256) (hm : ∀ z ∈ m, z < 256) (hx : x < 256) (hy : y < 256) (hne : x ≠ y) : run c (l ++ x :: m) ≠ run c (l ++ y :: m) := by
  intro h
  rw [run_append, run_append] at h
  have h0 := run_lt l hc hl
  have hx' : run c l ^^^ x < 2 ^ 32 := Nat.xor_lt_two_pow h0 (by omega)
  have hy' : run c l ^^^ y < 2 ^ 32 := Nat.xor_lt_two_pow h0 (by omega)
  have h1 := sN_inj 8 hx' hy' (run_inj m (sN_lt 8 hx') (sN_lt 8 hy') hm h)
  have h2 := congrArg (run c l ^^^ ·) h1
  simp only [← Nat.xor_assoc, Nat.xor_self, Nat.zero_xor] at h2
  exact hne h2
/-- Octet by octet together. -/
theorem run_xor (l m : List Nat) : ∀ a b, l.length = m.length → run (a ^^^ b) (List.zipWith (· ^^^ ·) l m) = run a l ^^^ run b m := by
  induction l generalizing m with
  | nil => intro a b h; cases m with
    | nil => rfl
    | cons _ _ => simp at h
  | cons x r ih => intro a b h; cases m with
    | nil => simp at h
    | cons y q =>
      show run (sN 8 (a ^^^ b ^^^ (x ^^^ y))) _ = run (sN 8 (a ^^^ x)) r ^^^ run (sN 8 (b ^^^ y)) q
      rw [← ih q _ _ (by simpa using h), ← sN_xor]
      congr 2
      rw [Nat.xor_assoc, Nat.xor_assoc, ← Nat.xor_assoc b x y, Nat.xor_comm b x, Nat.xor_assoc x b y]
/-- All bits turned. -/
def no (c : Nat) : Nat := 4294967295 - c
theorem no_xor {c : Nat} (h : c < 2 ^ 32) : no c = c ^^^ 4294967295 := by
  apply Nat.eq_of_testBit_eq
  intro i
  unfold no
  rw [show 4294967295 - c = 2 ^ 32 - (c + 1) by omega, Nat.testBit_two_pow_sub_succ h, Nat.testBit_xor, show (4294967295 : Nat) = 2 ^ 32 - 1 from rfl, Nat.testBit_two_pow_sub_one]
  by_cases hi : i < 32
  · simp [hi]
  · have h2 : c < 2 ^ i := Nat.lt_of_lt_of_le h (Nat.pow_le_pow_right (by decide) (by omega))
    simp [hi, Nat.testBit_lt_two_pow h2]
theorem no_lt (c : Nat) : no c < 2 ^ 32 := by unfold no; omega
theorem no_no {c : Nat} (h : c < 2 ^ 32) : no (no c) = c := by unfold no; omega
/-- More octets' tag. -/
def more (t : Nat) (l : List Nat) : Nat := no (run (no t) l)
end Go.Proofs.YtmlnkdknpogknaaDoor.TagNat
