/-
  tag: A TAG's TEXT: eight digits of base sixteen.
-/
import Derived.Test.YtmlnkdknpogknaaDoorTagMore
import Derived.Lib.ConvBytes
import Derived.Laws.BytesArg
namespace Go.Proofs.YtmlnkdknpogknaaDoor.TagText
open Go.RowKit Go.Proofs.YtmlnkdknpogknaaDoor.TagOnce

/-- Digit number n, as an octet. -/
def dg (n : Nat) : UInt8 := if n < 10 then (48 + n).toUInt8 else (87 + n).toUInt8
/-- Octet i of a tag's text. -/
def tx (t : Int) (i : Nat) : UInt8 := dg (t.toNat / 2 ^ (28 - 4 * i) % 16)
def ta (t : Int) (k : Nat) : Array Value := ((List.range 8).map fun i => if i < k then Value.int .u8 ((tx t i).toNat : Int) else .int .u8 0).toArray
def text (t : Int) : List UInt8 := (List.range 8).map (tx t)
theorem zero_eight (W : World) : (zeroValue 42).run Tryd.prog W = .ok (.agg (ta 0 0)) W := by kernel_rfl
theorem ta_start (t : Int) : ta 0 0 = ta t 0 := by
  unfold ta
  congr 1
theorem ta_cell (t : Int) (k i : Nat) (h : i < 8) : (ta t k)[i]? = some (if i < k then Value.int .u8 ((tx t i).toNat : Int) else .int .u8 0) := by
  unfold ta
  simp [h]
theorem ta_step (t : Int) (k : Nat) (h : k < 8) : (ta t k).setIfInBounds k (.int .u8 ((tx t k).toNat : Int)) = ta t (k + 1) := by
  apply Array.ext_getElem?
  intro i
  rw [Array.getElem?_setIfInBounds]
  have hs : (ta t k).size = 8 := by simp [ta]
  by_cases hi : i < 8
  · rw [ta_cell t k i hi, ta_cell t (k + 1) i hi]
    by_cases e : k = i
    · subst e
      simp [hs, hi]
    · simp only [e, if_false]
      by_cases h2 : i < k
      · rw [if_pos h2, if_pos (by omega)]
      · rw [if_neg h2, if_neg (by omega)]
  · have h1 : (ta t k)[i]? = none := by simp [ta]; omega
    have h2 : (ta t (k + 1))[i]? = none := by simp [ta]; omega
    rw [h1, h2, if_neg (by omega)]

theorem and15 (t : Int) (k : Nat) (h0 : 0 ≤ t) (h1 : t < 4294967296) : 0 ≤ Go.bits .and .u32 (t / 2 ^ (28 - 4 * k)) 15 ∧ Go.bits .and .u32 (t / 2 ^ (28 - 4 * k)) 15 < 16 ∧ (Go.bits .and .u32 (t / 2 ^ (28 - 4 * k)) 15).toNat = t.toNat / 2 ^ (28 - 4 * k) % 16 := by
  obtain ⟨n, rfl⟩ := Int.eq_ofNat_of_zero_le h0
  have hn : n < 2 ^ 32 := by omega
  have e : ((n : Int) / 2 ^ (28 - 4 * k)) = ((n / 2 ^ (28 - 4 * k) : Nat) : Int) := by
    rw [Int.natCast_ediv, Int.natCast_pow]; rfl
  have hq : n / 2 ^ (28 - 4 * k) < 2 ^ 32 := Nat.lt_of_le_of_lt (Nat.div_le_self _ _) hn
  rw [e, Int.toNat_natCast]
  generalize n / 2 ^ (28 - 4 * k) = q at *
  have ha' : q % 2 ^ IntKind.u32.bits = q := Nat.mod_eq_of_lt hq
  have h1' : 15 % 2 ^ IntKind.u32.bits = 15 := rfl
  have h : q &&& 15 = q % 16 := Nat.and_two_pow_sub_one_eq_mod q 4
  have : Go.bits .and .u32 (q : Int) 15 = ((q % 16 : Nat) : Int) := by
    rw [show (15 : Int) = ((15 : Nat) : Int) from rfl]
    simp only [Go.bits, BitVec.ofInt_natCast, BitVec.toNat_and, BitVec.toNat_ofNat, ha', h1', h, IntKind.wrap_u32]
    omega
  rw [this]
  omega
theorem digit_at (n : Nat) (h : n < (⟨#[48, 49, 50, 51, 52, 53, 54, 55, 56, 57, 97, 98, 99, 100, 101, 102]⟩ : ByteArray).size) : (⟨#[48, 49, 50, 51, 52, 53, 54, 55, 56, 57, 97, 98, 99, 100, 101, 102]⟩ : ByteArray)[n].toNat = (dg n).toNat := by
  have h16 : n < 16 := h
  have : n = 0 ∨ n = 1 ∨ n = 2 ∨ n = 3 ∨ n = 4 ∨ n = 5 ∨ n = 6 ∨ n = 7 ∨ n = 8 ∨ n = 9 ∨ n = 10 ∨ n = 11 ∨ n = 12 ∨ n = 13 ∨ n = 14 ∨ n = 15 := by omega
  rcases this with rfl | rfl | rfl | rfl | rfl | rfl | rfl | rfl | rfl | rfl | rfl | rfl | rfl | rfl | rfl | rfl <;> rfl

theorem nums_text (l : List UInt8) : strOfNums (l.map fun c => (c.toNat : Int)) = ⟨l.toArray⟩ := by
  unfold strOfNums
  congr 1
  simp [List.map_map, Function.comp_def]
theorem text_cv (t : Int) (w : World) : (convert 43 9 (.slice (some ⟨w.heap.size, 0, none⟩) 8 8)).run Tryd.prog (w.alloc (.cells (ta t 8) 42)) = .ok (.string ⟨(text t).toArray⟩) (w.alloc (.cells (ta t 8) 42)) := by
  have h := run_convert_bytes_arg (P := Tryd.prog) (w.alloc (.cells (ta t 8) 42)) 43 5 Tryd.underlying43 Tryd.underlying5 w.heap.size 0 8 8 ((text t).map fun c => (c.toNat : Int)) (by simp [text]) (fun i hi => by
    rw [Nat.zero_add, World.cell?_alloc_at (ta t 8) _ w.heap.size i rfl, ta_cell t 8 i hi, if_pos hi]
    simp [text, hi]) 9 Tryd.underlying9
  rw [nums_text] at h
  exact h

set_option maxRecDepth 100000 in
set_option maxHeartbeats 1600000 in
theorem text_any (t : Int) (w : World) (h0 : 0 ≤ t) (h1 : t < 4294967296) :
    Calls Tryd.prog 6 #[.int .u32 t] w fun e w' => e = .returned (.string ⟨(text t).toArray⟩) ∧ Below w.heap.size w w' := by
  have hz := zero_eight
  go_enter Tryd.func6, Tryd.ntmps6
  go_wp2
  rw [ta_start t]
  go_loopw [5] (fun i wr => ∃ k : Nat, k ≤ 8 ∧ i = .int .i64 k ∧ wr = w.alloc (.cells (ta t k) 42)) (fun i _ => 8 - (intOf i).toNat)
  case atStart => exact ⟨0, by omega, rfl, rfl⟩
  case round =>
    obtain ⟨k, hk, rfl, rfl⟩ := hrel
    by_cases hlt : k < 8
    · have hs0 : 0 ≤ 28 - 4 * (k : Int) := by omega
      have hs1 : 28 - 4 * (k : Int) ≤ 32 := by omega
      have hb0 : 0 ≤ Go.bits .and .u32 (t / 2 ^ (28 - 4 * k)) 15 := (and15 t k h0 h1).1
      have hb1 : Go.bits .and .u32 (t / 2 ^ (28 - 4 * k)) 15 < 16 := (and15 t k h0 h1).2.1
      have hc : (ta t k)[k]? = some (.int .u8 0) := by rw [ta_cell t k k hlt, if_neg (by omega)]
      go_wp2
      refine ⟨⟨k + 1, by omega, by go_num, ?_⟩, by simp [intOf]; omega⟩
      rw [digit_at, (and15 t k h0 h1).2.2]
      exact congrArg (fun z => w.alloc (.cells z 42)) (ta_step t k hlt)
    · obtain rfl : k = 8 := by omega
      have hcv := text_cv t w
      go_wp2
      go_ret
      exact ⟨rfl, (Below.refl _ _).alloc (Nat.le_refl _) _⟩
end Go.Proofs.YtmlnkdknpogknaaDoor.TagText
