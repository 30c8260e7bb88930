/-
  tag: WHAT THE PRINTED FUNCTIONS OF LAYER 4 COMPUTE, in TagNat's words.
-/
import Derived.Test.YtmlnkdknpogknaaPx
import Derived.Test.YtmlnkdknpogknaaPureKit
import Derived.Test.YtmlnkdknpogknaaTagMore
namespace Go.Proofs.Ytmlnkdknpogknaa.PureTag
open Go.RowKit Go.Proofs.Ytmlnkdknpogknaa.P Go.Proofs.YtmlnkdknpogknaaW.PrintWords Go.Proofs.YtmlnkdknpogknaaW.PrintLast Go.Proofs.YtmlnkdknpogknaaW.PrintMore Go.Proofs.Ytmlnkdknpogknaa.PureKit

theorem few (s : ByteArray) : ∃ t : ByteArray, Ev (fun k => cellarerlaw02_Few.f k s) t ∧ t.size ≤ 4100 := by
  unfold cellarerlaw02_Few.f
  by_cases h1 : (s.size : Int) > 300
  · by_cases h2 : (s.size : Int) ≤ 4000
    · refine ⟨s.extract 0 300, ev_pos h1 (ev_one fun k => ?_), by rw [ByteArray.size_extract]; omega⟩
      simp only [cellarerlaw02_Few.j0]
      rw [if_pos (by simpa using h2), if_pos (by omega), if_pos (by omega)]
    · by_cases h3 : (s.size : Int) > 4100
      · refine ⟨s.extract 0 4100, ev_pos h1 (ev_one fun k => ?_), by rw [ByteArray.size_extract]; omega⟩
        simp only [cellarerlaw02_Few.j0]
        rw [if_neg (by simpa using h2), if_pos h3, if_pos (by omega), if_pos (by omega)]
      · refine ⟨s, ev_pos h1 (ev_one fun k => ?_), by omega⟩
        simp only [cellarerlaw02_Few.j0]
        rw [if_neg (by simpa using h2), if_neg h3]
  · refine ⟨s, ev_neg h1 (ev_one fun k => ?_), by omega⟩
    simp only [cellarerlaw02_Few.j0]
    rw [if_neg (by simp), if_neg (by omega)]
theorem more_is (t : Nat) (s : ByteArray) (ht : t < 2 ^ 32) (hs : s.size ≤ 4100) : tag_More.f (t : Int) s = some ((TagNat.more t (oc s) : Nat) : Int) := by
  unfold tag_More.f
  rw [if_pos ⟨by omega, by omega, by omega⟩, Int.toNat_natCast]
  rfl
theorem of_is (s : ByteArray) (hs : s.size ≤ 4100) : tag_Of.f s = some ((TagNat.more 0 (oc s) : Nat) : Int) := by
  unfold tag_Of.f
  rw [show (0 : Int) = ((0 : Nat) : Int) from rfl, more_is 0 s (by omega) hs]
  rfl
theorem more_lt (t : Nat) (l : List Nat) : TagNat.more t l < 2 ^ 32 := TagNat.no_lt _
theorem awake_is : cellarerlaw04_awake.f = some true := by decide +kernel
/-- The reference's step: eight bits on. -/
theorem step_l0 : ∀ (d c i k : Nat), d + i = 8 → d < k → c < 2 ^ 32 → cellarerref04_step.l0 k (c : Int) (i : Int) = some ((TagNat.sN d c : Nat) : Int)
  | 0, c, i, k, hi, hk, hc => by
    obtain ⟨k, rfl⟩ : ∃ m, k = m + 1 := ⟨k - 1, by omega⟩
    simp only [cellarerref04_step.l0]
    rw [if_neg (by omega)]
    rfl
  | d + 1, c, i, k, hi, hk, hc => by
    obtain ⟨k, rfl⟩ : ∃ m, k = m + 1 := ⟨k - 1, by omega⟩
    have ih := step_l0 d (TagNat.s c) (i + 1) k (by omega) (by omega) (TagNat.s_lt hc)
    simp only [cellarerref04_step.l0]
    rw [if_pos (by omega), wrap_id (by omega) (by omega), show ((i : Int) + 1) = ((i + 1 : Nat) : Int) by omega]
    have e : (Int.tdiv (c : Int) 2) % 4294967296 = ((c / 2 : Nat) : Int) := by
      rw [Int.tdiv_eq_ediv_of_nonneg (by omega)]
      omega
    have e2 : Int.tmod (c : Int) 2 = ((c % 2 : Nat) : Int) := by
      rw [Int.tmod_eq_emod_of_nonneg (by omega)]
      omega
    rw [e, e2, show (2197175160 : Int) = ((TagNat.pol : Nat) : Int) from rfl, TagMore.xor_u32 _ _ (by omega) (by decide)]
    have hs : TagNat.sN (d + 1) c = TagNat.sN d (TagNat.s c) := rfl
    rw [hs]
    by_cases ho : c % 2 = 1
    · rw [if_pos (by omega)]
      rw [← ih]
      unfold TagNat.s
      rw [if_pos ho]
    · rw [if_neg (by omega)]
      rw [← ih]
      unfold TagNat.s
      rw [if_neg ho]
theorem step_is (c x k : Nat) (hc : c < 2 ^ 32) (hx : x < 256) (hk : 8 < k) : cellarerref04_step.f k (c : Int) (x : Int) = some ((TagNat.sN 8 (c ^^^ x) : Nat) : Int) := by
  unfold cellarerref04_step.f
  rw [show ((x : Int) % 4294967296) = (x : Int) by omega, TagMore.xor_u32 _ _ hc (by omega)]
  exact step_l0 8 (c ^^^ x) 0 k rfl hk (Nat.xor_lt_two_pow hc (by omega))
theorem sub_no (c : Nat) (hc : c < 2 ^ 32) : (4294967295 - (c : Int)) % 4294967296 = ((TagNat.no c : Nat) : Int) := by unfold TagNat.no; omega
theorem ref_of_l0 (s : ByteArray) (hs : s.size ≤ 4100) : ∀ (rest pre : List Nat) (c k : Nat), oc s = pre ++ rest → rest.length + 9 < k → c < 2 ^ 32 →
    cellarerref04_Of.l0 k s (c : Int) (pre.length : Int) = some ((TagNat.no (TagNat.run c rest) : Nat) : Int)
  | [], pre, c, k, h, hk, hc => by
    obtain ⟨k, rfl⟩ : ∃ m, k = m + 1 := ⟨k - 1, by omega⟩
    have := size_split h
    simp only [cellarerref04_Of.l0]
    rw [if_neg (by simp at this; omega), sub_no c hc]
    rfl
  | x :: rest, pre, c, k, h, hk, hc => by
    obtain ⟨k, rfl⟩ : ∃ m, k = m + 1 := ⟨k - 1, by omega⟩
    have hz := size_split h
    simp at hz hk
    have hx : x < 256 := oc_lt s x (by rw [h]; simp)
    have hc2 := TagNat.sN_lt 8 (Nat.xor_lt_two_pow hc (show x < 2 ^ 32 by omega))
    have ih := ref_of_l0 s hs rest (pre ++ [x]) (TagNat.sN 8 (c ^^^ x)) k (by rw [h]; simp) (by omega) hc2
    simp only [cellarerref04_Of.l0]
    rw [if_pos (by omega), if_pos (by omega), bt_split h, step_is c x k hc hx (by omega)]
    simp only [Option.bind_some]
    rw [wrap_id (by omega) (by omega), show ((pre.length : Int) + 1) = (((pre ++ [x]).length : Nat) : Int) by simp, ih]
    rfl
theorem ref_of (s : ByteArray) (hs : s.size ≤ 4100) : Ev (fun k => cellarerref04_Of.f k s) ((TagNat.more 0 (oc s) : Nat) : Int) :=
  ⟨s.size + 10, fun k hk => by
    have := ref_of_l0 s hs (oc s) [] (TagNat.no 0) k rfl (by rw [oc_length]; omega) (TagNat.no_lt 0)
    exact this⟩
theorem ref_more_l0 (s : ByteArray) (hs : s.size ≤ 4100) : ∀ (rest pre : List Nat) (c k : Nat), oc s = pre ++ rest → rest.length + 9 < k → c < 2 ^ 32 →
    cellarerref04_More.l0 k s (c : Int) (pre.length : Int) = some ((TagNat.no (TagNat.run c rest) : Nat) : Int)
  | [], pre, c, k, h, hk, hc => by
    obtain ⟨k, rfl⟩ : ∃ m, k = m + 1 := ⟨k - 1, by omega⟩
    have := size_split h
    simp only [cellarerref04_More.l0]
    rw [if_neg (by simp at this; omega), sub_no c hc]
    rfl
  | x :: rest, pre, c, k, h, hk, hc => by
    obtain ⟨k, rfl⟩ : ∃ m, k = m + 1 := ⟨k - 1, by omega⟩
    have hz := size_split h
    simp at hz hk
    have hx : x < 256 := oc_lt s x (by rw [h]; simp)
    have hc2 := TagNat.sN_lt 8 (Nat.xor_lt_two_pow hc (show x < 2 ^ 32 by omega))
    have ih := ref_more_l0 s hs rest (pre ++ [x]) (TagNat.sN 8 (c ^^^ x)) k (by rw [h]; simp) (by omega) hc2
    simp only [cellarerref04_More.l0]
    rw [if_pos (by omega), if_pos (by omega), bt_split h, step_is c x k hc hx (by omega)]
    simp only [Option.bind_some]
    rw [wrap_id (by omega) (by omega), show ((pre.length : Int) + 1) = (((pre ++ [x]).length : Nat) : Int) by simp, ih]
    rfl
theorem ref_more (t : Nat) (s : ByteArray) (ht : t < 2 ^ 32) (hs : s.size ≤ 4100) : Ev (fun k => cellarerref04_More.f k (t : Int) s) ((TagNat.more t (oc s) : Nat) : Int) :=
  ⟨s.size + 10, fun k hk => by
    have := ref_more_l0 s hs (oc s) [] (TagNat.no t) k rfl (by rw [oc_length]; omega) (TagNat.no_lt t)
    unfold cellarerref04_More.f
    rw [sub_no t ht]
    exact this⟩
end Go.Proofs.Ytmlnkdknpogknaa.PureTag
