/-
  layer 4: WHAT THE PRINTED FUNCTIONS OF A TAG'S TEXT ANSWER, in TagTx's words.
-/
import Derived.Test.YtmlnkdknpogknaaDoorTagTx
import Derived.Test.YtmlnkdknpogknaaDoorTagMore
import Derived.Test.YtmlnkdknpogknaaDoorStrLite
set_option linter.unusedVariables false
set_option linter.unusedSimpArgs false
namespace Go.Proofs.YtmlnkdknpogknaaDoor.TagPure
open Go.RowKit Go.Proofs.YtmlnkdknpogknaaDoor.P Go.Proofs.YtmlnkdknpogknaaDoorW.PrintWords Go.Proofs.YtmlnkdknpogknaaDoorW.PrintLast Go.Proofs.YtmlnkdknpogknaaDoorW.PrintMore Go.Proofs.YtmlnkdknpogknaaDoor.PureKit Go.Proofs.YtmlnkdknpogknaaDoor.Laid Go.Proofs.YtmlnkdknpogknaaDoor.Dig Go.Proofs.YtmlnkdknpogknaaDoor.TagTx

theorem few (s : ByteArray) : ∃ t : ByteArray, Ev (fun k => cellarerlaw02_Few.f k s) t ∧ t.size ≤ 4100 := by
  unfold cellarerlaw02_Few.f
  by_cases h1 : (s.size : Int) > 300
  · by_cases h2 : (s.size : Int) ≤ 4000
    · refine ⟨s.extract 0 300, ev_pos h1 (ev_one fun k => ?_), by rw [ByteArray.size_extract]; omega⟩
      simp only [cellarerlaw02_Few.j0]
      rw [if_pos (by simpa using h2), if_pos (by omega), if_pos (by omega)]
    · by_cases h3 : (s.size : Int) > 4100
      · refine ⟨s.extract 0 4100, ev_pos h1 (ev_one fun k => ?_), by rw [ByteArray.size_extract]; omega⟩
        simp only [cellarerlaw02_Few.j0]
        rw [if_neg (by simpa using h2), if_pos h3, if_pos (by omega), if_pos (by omega)]
      · refine ⟨s, ev_pos h1 (ev_one fun k => ?_), by omega⟩
        simp only [cellarerlaw02_Few.j0]
        rw [if_neg (by simpa using h2), if_neg h3]
  · refine ⟨s, ev_neg h1 (ev_one fun k => ?_), by omega⟩
    simp only [cellarerlaw02_Few.j0]
    rw [if_neg (by simp), if_neg (by omega)]
theorem more_is (t : Nat) (s : ByteArray) (ht : t < 2 ^ 32) (hs : s.size ≤ 4100) : tag_More.f (t : Int) s = some ((TagNat.more t (oc s) : Nat) : Int) := by
  unfold tag_More.f
  rw [if_pos ⟨by omega, by omega, by omega⟩, Int.toNat_natCast]
  rfl
theorem of_is (s : ByteArray) (hs : s.size ≤ 4100) : tag_Of.f s = some ((TagNat.more 0 (oc s) : Nat) : Int) := by
  unfold tag_Of.f
  rw [show (0 : Int) = ((0 : Nat) : Int) from rfl, more_is 0 s (by omega) hs]
  rfl
theorem more_lt (t : Nat) (l : List Nat) : TagNat.more t l < 2 ^ 32 := TagNat.no_lt _
theorem awake_is : cellarerlaw04_awake.f = some true := by decide +kernel
/-- The reference's step: eight bits on. -/
theorem step_l0 : ∀ (d c i k : Nat), d + i = 8 → d < k → c < 2 ^ 32 → cellarerref04_step.l0 k (c : Int) (i : Int) = some ((TagNat.sN d c : Nat) : Int)
  | 0, c, i, k, hi, hk, hc => by
    obtain ⟨k, rfl⟩ : ∃ m, k = m + 1 := ⟨k - 1, by omega⟩
    simp only [cellarerref04_step.l0]
    rw [if_neg (by omega)]
    rfl
  | d + 1, c, i, k, hi, hk, hc => by
    obtain ⟨k, rfl⟩ : ∃ m, k = m + 1 := ⟨k - 1, by omega⟩
    have ih := step_l0 d (TagNat.s c) (i + 1) k (by omega) (by omega) (TagNat.s_lt hc)
    simp only [cellarerref04_step.l0]
    rw [if_pos (by omega), wrap_id (by omega) (by omega), show ((i : Int) + 1) = ((i + 1 : Nat) : Int) by omega]
    have e : (Int.tdiv (c : Int) 2) % 4294967296 = ((c / 2 : Nat) : Int) := by
      rw [Int.tdiv_eq_ediv_of_nonneg (by omega)]
      omega
    have e2 : Int.tmod (c : Int) 2 = ((c % 2 : Nat) : Int) := by
      rw [Int.tmod_eq_emod_of_nonneg (by omega)]
      omega
    rw [e, e2, show (2197175160 : Int) = ((TagNat.pol : Nat) : Int) from rfl, TagMore.xor_u32 _ _ (by omega) (by decide)]
    have hs : TagNat.sN (d + 1) c = TagNat.sN d (TagNat.s c) := rfl
    rw [hs]
    by_cases ho : c % 2 = 1
    · rw [if_pos (by omega)]
      rw [← ih]
      unfold TagNat.s
      rw [if_pos ho]
    · rw [if_neg (by omega)]
      rw [← ih]
      unfold TagNat.s
      rw [if_neg ho]
theorem step_is (c x k : Nat) (hc : c < 2 ^ 32) (hx : x < 256) (hk : 8 < k) : cellarerref04_step.f k (c : Int) (x : Int) = some ((TagNat.sN 8 (c ^^^ x) : Nat) : Int) := by
  unfold cellarerref04_step.f
  rw [show ((x : Int) % 4294967296) = (x : Int) by omega, TagMore.xor_u32 _ _ hc (by omega)]
  exact step_l0 8 (c ^^^ x) 0 k rfl hk (Nat.xor_lt_two_pow hc (by omega))
theorem sub_no (c : Nat) (hc : c < 2 ^ 32) : (4294967295 - (c : Int)) % 4294967296 = ((TagNat.no c : Nat) : Int) := by unfold TagNat.no; omega
theorem ref_of_l0 (s : ByteArray) (hs : s.size ≤ 4100) : ∀ (rest pre : List Nat) (c k : Nat), oc s = pre ++ rest → rest.length + 9 < k → c < 2 ^ 32 →
    cellarerref04_Of.l0 k s (c : Int) (pre.length : Int) = some ((TagNat.no (TagNat.run c rest) : Nat) : Int)
  | [], pre, c, k, h, hk, hc => by
    obtain ⟨k, rfl⟩ : ∃ m, k = m + 1 := ⟨k - 1, by omega⟩
    have := size_split h
    simp only [cellarerref04_Of.l0]
    rw [if_neg (by simp at this; omega), sub_no c hc]
    rfl
  | x :: rest, pre, c, k, h, hk, hc => by
    obtain ⟨k, rfl⟩ : ∃ m, k = m + 1 := ⟨k - 1, by omega⟩
    have hz := size_split h
    simp at hz hk
    have hx : x < 256 := oc_lt s x (by rw [h]; simp)
    have hc2 := TagNat.sN_lt 8 (Nat.xor_lt_two_pow hc (show x < 2 ^ 32 by omega))
    have ih := ref_of_l0 s hs rest (pre ++ [x]) (TagNat.sN 8 (c ^^^ x)) k (by rw [h]; simp) (by omega) hc2
    simp only [cellarerref04_Of.l0]
    rw [if_pos (by omega), if_pos (by omega), bt_split h, step_is c x k hc hx (by omega)]
    simp only [Option.bind_some]
    rw [wrap_id (by omega) (by omega), show ((pre.length : Int) + 1) = (((pre ++ [x]).length : Nat) : Int) by simp, ih]
    rfl
theorem ref_of (s : ByteArray) (hs : s.size ≤ 4100) : Ev (fun k => cellarerref04_Of.f k s) ((TagNat.more 0 (oc s) : Nat) : Int) :=
  ⟨s.size + 10, fun k hk => by
    have := ref_of_l0 s hs (oc s) [] (TagNat.no 0) k rfl (by rw [oc_length]; omega) (TagNat.no_lt 0)
    exact this⟩
theorem one_digit {n : Nat} {s : ByteArray} {l : List Nat} (h : oc s = l) : oc (strOfNums [wrap64 (48 + Int.tmod (n : Int) 10) % 256] ++ s) = (48 + n % 10) :: l := by
  have e : wrap64 (48 + Int.tmod (n : Int) 10) % 256 = ((48 + n % 10 : Nat) : Int) := by
    rw [Int.tmod_eq_emod_of_nonneg (by omega), wrap_id (by omega) (by omega)]
    omega
  rw [e, oc_append, h]
  have := nums_oc [48 + n % 10] (by intro x hx; simp at hx; omega)
  simp only [List.map_cons, List.map_nil] at this
  rw [this]
  rfl
theorem one_size (x : Int) : (strOfNums [x]).size = 1 := rfl
theorem index_in {c : UInt8} : ∀ {a : List UInt8} (b : List UInt8), c ∉ a → Lib.indexByte (a ++ c :: b) c = (a.length : Int)
  | [], b, _ => by simp [Lib.indexByte]
  | x :: r, b, h => by
    simp only [List.mem_cons, not_or] at h
    have hx : (x == c) = false := by simpa using fun e => h.1 e.symm
    have ih := index_in b h.2
    rw [List.cons_append, Lib.indexByte, hx, ih]
    have : ((r.length : Int) == -1) = false := by simp
    rw [this]
    simp
theorem index_no {c : UInt8} : ∀ {a : List UInt8}, c ∉ a → Lib.indexByte a c = -1
  | [], _ => rfl
  | x :: r, h => by
    simp only [List.mem_cons, not_or] at h
    have hx : (x == c) = false := by simpa using fun e => h.1 e.symm
    rw [Lib.indexByte, hx, index_no h.2]
    simp
theorem nat_mem {c : UInt8} {l : List UInt8} : c.toNat ∈ l.map UInt8.toNat ↔ c ∈ l := by
  rw [List.mem_map]
  constructor
  · rintro ⟨x, hx, e⟩
    rw [← UInt8.toNat_inj.1 e]
    exact hx
  · exact fun h => ⟨c, h, rfl⟩
theorem idx_none {s : ByteArray} {c : UInt8} (h : c.toNat ∉ oc s) : StrLite.idx s c = -1 := index_no (fun hc => h (nat_mem.2 hc))
theorem idx_some {s : ByteArray} {c : UInt8} {a b : List Nat} (h : oc s = a ++ c.toNat :: b) (ha : c.toNat ∉ a) : StrLite.idx s c = (a.length : Int) := by
  unfold StrLite.idx
  obtain ⟨a', r', h1, h2, h3⟩ := List.map_eq_append_iff.1 (show s.data.toList.map UInt8.toNat = a ++ c.toNat :: b from h)
  obtain ⟨c', b', h4, h5, h6⟩ := List.map_eq_cons_iff.1 h3
  obtain rfl := UInt8.toNat_inj.1 h5
  rw [h1, h4, index_in b' (fun hc => ha (by rw [← h2]; exact nat_mem.2 hc)), ← h2, List.length_map]
theorem cut_none (s : ByteArray) (h : 45 ∉ oc s) : strings_Cut.f s (⟨#[45]⟩ : ByteArray) = some (s, (⟨#[]⟩ : ByteArray), false) := by
  unfold strings_Cut.f stringslite_Cut.f stringslite_Index.f
  simp only
  rw [idx_none (c := 45) (by simpa using h)]
  rfl
theorem cut_some (s : ByteArray) (hs : s.size ≤ 4100) (a b : List Nat) (h : oc s = a ++ 45 :: b) (ha : 45 ∉ a) : strings_Cut.f s (⟨#[45]⟩ : ByteArray) = some (s.extract 0 a.length, s.extract (a.length + 1) s.size, true) := by
  have hz := size_split h
  simp only [List.length_append, List.length_cons] at hz
  unfold strings_Cut.f stringslite_Cut.f stringslite_Index.f
  simp only
  rw [idx_some (c := 45) (by simpa using h) (by simpa using ha)]
  have e1 : ((⟨#[45]⟩ : ByteArray).size : Int) = 1 := rfl
  rw [Option.bind_some, if_pos (by omega), if_pos (by omega), if_pos (by omega), e1, wrap_id (by omega) (by omega), if_pos (by omega), if_pos (by omega), Int.toNat_natCast, show ((a.length : Int) + 1).toNat = a.length + 1 by omega]
  rfl

theorem toList_nil' {s : ByteArray} : s.toList = ([] : List UInt8) ↔ oc s = [] := toList_nil
theorem ofL_oc (s : ByteArray) : ofL (oc s) = s := oc_inj (oc_ofL (oc_lt s))
theorem dig_lt (n : Nat) : ∀ x ∈ dig n, x < 256 := fun x hx => by have := dig_range n x hx; omega
theorem dig_inj {a b : Nat} (h : dig a = dig b) : a = b := by
  rw [← dig_is _ a (Nat.lt_succ_self a), ← dig_is _ b (Nat.lt_succ_self b)] at h
  have h2 : Lib.decDigits a = Lib.decDigits b := (List.map_inj_right (fun x y e => UInt8.toNat_inj.1 e)).1 h
  have ha := dec_digits _ a (Nat.lt_succ_self a)
  rw [h2, dec_digits _ b (Nat.lt_succ_self b)] at ha
  exact (Option.some.inj ha).symm
/-! ### Parse -/
def P (o : Option Nat) : Int × Int := match o with | some t => ((t : Int), 0) | none => (0, 2)
theorem parse_loop (s : ByteArray) (hs : s.size = 8) : ∀ (rest pre : List Nat) (acc : Nat), oc s = pre ++ rest → acc < 16 ^ pre.length →
    Ev (fun k => tag_Parse.l0 k s (acc : Int) (s.size : Int) (pre.length : Int)) (P (vals acc rest))
  | [], pre, acc, h, h0 => by
    have := size_split h
    refine ev_succ ?_
    simp only [tag_Parse.l0]
    exact ev_neg (by simp at this; omega) (ev_now _)
  | x :: rest, pre, acc, h, h0 => by
    have hz := size_split h
    simp only [List.length_append, List.length_cons] at hz
    have hx : x < 256 := oc_lt s x (by rw [h]; simp)
    have hp : acc < 268435456 := Nat.lt_of_lt_of_le h0 (by
      have := Nat.pow_le_pow_right (n := 16) (by decide) (show pre.length ≤ 7 by omega)
      exact this)
    refine ev_succ ?_
    simp only [tag_Parse.l0, bt_split h]
    refine ev_pos (by omega) (ev_pos (by omega) (ev_pos (by omega) (ev_is (digit_at x hx) ?_)))
    cases hv : val x with
    | none =>
      simp only [vals, hv]
      exact ev_pos (by decide) (ev_now _)
    | some d =>
      have hd := (hx_val hv).2
      refine ev_neg (by simp) ?_
      rw [or_low acc d hp hd, wrap_id (by omega) (by omega)]
      have ih := parse_loop s hs rest (pre ++ [x]) (16 * acc + d) (by simp [h]) (by rw [List.length_append, List.length_singleton, Nat.pow_succ]; omega)
      simp only [vals, hv]
      simpa using ih
theorem parse_is (s : ByteArray) : Ev (fun k => tag_Parse.f k s) (P (parseT (oc s))) := by
  unfold tag_Parse.f parseT
  rw [oc_length]
  by_cases h : s.size = 8
  · rw [if_pos h]
    refine ev_pos (by omega) ?_
    exact parse_loop s h (oc s) [] 0 rfl (by decide)
  · rw [if_neg h]
    exact ev_neg (by omega) (ev_now _)
/-! ### The document's text -/
theorem ref_step (t : Nat) (s : ByteArray) (i : Nat) (r : ByteArray) (ht : t < 4294967296) (hs : s.size ≤ 100) (hi : i < 8)
    (h : Ev (fun k => cellarerref04_Text.l0 k ((t / 16 : Nat) : Int) (ofL (hx (t % 16) :: oc s)) ((i + 1 : Nat) : Int)) r) : Ev (fun k => cellarerref04_Text.l0 k (t : Int) s (i : Int)) r := by
  refine ev_succ ?_
  simp only [cellarerref04_Text.l0]
  have e1 : Int.tmod (t : Int) 16 % 256 = ((t % 16 : Nat) : Int) := by rw [Int.tmod_eq_emod_of_nonneg (by omega)]; omega
  have e2 : Int.tdiv (t : Int) 16 % 4294967296 = ((t / 16 : Nat) : Int) := by rw [Int.tdiv_eq_ediv_of_nonneg (by omega)]; omega
  rw [e1, e2, wrap_id (by omega) (by omega), show ((i : Int) + 1) = ((i + 1 : Nat) : Int) by omega]
  have hd : t % 16 < 16 := Nat.mod_lt _ (by decide)
  have hl : ∀ x ∈ hx (t % 16) :: oc s, x < 256 := fun x hx' => by
    rcases List.mem_cons.1 hx' with rfl | q
    · exact hx_lt hd
    · exact oc_lt s x q
  have key : ∀ y : Int, y = ((hx (t % 16) : Nat) : Int) → strOfNums [y] ++ s = ofL (hx (t % 16) :: oc s) := fun y hy => oc_inj (by
    rw [oc_append, oc_ofL hl, hy]
    have := nums_oc [hx (t % 16)] (by intro x hx'; simp at hx'; subst hx'; exact hx_lt hd)
    simp only [List.map_cons, List.map_nil] at this
    rw [this]
    rfl)
  refine ev_pos (by omega) ?_
  by_cases h10 : t % 16 < 10
  · refine ev_pos (by omega) (ev_some (ev_pos (by rw [one_size]; omega) ?_))
    rw [key _ (by unfold hx; rw [if_pos h10]; omega)]
    exact h
  · refine ev_neg (by omega) (ev_some (ev_pos (by rw [one_size]; omega) ?_))
    rw [key _ (by unfold hx; rw [if_neg h10]; omega)]
    exact h
theorem ref_text (t : Nat) (ht : t < 4294967296) : Ev (fun k => cellarerref04_Text.f k (t : Int)) (ofL (hexL t)) := by
  unfold cellarerref04_Text.f
  have lt1 : ∀ d : Nat, hx (d % 16) < 256 := fun d => hx_lt (Nat.mod_lt _ (by decide))
  have go : ∀ (l : List Nat) (t : Nat) (i : Nat) (r : ByteArray), t < 4294967296 → l.length ≤ 50 → (∀ x ∈ l, x < 256) → i < 8 → Ev (fun k => cellarerref04_Text.l0 k ((t / 16 : Nat) : Int) (ofL (hx (t % 16) :: l)) ((i + 1 : Nat) : Int)) r → Ev (fun k => cellarerref04_Text.l0 k (t : Int) (ofL l) (i : Int)) r := fun l t i r h0 h1 h2 h3 h4 => by
    refine ref_step t (ofL l) i r h0 (by rw [size_of (oc_ofL h2)]; omega) h3 ?_
    rw [oc_ofL h2]
    exact h4
  have cl : ∀ (d : Nat) (l : List Nat), (∀ x ∈ l, x < 256) → ∀ x ∈ hx (d % 16) :: l, x < 256 := fun d l h x hx' => by
    rcases List.mem_cons.1 hx' with rfl | q
    · exact lt1 d
    · exact h x q
  have b0 : ∀ x ∈ ([] : List Nat), x < 256 := by simp
  have b1 := cl t _ b0
  have b2 := cl (t / 16) _ b1
  have b3 := cl (t / 16 / 16) _ b2
  have b4 := cl (t / 16 / 16 / 16) _ b3
  have b5 := cl (t / 16 / 16 / 16 / 16) _ b4
  have b6 := cl (t / 16 / 16 / 16 / 16 / 16) _ b5
  have b7 := cl (t / 16 / 16 / 16 / 16 / 16 / 16) _ b6
  have fin : ∀ (x : Int) (s : ByteArray), Ev (fun k => cellarerref04_Text.l0 k x s ((8 : Nat) : Int)) s := fun x s => by
    refine ev_succ ?_
    simp only [cellarerref04_Text.l0]
    exact ev_neg (by omega) (ev_now _)
  have e : ofL (hexL t) = ofL [hx (t / 16 / 16 / 16 / 16 / 16 / 16 / 16 % 16), hx (t / 16 / 16 / 16 / 16 / 16 / 16 % 16), hx (t / 16 / 16 / 16 / 16 / 16 % 16), hx (t / 16 / 16 / 16 / 16 % 16), hx (t / 16 / 16 / 16 % 16), hx (t / 16 / 16 % 16), hx (t / 16 % 16), hx (t % 16)] := by
    simp only [Nat.div_div_eq_div_mul]
    rfl
  rw [e]
  show Ev (fun k => cellarerref04_Text.l0 k (t : Int) (ofL []) ((0 : Nat) : Int)) _
  refine go [] t 0 _ ht (by simp) b0 (by decide) ?_
  refine go _ (t / 16) 1 _ (by omega) (by simp) b1 (by decide) ?_
  refine go _ (t / 16 / 16) 2 _ (by omega) (by simp) b2 (by decide) ?_
  refine go _ (t / 16 / 16 / 16) 3 _ (by omega) (by simp) b3 (by decide) ?_
  refine go _ (t / 16 / 16 / 16 / 16) 4 _ (by omega) (by simp) b4 (by decide) ?_
  refine go _ (t / 16 / 16 / 16 / 16 / 16) 5 _ (by omega) (by simp) b5 (by decide) ?_
  refine go _ (t / 16 / 16 / 16 / 16 / 16 / 16) 6 _ (by omega) (by simp) b6 (by decide) ?_
  refine go _ (t / 16 / 16 / 16 / 16 / 16 / 16 / 16) 7 _ (by omega) (by simp) b7 (by decide) ?_
  exact fin _ _
/-! ### The document's parse -/
def rf (a : Int) (c : Nat) : Int := if 48 ≤ c ∧ c ≤ 57 then (((16 * a) % 4294967296 + (c : Int)) % 4294967296 - 48) % 4294967296 else (((16 * a) % 4294967296 + (c : Int)) % 4294967296 - 87) % 4294967296
theorem rf_in (a : Int) (c : Nat) : 0 ≤ rf a c ∧ rf a c < 4294967296 := by unfold rf; split <;> omega
theorem rf_fold : ∀ (l : List Nat) (a : Int), 0 ≤ a ∧ a < 4294967296 → 0 ≤ l.foldl rf a ∧ l.foldl rf a < 4294967296
  | [], a, h => h
  | c :: r, a, h => rf_fold r _ (rf_in a c)
theorem rf_hx (n d : Nat) (hn : n < 268435456) (hd : d < 16) : rf (n : Int) (hx d) = ((16 * n + d : Nat) : Int) := by
  unfold rf hx
  split
  · rw [if_pos (by omega)]; omega
  · rw [if_neg (by omega)]; omega
theorem rf_vals : ∀ (l : List Nat) (acc t : Nat), (acc + 1) * 16 ^ l.length ≤ 4294967296 → vals acc l = some t → l.foldl rf (acc : Int) = (t : Int)
  | [], acc, t, _, h => by
    simp only [vals, Option.some.injEq] at h
    rw [h]
    rfl
  | c :: r, acc, t, hb, h => by
    simp only [vals] at h
    cases hv : val c with
    | none => rw [hv] at h; cases h
    | some d =>
      rw [hv] at h
      simp only at h
      obtain ⟨rfl, hd⟩ := hx_val hv
      have hp : 1 ≤ 16 ^ r.length := Nat.one_le_pow _ _ (by decide)
      rw [List.length_cons, Nat.pow_succ] at hb
      have h1 : (acc + 1) * 16 * 16 ^ r.length ≤ 4294967296 := by rw [Nat.mul_assoc, Nat.mul_comm 16]; exact hb
      have h2 : (acc + 1) * 16 ≤ 4294967296 := Nat.le_trans (Nat.le_mul_of_pos_right _ hp) h1
      rw [List.foldl_cons, rf_hx acc d (by omega) hd]
      refine rf_vals r (16 * acc + d) t (Nat.le_trans (Nat.mul_le_mul_right _ ?_) h1) h
      omega
def finR (s : ByteArray) (a : Int) : Int × Bool := if hexL a.toNat = oc s then (a, true) else (0, false)
theorem ref_fin (s : ByteArray) (a i : Int) (ha : 0 ≤ a ∧ a < 4294967296) : Ev (fun k => cellarerref04_Parse.j1 k s a i false) (finR s a) := by
  obtain ⟨n, rfl⟩ := Int.eq_ofNat_of_zero_le ha.1
  refine ev_succ ?_
  simp only [cellarerref04_Parse.j1]
  refine ev_neg (by simp) (ev_bind (ref_text n (by omega)) ?_)
  unfold finR
  rw [Int.toNat_natCast]
  by_cases h : hexL n = oc s
  · rw [if_pos (c := hexL n = oc s) h]
    exact ev_pos (by rw [toList_oc, oc_ofL (hexL_lt n)]; exact h) (ev_now _)
  · rw [if_neg (c := hexL n = oc s) h]
    exact ev_neg (by rw [toList_oc, oc_ofL (hexL_lt n)]; exact h) (ev_now _)
theorem ref_loop (s : ByteArray) (hs : s.size = 8) : ∀ (rest pre : List Nat) (a : Int), oc s = pre ++ rest → 0 ≤ a ∧ a < 4294967296 → Ev (fun k => cellarerref04_Parse.l0 k s a (pre.length : Int)) (finR s (rest.foldl rf a))
  | [], pre, a, h, ha => by
    have := size_split h
    refine ev_succ ?_
    simp only [cellarerref04_Parse.l0]
    exact ev_neg (by simp at this; omega) (ref_fin s a _ ha)
  | x :: rest, pre, a, h, ha => by
    have hz := size_split h
    simp only [List.length_append, List.length_cons] at hz
    have hx : x < 256 := oc_lt s x (by rw [h]; simp)
    have ih := ref_loop s hs rest (pre ++ [x]) (rf a x) (by simp [h]) (rf_in a x)
    rw [show (((pre ++ [x]).length : Nat) : Int) = (pre.length : Int) + 1 by simp] at ih
    refine ev_succ ?_
    simp only [cellarerref04_Parse.l0]
    refine ev_pos (by omega) (ev_succ ?_)
    simp only [cellarerref04_Parse.j1, bt_split h]
    rw [wrap_id (by omega) (by omega), show ((x : Int) % 4294967296) = (x : Int) by omega]
    refine ev_pos (by simp; omega) (ev_pos (by omega) (ev_pos (by omega) ?_))
    rw [List.foldl_cons]
    by_cases h1 : 48 ≤ x
    · refine ev_pos (by omega) ?_
      by_cases h2 : x ≤ 57
      · refine ev_pos (by omega) ?_
        rw [show rf a x = _ from if_pos ⟨h1, h2⟩] at ih ⊢
        exact ih
      · refine ev_neg (by omega) ?_
        rw [show rf a x = _ from if_neg (fun q => h2 q.2)] at ih ⊢
        exact ih
    · refine ev_neg (by omega) ?_
      rw [show rf a x = _ from if_neg (fun q => h1 q.1)] at ih ⊢
      exact ih
def R (o : Option Nat) : Int × Bool := match o with | some t => ((t : Int), true) | none => (0, false)
theorem finR_no (s : ByteArray) (a : Int) (ha : 0 ≤ a ∧ a < 4294967296) (h : parseT (oc s) = none) : finR s a = R none := by
  unfold finR
  rw [if_neg]
  · rfl
  · intro q
    have := parseT_iff.2 ⟨q.symm, (by omega : a.toNat < 4294967296)⟩
    rw [h] at this
    cases this
theorem ref_parse (s : ByteArray) : Ev (fun k => cellarerref04_Parse.f k s) (R (parseT (oc s))) := by
  unfold cellarerref04_Parse.f
  by_cases hs : s.size = 8
  · have h := ref_loop s hs (oc s) [] 0 rfl (by decide)
    cases hp : parseT (oc s) with
    | none =>
      rw [finR_no s _ (rf_fold _ _ (by decide)) hp] at h
      exact h
    | some t =>
      have hv : vals 0 (oc s) = some t := by
        unfold parseT at hp
        rwa [if_pos (by rw [oc_length]; exact hs)] at hp
      have e := rf_vals (oc s) 0 t (by rw [oc_length, hs]; decide) hv
      rw [show ((0 : Nat) : Int) = 0 from rfl] at e
      rw [e] at h
      have e2 : finR s (t : Int) = ((t : Int), true) := if_pos (by rw [Int.toNat_natCast]; exact (parseT_iff.1 hp).1.symm)
      rw [e2] at h
      exact h
  · have hp : parseT (oc s) = none := if_neg (by rw [oc_length]; exact hs)
    rw [hp]
    have e8 : ((s.size : Int) == 8) = false := by rw [beq_eq_false_iff_ne]; omega
    have h := ref_fin s 0 0 (by decide)
    rw [finR_no s 0 (by decide) hp] at h
    refine ev_succ ?_
    simp only [cellarerref04_Parse.l0, e8]
    by_cases h0 : (0 : Int) < (s.size : Int)
    · exact ev_pos h0 h
    · exact ev_neg h0 h
/-! ### Read -/
/-- What a text tells: a tag, and of how many it is. -/
def T (l : List Nat) (t n : Nat) : Prop := t < 4294967296 ∧ ((n = 0 ∧ l = hexL t) ∨ (1 ≤ n ∧ n ≤ 100 ∧ l = hexL t ++ 45 :: dig n))
theorem oc_text {n : Nat} {s : ByteArray} (h : oc s = dig n) : s.data.toList = Lib.decDigits n := by
  have h2 : s.data.toList.map UInt8.toNat = (Lib.decDigits n).map UInt8.toNat := by rw [dig_is _ n (Nat.lt_succ_self n)]; exact h
  exact (List.map_inj_right (fun x y e => UInt8.toNat_inj.1 e)).1 h2
theorem many_yes {s : ByteArray} {n : Nat} (h1 : 1 ≤ n) (h2 : n ≤ 100) (h : oc s = dig n) : TagRead.manyF s = ((n : Int), true) := by
  have e : atoiF s.data.toList = ((n : Int), true) := by rw [oc_text h]; exact atoi_digits (by omega)
  unfold TagRead.manyF
  rw [e]
  have e3 : (⟨(Lib.itoa (n : Int)).toArray⟩ : ByteArray).toList = s.toList := by
    rw [toList_oc, oc_itoa (by omega), h, Int.toNat_natCast]
  simp [e3]
  omega
theorem many_no {s : ByteArray} (h : ∀ n, 1 ≤ n → n ≤ 100 → oc s ≠ dig n) : (TagRead.manyF s).2 = false := by
  cases hm : (TagRead.manyF s).2 with
  | false => rfl
  | true =>
    exfalso
    unfold TagRead.manyF at hm
    simp only [Bool.and_eq_true, decide_eq_true_eq, beq_iff_eq] at hm
    obtain ⟨_, h1, h2, h3⟩ := hm
    rw [toList_oc, oc_itoa (by omega)] at h3
    exact h _ (by omega) (by omega) h3.symm
theorem read_yes (s : ByteArray) (hs : s.size ≤ 4100) {t n : Nat} (h : T (oc s) t n) : Ev (fun k => tag_Read.f k s) ((t : Int), (n : Int), 0) := by
  unfold tag_Read.f TagRead.readF
  obtain ⟨ht, h | h⟩ := h
  · obtain ⟨rfl, h⟩ := h
    refine ev_is (cut_none s (by rw [h]; exact hexL_45 t)) (ev_bind (parse_is s) ?_)
    rw [show parseT (oc s) = some t from parseT_iff.2 ⟨h, ht⟩]
    exact ev_now _
  · obtain ⟨h1, h2, h⟩ := h
    have ha : oc (s.extract 0 8) = hexL t := by rw [oc_take, h, List.take_left' (hexL_len t)]
    have hb : oc (s.extract (8 + 1) s.size) = dig n := by
      rw [oc_drop, h, show hexL t ++ 45 :: dig n = (hexL t ++ [45]) ++ dig n by simp, List.drop_left' (by rw [List.length_append, hexL_len]; rfl)]
    have hsz : (s.extract (8 + 1) s.size).size ≤ 281474976710656 := by rw [ByteArray.size_extract]; omega
    refine ev_is (cut_some s hs (hexL t) (dig n) h (hexL_45 t)) ?_
    rw [hexL_len]
    refine ev_bind (parse_is _) ?_
    simp only
    rw [show parseT (oc (s.extract 0 8)) = some t from parseT_iff.2 ⟨ha, ht⟩]
    unfold TagRead.tellF P
    simp only
    rw [if_pos trivial, if_pos trivial, if_pos hsz, many_yes h1 h2 hb, if_pos rfl]
    exact ev_now _
theorem read_no (s : ByteArray) (hs : s.size ≤ 4100) (h : ∀ t n, ¬ T (oc s) t n) : Ev (fun k => tag_Read.f k s) (0, 0, 2) := by
  unfold tag_Read.f TagRead.readF
  rcases first_of 45 (oc s) with h0 | ⟨a, b, h0, ha⟩
  · refine ev_is (cut_none s h0) (ev_bind (parse_is s) ?_)
    have : parseT (oc s) = none := by
      cases hp : parseT (oc s) with
      | none => rfl
      | some t =>
        obtain ⟨q1, q2⟩ := parseT_iff.1 hp
        exact absurd ⟨q2, .inl ⟨rfl, q1⟩⟩ (h t 0)
    rw [this]
    exact ev_now _
  · have hz := size_split h0
    have e1 : oc (s.extract 0 a.length) = a := by rw [oc_take, h0, List.take_left' rfl]
    have e2 : oc (s.extract (a.length + 1) s.size) = b := by
      rw [oc_drop, h0, show a ++ 45 :: b = (a ++ [45]) ++ b by simp, List.drop_left' (by simp)]
    have hsz : (s.extract (a.length + 1) s.size).size ≤ 281474976710656 := by rw [ByteArray.size_extract]; omega
    refine ev_is (cut_some s hs a b h0 ha) (ev_bind (parse_is _) ?_)
    simp only
    rw [e1]
    cases hp : parseT a with
    | none => exact ev_now _
    | some t =>
      obtain ⟨q1, q2⟩ := parseT_iff.1 hp
      unfold TagRead.tellF P
      simp only
      rw [if_pos trivial, if_pos trivial, if_pos hsz, many_no (fun n h1 h2 h3 => h t n ⟨q2, .inr ⟨h1, h2, by rw [h0, q1, ← h3, e2]⟩⟩), if_neg (by simp)]
      exact ev_now _
/-! ### The document's count and read -/
theorem count_loop : ∀ (m n : Nat) (s : ByteArray), n < m → n ≤ 1099511627775 → s.size + m ≤ 4000000000000 → Ev (fun k => cellarerref04_Count.l0 k (n : Int) s) (ofL (45 :: ((if n = 0 then [] else dig n) ++ oc s)))
  | 0, n, s, h, _, _ => by omega
  | m + 1, n, s, h, hn, hm => by
    refine ev_succ ?_
    simp only [cellarerref04_Count.l0]
    by_cases h0 : n = 0
    · rw [if_pos h0]
      refine ev_neg (by omega) (ev_pos (by omega) ?_)
      have e : (⟨#[45]⟩ : ByteArray) ++ s = ofL (45 :: ([] ++ oc s)) := oc_inj (by
        rw [oc_append, oc_ofL (fun x hx' => by
          rcases List.mem_cons.1 hx' with rfl | q
          · decide
          · exact oc_lt s x q)]
        rfl)
      rw [e]
      exact ev_now _
    · rw [if_neg h0]
      refine ev_pos (by omega) (ev_some (ev_pos (by rw [one_size]; omega) ?_))
      have e1 : wrap64 (Int.tdiv (n : Int) 10) = ((n / 10 : Nat) : Int) := by
        rw [Int.tdiv_eq_ediv_of_nonneg (by omega), wrap_id (by omega) (by omega)]
        omega
      rw [e1]
      have ho := one_digit (n := n) (s := s) rfl
      have ih := count_loop m (n / 10) (strOfNums [wrap64 (48 + Int.tmod (n : Int) 10) % 256] ++ s) (by omega) (by omega) (by rw [ByteArray.size_append, one_size]; omega)
      rw [ho] at ih
      by_cases h1 : n < 10
      · rw [if_pos (by omega)] at ih
        rw [dig_small h1]
        have : n % 10 = n := by omega
        rw [this] at ih
        exact ih
      · rw [if_neg (by omega)] at ih
        rw [dig_big h1, List.append_assoc]
        exact ih
theorem count_is (n : Nat) (h1 : 1 ≤ n) (hn : n ≤ 1099511627775) : Ev (fun k => cellarerref04_Count.f k (n : Int)) (ofL (45 :: dig n)) := by
  have h := count_loop (n + 1) n (⟨#[]⟩ : ByteArray) (by omega) hn (by show 0 + _ ≤ _; omega)
  rw [if_neg (by omega), show oc (⟨#[]⟩ : ByteArray) = [] from rfl, List.append_nil] at h
  exact h
theorem cdig_lt (n : Nat) : ∀ x ∈ 45 :: dig n, x < 256 := fun x hx' => by
  rcases List.mem_cons.1 hx' with rfl | q
  · decide
  · exact dig_lt n x q
theorem rread_yes_loop (s : ByteArray) (hs : s.size ≤ 4100) (h8 : 8 ≤ s.size) (t : Int) (n : Nat) (hn : n ≤ 100) (h : oc (s.extract 8 s.size) = 45 :: dig n) :
    ∀ (d i : Nat), i + d = n → 1 ≤ i → Ev (fun k => cellarerref04_Read.l0 k s t true (i : Int)) (t, (n : Int), true)
  | 0, i, hi, h1 => by
    obtain rfl : i = n := by omega
    refine ev_succ ?_
    simp only [cellarerref04_Read.l0]
    refine ev_pos (by omega) (ev_pos trivial (ev_pos (by omega) (ev_bind (count_is i h1 (by omega)) (ev_pos ?_ (ev_now _)))))
    rw [toList_oc, oc_ofL (cdig_lt i), h]
  | d + 1, i, hi, h1 => by
    have ih := rread_yes_loop s hs h8 t n hn h d (i + 1) (by omega) (by omega)
    refine ev_succ ?_
    simp only [cellarerref04_Read.l0]
    refine ev_pos (by omega) (ev_pos trivial (ev_pos (by omega) (ev_bind (count_is i h1 (by omega)) (ev_neg ?_ ?_))))
    · rw [toList_oc, oc_ofL (cdig_lt i), h]
      intro q
      have := dig_inj (List.cons.inj q).2
      omega
    · rw [wrap_id (by omega) (by omega), show ((i : Int) + 1) = ((i + 1 : Nat) : Int) by omega]
      exact ih
theorem rread_no_loop (s : ByteArray) (hs : s.size ≤ 4100) (h8 : 8 ≤ s.size) (t : Int) (b : Bool) (h : b = true → ∀ n, 1 ≤ n → n ≤ 100 → oc (s.extract 8 s.size) ≠ 45 :: dig n) :
    ∀ (d i : Nat), i + d = 101 → 1 ≤ i → Ev (fun k => cellarerref04_Read.l0 k s t b (i : Int)) (0, 0, false)
  | 0, i, hi, h1 => by
    refine ev_succ ?_
    simp only [cellarerref04_Read.l0]
    exact ev_neg (by omega) (ev_now _)
  | d + 1, i, hi, h1 => by
    have ih := rread_no_loop s hs h8 t b h d (i + 1) (by omega) (by omega)
    refine ev_succ ?_
    simp only [cellarerref04_Read.l0]
    rw [wrap_id (by omega) (by omega), show ((i : Int) + 1) = ((i + 1 : Nat) : Int) by omega]
    refine ev_pos (by omega) ?_
    cases b with
    | false => exact ev_neg (by simp) ih
    | true =>
      refine ev_pos rfl (ev_pos (by omega) (ev_bind (count_is i h1 (by omega)) (ev_neg ?_ ih)))
      rw [toList_oc, oc_ofL (cdig_lt i)]
      exact h rfl i h1 (by omega)
theorem rread_yes (s : ByteArray) (hs : s.size ≤ 4100) {t n : Nat} (h : T (oc s) t n) : Ev (fun k => cellarerref04_Read.f k s) ((t : Int), (n : Int), true) := by
  unfold cellarerref04_Read.f
  obtain ⟨ht, h | h⟩ := h
  · obtain ⟨rfl, h⟩ := h
    refine ev_bind (ref_parse s) ?_
    rw [show parseT (oc s) = some t from parseT_iff.2 ⟨h, ht⟩]
    exact ev_pos rfl (ev_now _)
  · obtain ⟨h1, h2, h⟩ := h
    have hz := size_split h
    rw [List.length_append, hexL_len] at hz
    have ha : oc (s.extract 0 8) = hexL t := by rw [oc_take, h, List.take_left' (hexL_len t)]
    have hb : oc (s.extract 8 s.size) = 45 :: dig n := by rw [oc_drop, h, List.drop_left' (hexL_len t)]
    refine ev_bind (ref_parse s) ?_
    rw [show parseT (oc s) = none from parseT_45 (by rw [h]; simp)]
    refine ev_neg (by simp [R]) (ev_neg (by omega) (ev_pos (by omega) (ev_pos (by omega) (ev_bind (ref_parse _) ?_))))
    rw [show parseT (oc (s.extract 0 8)) = some t from parseT_iff.2 ⟨ha, ht⟩]
    exact rread_yes_loop s hs (by omega) (t : Int) n h2 hb (n - 1) 1 (by omega) (by omega)
theorem rread_no (s : ByteArray) (hs : s.size ≤ 4100) (h : ∀ t n, ¬ T (oc s) t n) : Ev (fun k => cellarerref04_Read.f k s) (0, 0, false) := by
  unfold cellarerref04_Read.f
  have hp0 : parseT (oc s) = none := by
    cases hp : parseT (oc s) with
    | none => rfl
    | some t =>
      obtain ⟨q1, q2⟩ := parseT_iff.1 hp
      exact absurd ⟨q2, .inl ⟨rfl, q1⟩⟩ (h t 0)
  refine ev_bind (ref_parse s) ?_
  rw [hp0]
  refine ev_neg (by simp [R]) ?_
  by_cases h8 : s.size < 8
  · exact ev_pos (by omega) (ev_now _)
  · refine ev_neg (by omega) (ev_pos (by omega) (ev_pos (by omega) (ev_bind (ref_parse _) ?_)))
    refine rread_no_loop s hs (by omega) _ _ (fun hb n h1 h2 h3 => ?_) 100 1 (by omega) (by omega)
    rw [oc_take] at hb
    rw [oc_drop] at h3
    cases hp : parseT ((oc s).take 8) with
    | none => rw [hp] at hb; simp [R] at hb
    | some t =>
      obtain ⟨q1, q2⟩ := parseT_iff.1 hp
      exact h t n ⟨q2, .inr ⟨h1, h2, by rw [← q1, ← h3, List.take_append_drop]⟩⟩
/-! ### Many -/
def quad (v : Nat) : List Nat := [v / 16777216 % 256, v / 65536 % 256, v / 256 % 256, v % 256]
theorem quad_lt (v : Nat) : ∀ x ∈ quad v, x < 256 := by
  intro x hx'
  unfold quad at hx'
  simp only [List.mem_cons, List.not_mem_nil, or_false] at hx'
  omega
theorem octets_is (v : Nat) : tag_octets.f (v : Int) = some (ofL (quad v)) := by
  unfold tag_octets.f ofL quad
  simp only [List.map_cons, List.map_nil]
  congr 1
theorem more_app (t : Nat) (a b : List Nat) (ht : t < 2 ^ 32) (ha : ∀ x ∈ a, x < 256) : TagNat.more t (a ++ b) = TagNat.more (TagNat.more t a) b := by
  unfold TagNat.more
  rw [TagNat.run_append, TagNat.no_no (TagNat.run_lt a (TagNat.no_lt t) ha)]
def cat (l : List Int) : List Nat := l.flatMap fun v => quad v.toNat
theorem cat_lt (l : List Int) : ∀ x ∈ cat l, x < 256 := fun x hx' => by
  obtain ⟨v, _, h⟩ := List.mem_flatMap.1 hx'
  exact quad_lt _ x h
def ok (l : List Int) : Prop := ∀ v ∈ l, 0 ≤ v ∧ v < 4294967296
theorem rd_split {l : List Int} {pre : List Int} {x : Int} {rest : List Int} (h : l = pre ++ x :: rest) : rd l (pre.length : Int) = x := by
  subst h
  unfold rd
  simp
theorem itoa_is (n : Nat) (hn : n ≤ 4000) : strconv_Itoa.f (n : Int) = some (ofL (dig n)) := by
  unfold strconv_Itoa.f
  rw [if_pos ⟨by omega, by omega⟩]
  congr 1
  apply oc_inj
  rw [oc_itoa (by omega), oc_ofL (dig_lt n), Int.toNat_natCast]
def manyL (l : List Int) : List Nat := hexL (TagNat.more 0 (cat l)) ++ 45 :: dig l.length
theorem manyL_lt (l : List Int) : ∀ x ∈ manyL l, x < 256 := fun x hx' => by
  rcases List.mem_append.1 hx' with q | q
  · exact hexL_lt _ x q
  · exact cdig_lt _ x q
theorem more_hex (l : List Int) : TagNat.more 0 (cat l) < 4294967296 := more_lt 0 (cat l)
theorem manyL_T {l : List Int} (h1 : 1 ≤ l.length) (h2 : l.length ≤ 100) : T (manyL l) (TagNat.more 0 (cat l)) l.length := ⟨more_hex l, .inr ⟨h1, h2, rfl⟩⟩
theorem dig_short {n : Nat} (hn : n ≤ 1099511627775) : (dig n).length ≤ 13 := dig_len 12 n (by omega)
theorem manyL_len {l : List Int} (hl : l.length ≤ 200) : (manyL l).length ≤ 22 := by
  have := dig_short (n := l.length) (by omega)
  unfold manyL
  rw [List.length_append, List.length_cons, hexL_len]
  omega
theorem manyL_long (l : List Int) : 10 ≤ (manyL l).length := by
  unfold manyL
  rw [List.length_append, List.length_cons, hexL_len]
  have := List.length_pos_iff.2 (dig_ne l.length)
  omega
theorem many_loop (l : List Int) (hl : l.length ≤ 200) (hok : ok l) : ∀ (rest pre : List Int), l = pre ++ rest →
    Ev (fun k => tag_Many.l0 k l ((TagNat.more 0 (cat pre) : Nat) : Int) l (l.length : Int) (pre.length : Int)) (ofL (manyL l), 0)
  | [], pre, h => by
    rw [List.append_nil] at h
    subst h
    refine ev_succ ?_
    simp only [tag_Many.l0]
    have hz := size_of (oc_ofL (hexL_lt (TagNat.more 0 (cat l))))
    have hd := size_of (oc_ofL (dig_lt l.length))
    have := dig_short (n := l.length) (by omega)
    rw [hexL_len] at hz
    have s45 : (⟨#[45]⟩ : ByteArray).size = 1 := rfl
    refine ev_neg (by omega) (ev_is (text_is _ (more_hex l)) (ev_pos (by omega) (ev_is (itoa_is _ (by omega)) (ev_pos (by rw [ByteArray.size_append, s45]; omega) ?_))))
    have e : (ofL (hexL (TagNat.more 0 (cat l))) ++ (⟨#[45]⟩ : ByteArray)) ++ ofL (dig l.length) = ofL (manyL l) := oc_inj (by
      rw [oc_append, oc_append, oc_ofL (hexL_lt _), oc_ofL (dig_lt _), oc_ofL (manyL_lt l), show oc (⟨#[45]⟩ : ByteArray) = [45] from rfl]
      simp [manyL])
    rw [e]
    exact ev_now _
  | v :: rest, pre, h => by
    have hz : l.length = pre.length + (rest.length + 1) := by rw [h]; simp
    obtain ⟨v0, v1⟩ := hok v (by rw [h]; simp)
    obtain ⟨u, rfl⟩ := Int.eq_ofNat_of_zero_le v0
    have ih := many_loop l hl hok rest (pre ++ [(u : Int)]) (by simp [h])
    have e : TagNat.more 0 (cat (pre ++ [(u : Int)])) = TagNat.more (TagNat.more 0 (cat pre)) (quad u) := by
      rw [← more_app 0 _ _ (by decide) (cat_lt pre)]
      simp [cat]
    rw [e, show (((pre ++ [(u : Int)]).length : Nat) : Int) = (pre.length : Int) + 1 by simp] at ih
    refine ev_succ ?_
    simp only [tag_Many.l0, rd_split h]
    have hq := oc_ofL (quad_lt u)
    have hm := more_is (TagNat.more 0 (cat pre)) (ofL (quad u)) (more_lt _ _) (by rw [size_of hq]; show 4 ≤ _; decide)
    rw [hq] at hm
    refine ev_pos (by omega) (ev_pos (by omega) (ev_pos (by omega) (ev_is (octets_is u) (ev_is hm ?_))))
    rw [wrap_id (by omega) (by omega)]
    exact ih
theorem many_is (l : List Int) (hok : ok l) (h1 : 1 ≤ l.length) (h2 : l.length ≤ 100) : Ev (fun k => tag_Many.f k l) (ofL (manyL l), 0) := by
  unfold tag_Many.f
  refine ev_neg (by omega) (ev_succ ?_)
  simp only [tag_Many.j0]
  refine ev_neg (by simp; omega) ?_
  exact many_loop l (by omega) hok l [] rfl
theorem many_none (l : List Int) (h : l.length = 0 ∨ 100 < l.length) : Ev (fun k => tag_Many.f k l) ((⟨#[]⟩ : ByteArray), 1) := by
  unfold tag_Many.f
  by_cases h0 : l.length = 0
  · refine ev_pos (by omega) (ev_succ ?_)
    simp only [tag_Many.j0]
    exact ev_pos trivial (ev_now _)
  · refine ev_neg (by omega) (ev_succ ?_)
    simp only [tag_Many.j0]
    exact ev_pos (by simp; omega) (ev_now _)
theorem rmany_loop (l : List Int) (hl : l.length ≤ 200) (h1 : 1 ≤ l.length) (hok : ok l) : ∀ (rest pre : List Int), l = pre ++ rest →
    Ev (fun k => cellarerref04_Many.l0 k l (ofL (cat pre)) (pre.length : Int)) (ofL (manyL l))
  | [], pre, h => by
    rw [List.append_nil] at h
    subst h
    refine ev_succ ?_
    simp only [cellarerref04_Many.l0]
    have hc := oc_ofL (cat_lt l)
    have hcl : ∀ m : List Int, (cat m).length = 4 * m.length := fun m => by
      induction m with
      | nil => rfl
      | cons a r ih => simp only [cat, List.flatMap_cons, List.length_append] at ih ⊢; rw [ih]; simp [quad]; omega
    have ho := ref_of (ofL (cat l)) (by rw [size_of hc, hcl]; omega)
    rw [hc] at ho
    have hz := size_of (oc_ofL (hexL_lt (TagNat.more 0 (cat l))))
    have hd := size_of (oc_ofL (cdig_lt l.length))
    have := dig_short (n := l.length) (by omega)
    rw [hexL_len] at hz
    rw [List.length_cons] at hd
    refine ev_neg (by omega) (ev_bind ho (ev_bind (ref_text _ (more_hex l)) (ev_bind (count_is _ h1 (by omega)) (ev_pos (by omega) ?_))))
    have e : ofL (hexL (TagNat.more 0 (cat l))) ++ ofL (45 :: dig l.length) = ofL (manyL l) := oc_inj (by
      rw [oc_append, oc_ofL (hexL_lt _), oc_ofL (cdig_lt _), oc_ofL (manyL_lt l)]
      rfl)
    rw [e]
    exact ev_now _
  | v :: rest, pre, h => by
    have hz : l.length = pre.length + (rest.length + 1) := by rw [h]; simp
    obtain ⟨v0, v1⟩ := hok v (by rw [h]; simp)
    obtain ⟨u, rfl⟩ := Int.eq_ofNat_of_zero_le v0
    have ih := rmany_loop l hl h1 hok rest (pre ++ [(u : Int)]) (by simp [h])
    have hcl : ∀ m : List Int, (cat m).length = 4 * m.length := fun m => by
      induction m with
      | nil => rfl
      | cons a r ih => simp only [cat, List.flatMap_cons, List.length_append] at ih ⊢; rw [ih]; simp [quad]; omega
    have hsz := size_of (oc_ofL (cat_lt pre))
    rw [hcl] at hsz
    have e4 : ∀ x : List Int, x = (quad u).map (fun c => ((c : Nat) : Int)) → strOfNums x = ofL (quad u) := fun x hx' => by rw [hx']; rfl
    have hq : [((Int.tdiv (u : Int) 16777216) % 4294967296) % 256, ((Int.tdiv (u : Int) 65536) % 4294967296) % 256, ((Int.tdiv (u : Int) 256) % 4294967296) % 256, (Int.tmod (u : Int) 256) % 256] = (quad u).map (fun c => ((c : Nat) : Int)) := by
      unfold quad
      simp only [List.map_cons, List.map_nil]
      rw [Int.tdiv_eq_ediv_of_nonneg (by omega), Int.tdiv_eq_ediv_of_nonneg (by omega), Int.tdiv_eq_ediv_of_nonneg (by omega), Int.tmod_eq_emod_of_nonneg (by omega)]
      congr 1
      · omega
      · congr 1
        · omega
        · congr 1
          · omega
          · congr 1
            omega
    refine ev_succ ?_
    simp only [cellarerref04_Many.l0, rd_split h]
    rw [hq]
    have hqs := size_of (oc_ofL (quad_lt u))
    have h4 : (quad u).length = 4 := rfl
    refine ev_pos (by omega) (ev_pos (by omega) (ev_some (ev_pos (by rw [e4 _ rfl]; omega) ?_)))
    have e : ofL (cat pre) ++ ofL (quad u) = ofL (cat (pre ++ [(u : Int)])) := oc_inj (by
      rw [oc_append, oc_ofL (cat_lt _), oc_ofL (quad_lt _), oc_ofL (cat_lt _)]
      simp [cat])
    rw [e4 _ rfl, e, wrap_id (by omega) (by omega)]
    simpa using ih
theorem rmany_is (l : List Int) (hl : l.length ≤ 200) (h1 : 1 ≤ l.length) (hok : ok l) : Ev (fun k => cellarerref04_Many.f k l) (ofL (manyL l)) := by
  have := rmany_loop l hl h1 hok l [] rfl
  exact this
end Go.Proofs.YtmlnkdknpogknaaDoor.TagPure
