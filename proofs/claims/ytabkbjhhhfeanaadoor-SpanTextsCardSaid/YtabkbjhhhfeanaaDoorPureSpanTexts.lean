/- Every span that may be has the document's text, and is parsed as it was; whatever text there is is the document's span, or refused. -/
import Derived.Test.YtabkbjhhhfeanaaDoorQx2
import Derived.Test.YtabkbjhhhfeanaaDoorQx3
import Derived.Test.YtabkbjhhhfeanaaDoorQx4
import Derived.Test.YtabkbjhhhfeanaaDoorQxOpens
import Derived.Test.YtabkbjhhhfeanaaDoorSpTx
set_option linter.unusedVariables false
set_option linter.unusedSimpArgs false
namespace Go.Proofs.YtabkbjhhhfeanaaDoor.Pure
open Go.RowKit Go.Proofs.YtabkbjhhhfeanaaDoor.Q Go.Proofs.YtabkbjhhhfeanaaDoorW.PrintWords Go.Proofs.YtabkbjhhhfeanaaDoorW.PrintLast Go.Proofs.YtabkbjhhhfeanaaDoorW.PrintMore Go.Proofs.YtabkbjhhhfeanaaDoor.PureKit Go.Proofs.YtabkbjhhhfeanaaDoor.NumL Go.Proofs.YtabkbjhhhfeanaaDoor.Dig Go.Proofs.YtabkbjhhhfeanaaDoor.SpTx

theorem ev_succ {α : Type} {g : Nat → Option α} {r : α} (h : Ev (fun k => g (k + 1)) r) : Ev g r := ev_step (fun _ => rfl) h
theorem toList_oc {s t : ByteArray} : s.toList = t.toList ↔ oc s = oc t := by
  constructor
  · intro h
    rw [ByteArray.toList_eq, ByteArray.toList_eq] at h
    unfold oc
    rw [h]
  · intro h
    rw [oc_inj h]
theorem toList_nil {s : ByteArray} : s.toList = [] ↔ oc s = [] := by
  rw [ByteArray.toList_eq]
  simp [oc]
theorem empty_oc (s : ByteArray) : s.toList.isEmpty = (oc s).isEmpty := by
  rw [ByteArray.toList_eq]
  simp [oc]
def ofL (l : List Nat) : ByteArray := strOfNums (l.map fun x => ((x : Nat) : Int))
theorem oc_ofL {l : List Nat} (h : ∀ x ∈ l, x < 256) : oc (ofL l) = l := nums_oc l h
theorem ofL_oc (s : ByteArray) : ofL (oc s) = s := oc_inj (oc_ofL (oc_lt s))
theorem oc_take (s : ByteArray) (n : Nat) : oc (s.extract 0 n) = (oc s).take n := by rw [oc_extract]; simp
theorem oc_drop (s : ByteArray) (n : Nat) : oc (s.extract n s.size) = (oc s).drop n := by
  rw [oc_extract, List.take_of_length_le]
  rw [List.length_drop, oc_length]
  omega
theorem few (s : ByteArray) : ∃ t : ByteArray, Ev (fun k => cellarerlaw02_Few.f k s) t ∧ t.size ≤ 4100 := by
  unfold cellarerlaw02_Few.f
  by_cases h1 : (s.size : Int) > 300
  · by_cases h2 : (s.size : Int) ≤ 4000
    · refine ⟨s.extract 0 300, ev_pos h1 (ev_one fun k => ?_), by rw [ByteArray.size_extract]; omega⟩
      simp only [cellarerlaw02_Few.j0]
      rw [if_pos (by simpa using h2), if_pos (by omega), if_pos (by omega)]
    · by_cases h3 : (s.size : Int) > 4100
      · refine ⟨s.extract 0 4100, ev_pos h1 (ev_one fun k => ?_), by rw [ByteArray.size_extract]; omega⟩
        simp only [cellarerlaw02_Few.j0]
        rw [if_neg (by simpa using h2), if_pos h3, if_pos (by omega), if_pos (by omega)]
      · refine ⟨s, ev_pos h1 (ev_one fun k => ?_), by omega⟩
        simp only [cellarerlaw02_Few.j0]
        rw [if_neg (by simpa using h2), if_neg h3]
  · refine ⟨s, ev_neg h1 (ev_one fun k => ?_), by omega⟩
    simp only [cellarerlaw02_Few.j0]
    rw [if_neg (by simp), if_neg (by omega)]
/-! ### May -/
theorem place_is (x : Int) : span_place.f x = some (inB x) := by
  unfold span_place.f inB
  by_cases h : x ≥ 0
  · rw [if_pos h, decide_eq_true (show 0 ≤ x from h), Bool.true_and]
  · rw [if_neg h, decide_eq_false (show ¬ 0 ≤ x from h), Bool.false_and]
theorem ref_in (x : Int) : cellarerref03_in.f x = some (inB x) := by
  unfold cellarerref03_in.f inB
  by_cases h : 0 ≤ x
  · rw [if_pos h, decide_eq_true h, Bool.true_and]
  · rw [if_neg h, decide_eq_false h, Bool.false_and]
theorem may_is (f t : Int) (o b : Bool) : Ev (fun k => span_May.f k f t o b) (mayB f t o b) := by
  refine ⟨1, fun k hk => ?_⟩
  obtain ⟨m, rfl⟩ : ∃ m, k = m + 1 := ⟨k - 1, by omega⟩
  cases o <;> cases b <;> simp only [span_May.f, span_May.j0, place_is, Option.bind_some, if_true, if_false, mayB, Bool.not_true, Bool.not_false, Bool.false_and, Bool.true_and, Bool.false_eq_true]
  all_goals first
    | (cases inB f <;> cases inB t <;> simp)
theorem ref_may (f t : Int) (o b : Bool) : cellarerref03_May.f f t o b = some (mayB f t o b) := by
  cases o <;> cases b <;> simp only [cellarerref03_May.f, ref_in, Option.bind_some, if_true, if_false, mayB, Bool.not_true, Bool.not_false, Bool.false_and, Bool.true_and, Bool.false_eq_true]
  all_goals first
    | (cases inB f <;> cases inB t <;> simp)
/-! ### The document's digits -/
theorem one_digit {n : Nat} {s : ByteArray} {l : List Nat} (h : oc s = l) : oc (strOfNums [wrap64 (48 + Int.tmod (n : Int) 10) % 256] ++ s) = (48 + n % 10) :: l := by
  have e : wrap64 (48 + Int.tmod (n : Int) 10) % 256 = ((48 + n % 10 : Nat) : Int) := by
    rw [Int.tmod_eq_emod_of_nonneg (by omega), wrap_id (by omega) (by omega)]
    omega
  rw [e, oc_append, h]
  have := nums_oc [48 + n % 10] (by intro x hx; simp at hx; omega)
  simp only [List.map_cons, List.map_nil] at this
  rw [this]
  rfl
theorem one_size (x : Int) : (strOfNums [x]).size = 1 := rfl
theorem digits_loop : ∀ (m n : Nat) (s : ByteArray), n < m → n ≤ 1099511627775 → s.size + m ≤ 4000000000000 → oc s ≠ [] → Ev (fun k => cellarerref03_Digits.l0 k (n : Int) s) (ofL ((if n = 0 then [] else dig n) ++ oc s))
  | 0, n, s, h, _, _, _ => by omega
  | m + 1, n, s, h, hn, hm, hs => by
    refine ev_succ ?_
    simp only [cellarerref03_Digits.l0]
    refine ev_neg (fun e => hs (toList_nil.1 e)) ?_
    by_cases h0 : n = 0
    · rw [if_pos h0]
      refine ev_neg (by omega) ?_
      rw [List.nil_append, ofL_oc]
      exact ev_now _
    · rw [if_neg h0]
      refine ev_pos (by omega) (ev_some (ev_pos (by rw [one_size]; omega) ?_))
      have e1 : wrap64 (Int.tdiv (n : Int) 10) = ((n / 10 : Nat) : Int) := by
        rw [Int.tdiv_eq_ediv_of_nonneg (by omega), wrap_id (by omega) (by omega)]
        omega
      rw [e1]
      have ho := one_digit (n := n) (s := s) rfl
      have ih := digits_loop m (n / 10) (strOfNums [wrap64 (48 + Int.tmod (n : Int) 10) % 256] ++ s) (by omega) (by omega) (by rw [ByteArray.size_append, one_size]; omega) (by rw [ho]; simp)
      rw [ho] at ih
      by_cases h1 : n < 10
      · rw [if_pos (by omega)] at ih
        rw [dig_small h1]
        have : n % 10 = n := by omega
        rw [this] at ih
        exact ih
      · rw [if_neg (by omega)] at ih
        rw [dig_big h1, List.append_assoc]
        exact ih
theorem digits_is (n : Nat) (hn : n ≤ 1099511627775) : Ev (fun k => cellarerref03_Digits.f k (n : Int)) (ofL (dig n)) := by
  unfold cellarerref03_Digits.f
  refine ev_succ ?_
  simp only [cellarerref03_Digits.l0]
  refine ev_pos (toList_nil.2 rfl) (ev_some (ev_pos (by rw [one_size]; decide) ?_))
  have e1 : wrap64 (Int.tdiv (n : Int) 10) = ((n / 10 : Nat) : Int) := by
    rw [Int.tdiv_eq_ediv_of_nonneg (by omega), wrap_id (by omega) (by omega)]
    omega
  rw [e1]
  have ho := one_digit (n := n) (s := (⟨#[]⟩ : ByteArray)) (l := []) rfl
  have ih := digits_loop (n / 10 + 1) (n / 10) (strOfNums [wrap64 (48 + Int.tmod (n : Int) 10) % 256] ++ (⟨#[]⟩ : ByteArray)) (by omega) (by omega) (by rw [ByteArray.size_append, one_size]; show 1 + 0 + _ ≤ _; omega) (by rw [ho]; simp)
  rw [ho] at ih
  by_cases h1 : n < 10
  · rw [if_pos (by omega)] at ih
    rw [dig_small h1]
    have : n % 10 = n := by omega
    rw [this] at ih
    exact ih
  · rw [if_neg (by omega)] at ih
    rw [dig_big h1]
    exact ih
theorem dig_lt (n : Nat) : ∀ x ∈ dig n, x < 256 := fun x hx => by have := dig_range n x hx; omega
theorem size_of {s : ByteArray} {l : List Nat} (h : oc s = l) : s.size = l.length := size_split h
theorem size_dig {n : Nat} (hn : n ≤ 1099511627775) : (ofL (dig n)).size ≤ 13 := by
  rw [size_of (oc_ofL (dig_lt n))]
  exact dig_len 12 n (by omega)
theorem head_lt (f : Int) (b : Bool) : ∀ x ∈ headL f b, x < 256 := by
  unfold headL
  split
  · simp
  · exact dig_lt _
theorem text_lt (f t : Int) (o b : Bool) : ∀ x ∈ textL f t o b, x < 256 := fun x hx => by
  unfold textL at hx
  rcases List.mem_append.1 hx with h | h
  · exact head_lt f b x h
  · rcases List.mem_cons.1 h with h | h
    · omega
    · unfold tailL at h
      split at h
      · simp at h
      · exact dig_lt _ x h
theorem ref_text {f t : Int} {o b : Bool} (h : mayB f t o b = true) : Ev (fun k => cellarerref03_Text.f k f t o b) (ofL (textL f t o b)) := by
  obtain ⟨f0, f1, t0, t1, ho, hb⟩ := may_in h
  have tail : ∀ s : ByteArray, oc s = headL f b ++ [45] → s.size ≤ 100 → Ev (fun k => cellarerref03_Text.j0 k s f t o b) (ofL (textL f t o b)) := fun s hs hz => by
    refine ev_succ ?_
    simp only [cellarerref03_Text.j0]
    cases o with
    | true =>
      refine ev_pos rfl ?_
      have e : s = ofL (textL f t true b) := oc_inj (by rw [hs, oc_ofL (text_lt f t true b)]; rfl)
      rw [← e]
      exact ev_now _
    | false =>
      refine ev_neg (by simp) ?_
      obtain ⟨n, rfl⟩ : ∃ n : Nat, t = n := ⟨t.toNat, by omega⟩
      refine ev_bind (digits_is n (by omega)) (ev_pos (by have := size_dig (n := n) (by omega); omega) ?_)
      have e : s ++ ofL (dig n) = ofL (textL f (n : Int) false b) := oc_inj (by rw [oc_append, hs, oc_ofL (dig_lt n), oc_ofL (text_lt f n false b)]; simp [textL, tailL])
      rw [e]
      exact ev_now _
  unfold cellarerref03_Text.f
  cases b with
  | true => exact ev_pos rfl (tail _ rfl (by decide))
  | false =>
    refine ev_neg (by simp) ?_
    obtain ⟨n, rfl⟩ : ∃ n : Nat, f = n := ⟨f.toNat, by omega⟩
    have hz := size_dig (n := n) (by omega)
    refine ev_bind (digits_is n (by omega)) (ev_pos (by omega) (tail _ ?_ ?_))
    · rw [oc_append, oc_ofL (dig_lt n)]
      rfl
    · rw [ByteArray.size_append]
      show _ + 1 ≤ 100
      omega
theorem text_is (f t : Int) (o b : Bool) (hf : -9223372036854775808 ≤ f ∧ f ≤ 9223372036854775807) (ht : -9223372036854775808 ≤ t ∧ t ≤ 9223372036854775807) :
    Ev (fun k => span_Text.f k f t o b) (if mayB f t o b = true then (ofL (textL f t o b), 0) else ((⟨#[]⟩ : ByteArray), 1)) := by
  unfold span_Text.f
  refine ev_bind (may_is f t o b) ?_
  cases h : mayB f t o b with
  | false => exact ev_neg (by simp) (ev_now _)
  | true =>
    obtain ⟨f0, f1, t0, t1, ho, hb⟩ := may_in h
    refine ev_pos rfl (ev_is (x := (⟨(Lib.itoa f).toArray⟩ : ByteArray)) (by unfold strconv_Itoa.f; rw [if_pos hf]) (ev_is (x := (⟨(Lib.itoa t).toArray⟩ : ByteArray)) (by unfold strconv_Itoa.f; rw [if_pos ht]) ?_))
    have ef := oc_itoa f0
    have et := oc_itoa t0
    have sf := size_of ef
    have st := size_of et
    have lf := dig_len 12 f.toNat (by omega)
    have lt := dig_len 12 t.toNat (by omega)
    generalize (⟨(Lib.itoa f).toArray⟩ : ByteArray) = x at *
    generalize (⟨(Lib.itoa t).toArray⟩ : ByteArray) = y at *
    have h45 : oc (⟨#[45]⟩ : ByteArray) = [45] := rfl
    have s45 : (⟨#[45]⟩ : ByteArray).size = 1 := rfl
    rw [if_pos rfl]
    cases o with
    | true =>
      obtain ⟨rfl, rfl⟩ := ho rfl
      refine ev_pos rfl (ev_pos (by omega) (ev_pos (by rw [ByteArray.size_append, s45]; omega) ?_))
      have e : (x ++ (⟨#[45]⟩ : ByteArray)) ++ (⟨#[]⟩ : ByteArray) = ofL (textL f 0 true false) := oc_inj (by
        rw [oc_append, oc_append, ef, h45, oc_ofL (text_lt _ _ _ _)]
        simp [textL, headL, tailL, oc])
      rw [e]
      exact ev_now _
    | false =>
      refine ev_neg (by simp) ?_
      cases b with
      | true =>
        refine ev_pos rfl (ev_pos (by omega) (ev_pos (by omega) ?_))
        have e : ((⟨#[]⟩ : ByteArray) ++ (⟨#[45]⟩ : ByteArray)) ++ y = ofL (textL f t false true) := oc_inj (by
          rw [oc_append, oc_append, et, h45, oc_ofL (text_lt _ _ _ _)]
          rfl)
        rw [e]
        exact ev_now _
      | false =>
        refine ev_neg (by simp) (ev_pos (by omega) (ev_pos (by rw [ByteArray.size_append, s45]; omega) ?_))
        have e : (x ++ (⟨#[45]⟩ : ByteArray)) ++ y = ofL (textL f t false false) := oc_inj (by
          rw [oc_append, oc_append, ef, et, h45, oc_ofL (text_lt _ _ _ _)]
          simp [textL, headL, tailL])
        rw [e]
        exact ev_now _
/-! ### The document's parse -/
theorem number_loop (s : ByteArray) (hs : s.size ≤ 5000) : ∀ (rest pre : List Nat) (acc : Int), oc s = pre ++ rest → pre.length ≤ 14 → -(23 * 10 ^ pre.length) + 23 ≤ acc → acc ≤ 23 * 10 ^ pre.length - 23 →
    Ev (fun k => cellarerref03_number.l0 k s acc (pre.length : Int)) ((rest.take (14 - pre.length)).foldl (fun (a : Int) (c : Nat) => 10 * a + (c : Int) - 48) acc)
  | [], pre, acc, h, _, _, _ => by
    have := size_split h
    refine ev_succ ?_
    simp only [cellarerref03_number.l0]
    refine ev_neg (by simp at this; omega) ?_
    simpa using ev_now _
  | x :: rest, pre, acc, h, hp, h0, h1 => by
    have hz := size_split h
    simp only [List.length_append, List.length_cons] at hz
    have hx : x < 256 := oc_lt s x (by rw [h]; simp)
    refine ev_succ ?_
    simp only [cellarerref03_number.l0, bt_split h]
    refine ev_pos (by omega) ?_
    by_cases h14 : pre.length < 14
    · have hpow : (10 : Int) ^ pre.length ≤ 10 ^ 13 := by
        have := Nat.pow_le_pow_right (n := 10) (by decide) (show pre.length ≤ 13 by omega)
        exact_mod_cast this
      have hpos : (1 : Int) ≤ 10 ^ pre.length := by
        have := Nat.one_le_pow pre.length 10 (by decide)
        exact_mod_cast this
      refine ev_pos (by omega) (ev_pos (by omega) ?_)
      have e13 : (10 : Int) ^ 13 = 10000000000000 := by decide
      rw [wrap_id (x := 10 * acc) (by omega) (by omega), wrap_id (x := (x : Int)) (by omega) (by omega), wrap_id (x := 10 * acc + (x : Int)) (by omega) (by omega), wrap_id (x := 10 * acc + (x : Int) - 48) (by omega) (by omega), wrap_id (x := (pre.length : Int) + 1) (by omega) (by omega)]
      have hsucc : (10 : Int) ^ (pre ++ [x]).length = 10 * 10 ^ pre.length := by rw [List.length_append, List.length_singleton, Int.pow_succ]; omega
      have ih := number_loop s hs rest (pre ++ [x]) (10 * acc + (x : Int) - 48) (by simp [h]) (by simp; omega) (by rw [hsucc]; omega) (by rw [hsucc]; omega)
      have e : 14 - pre.length = (14 - (pre ++ [x]).length) + 1 := by simp; omega
      rw [e, List.take_succ_cons, List.foldl_cons]
      simpa using ih
    · refine ev_neg (by omega) ?_
      rw [show 14 - pre.length = 0 by omega, List.take_zero, List.foldl_nil]
      exact ev_now _
theorem number_is (s : ByteArray) (hs : s.size ≤ 5000) : Ev (fun k => cellarerref03_number.f k s) (num (oc s)) := number_loop s hs (oc s) [] 0 rfl (by simp) (by simp) (by simp)
theorem ref_parse_j (s : ByteArray) (hs : s.size ≤ 4100) (a b : List Nat) (h : oc s = a ++ 45 :: b) : Ev (fun k => cellarerref03_Parse.j1 k s (a.length : Int)) (parseR a b) := by
  have hz := size_split h
  simp only [List.length_append, List.length_cons] at hz
  have h1 : oc (s.extract 0 a.length) = a := by rw [oc_take, h, List.take_left' rfl]
  have h2 : oc (s.extract (a.length + 1) s.size) = b := by rw [oc_drop, h, List.drop_append, List.drop_of_length_le (by omega)]; simp
  have hn1 := number_is (s.extract 0 a.length) (by rw [ByteArray.size_extract]; omega)
  have hn2 := number_is (s.extract (a.length + 1) s.size) (by rw [ByteArray.size_extract]; omega)
  rw [h1] at hn1
  rw [h2] at hn2
  have eb : ((a.length : Int) == (s.size : Int) - 1) = b.isEmpty := by
    rw [Bool.eq_iff_iff, beq_iff_eq, List.isEmpty_iff, ← List.length_eq_zero_iff]
    omega
  have ea : ((a.length : Int) == 0) = a.isEmpty := by
    rw [Bool.eq_iff_iff, beq_iff_eq, List.isEmpty_iff, ← List.length_eq_zero_iff]
    omega
  refine ev_succ ?_
  simp only [cellarerref03_Parse.j1]
  rw [wrap_id (x := (a.length : Int) + 1) (by omega) (by omega), wrap_id (x := (s.size : Int) - 1) (by omega) (by omega), eb, ea, Int.toNat_natCast, show ((a.length : Int) + 1).toNat = a.length + 1 by omega]
  refine ev_neg (by omega) (ev_pos (by omega) (ev_pos (by omega) (ev_bind hn1 (ev_pos (by omega) (ev_pos (by omega) (ev_bind hn2 (ev_is (ref_may _ _ _ _) ?_)))))))
  unfold parseR
  by_cases hm : mayB (num a) (num b) b.isEmpty a.isEmpty = true
  · refine ev_pos hm (ev_bind (ref_text hm) ?_)
    by_cases ht : textL (num a) (num b) b.isEmpty a.isEmpty = a ++ 45 :: b
    · rw [if_pos (c := mayB (num a) (num b) b.isEmpty a.isEmpty = true ∧ textL (num a) (num b) b.isEmpty a.isEmpty = a ++ 45 :: b) ⟨hm, ht⟩]
      exact ev_pos (by rw [toList_oc, oc_ofL (text_lt _ _ _ _), ht, h]) (ev_now _)
    · rw [if_neg (c := mayB (num a) (num b) b.isEmpty a.isEmpty = true ∧ textL (num a) (num b) b.isEmpty a.isEmpty = a ++ 45 :: b) (fun q => ht q.2)]
      exact ev_neg (by rw [toList_oc, oc_ofL (text_lt _ _ _ _), h]; exact ht) (ev_now _)
  · rw [if_neg (c := mayB (num a) (num b) b.isEmpty a.isEmpty = true ∧ textL (num a) (num b) b.isEmpty a.isEmpty = a ++ 45 :: b) (fun q => hm q.1)]
    exact ev_neg hm (ev_now _)
theorem ref_parse_loop (s : ByteArray) (hs : s.size ≤ 4100) (r : Int × Int × Bool × Bool × Bool) (A : List Nat) (hA : Ev (fun k => cellarerref03_Parse.j1 k s (A.length : Int)) r) (hAl : A.length ≤ s.size) :
    ∀ (b a : List Nat), A = a ++ b → (∃ c, oc s = A ++ c ∧ (c = [] ∨ ∃ d, c = 45 :: d)) → 45 ∉ b → Ev (fun k => cellarerref03_Parse.l0 k s (a.length : Int)) r
  | [], a, h, ⟨c, hc, hd⟩, _ => by
    rw [List.append_nil] at h
    subst h
    refine ev_succ ?_
    simp only [cellarerref03_Parse.l0]
    rcases hd with rfl | ⟨d, rfl⟩
    · have := size_split hc
      exact ev_neg (by simp at this; omega) hA
    · have := size_split hc
      simp only [List.length_append, List.length_cons] at this
      exact ev_pos (by omega) (ev_pos (by omega) (ev_pos (by rw [bt_split hc]; rfl) hA))
  | x :: b, a, h, ⟨c, hc, hd⟩, hb => by
    simp only [List.mem_cons, not_or] at hb
    have hsp : oc s = a ++ x :: (b ++ c) := by rw [hc, h]; simp
    have hz := size_split hsp
    simp only [List.length_append, List.length_cons] at hz
    have ih := ref_parse_loop s hs r A hA hAl b (a ++ [x]) (by rw [h]; simp) ⟨c, hc, hd⟩ hb.2
    refine ev_succ ?_
    simp only [cellarerref03_Parse.l0]
    refine ev_pos (by omega) (ev_pos (by omega) (ev_neg (by rw [bt_split hsp]; have := hb.1; omega) ?_))
    rw [wrap_id (by omega) (by omega)]
    rw [show (((a ++ [x]).length : Nat) : Int) = (a.length : Int) + 1 by simp] at ih
    exact ih
theorem ref_parse_some (s : ByteArray) (hs : s.size ≤ 4100) (a b : List Nat) (h : oc s = a ++ 45 :: b) (ha : 45 ∉ a) : Ev (fun k => cellarerref03_Parse.f k s) (parseR a b) := by
  have hz := size_split h
  simp only [List.length_append, List.length_cons] at hz
  exact ref_parse_loop s hs _ a (ref_parse_j s hs a b h) (by omega) a [] rfl ⟨45 :: b, h, .inr ⟨b, rfl⟩⟩ ha
theorem ref_parse_none (s : ByteArray) (hs : s.size ≤ 4100) (h : 45 ∉ oc s) : Ev (fun k => cellarerref03_Parse.f k s) (0, 0, false, false, false) := by
  refine ref_parse_loop s hs _ (oc s) ?_ (by rw [oc_length]; exact Nat.le_refl _) (oc s) [] rfl ⟨[], by simp, .inl rfl⟩ h
  refine ev_succ ?_
  simp only [cellarerref03_Parse.j1]
  exact ev_pos (by rw [oc_length]) (ev_now _)
/-! ### The program's parse -/
theorem index_in {c : UInt8} : ∀ {a : List UInt8} (b : List UInt8), c ∉ a → Lib.indexByte (a ++ c :: b) c = (a.length : Int)
  | [], b, _ => by simp [Lib.indexByte]
  | x :: r, b, h => by
    simp only [List.mem_cons, not_or] at h
    have hx : (x == c) = false := by simpa using fun e => h.1 e.symm
    have ih := index_in b h.2
    rw [List.cons_append, Lib.indexByte, hx, ih]
    have : ((r.length : Int) == -1) = false := by simp
    rw [this]
    simp
theorem index_no {c : UInt8} : ∀ {a : List UInt8}, c ∉ a → Lib.indexByte a c = -1
  | [], _ => rfl
  | x :: r, h => by
    simp only [List.mem_cons, not_or] at h
    have hx : (x == c) = false := by simpa using fun e => h.1 e.symm
    rw [Lib.indexByte, hx, index_no h.2]
    simp
theorem nat_mem {c : UInt8} {l : List UInt8} : c.toNat ∈ l.map UInt8.toNat ↔ c ∈ l := by
  rw [List.mem_map]
  constructor
  · rintro ⟨x, hx, e⟩
    rw [← UInt8.toNat_inj.1 e]
    exact hx
  · exact fun h => ⟨c, h, rfl⟩
theorem idx_none {s : ByteArray} {c : UInt8} (h : c.toNat ∉ oc s) : StrLite.idx s c = -1 := index_no (fun hc => h (nat_mem.2 hc))
theorem idx_some {s : ByteArray} {c : UInt8} {a b : List Nat} (h : oc s = a ++ c.toNat :: b) (ha : c.toNat ∉ a) : StrLite.idx s c = (a.length : Int) := by
  unfold StrLite.idx
  obtain ⟨a', r', h1, h2, h3⟩ := List.map_eq_append_iff.1 (show s.data.toList.map UInt8.toNat = a ++ c.toNat :: b from h)
  obtain ⟨c', b', h4, h5, h6⟩ := List.map_eq_cons_iff.1 h3
  obtain rfl := UInt8.toNat_inj.1 h5
  rw [h1, h4, index_in b' (fun hc => ha (by rw [← h2]; exact nat_mem.2 hc)), ← h2, List.length_map]
theorem cut_none (s : ByteArray) (h : 45 ∉ oc s) : strings_Cut.f s (⟨#[45]⟩ : ByteArray) = some (s, (⟨#[]⟩ : ByteArray), false) := by
  unfold strings_Cut.f stringslite_Cut.f stringslite_Index.f
  simp only
  rw [idx_none (c := 45) (by simpa using h)]
  rfl
theorem cut_some (s : ByteArray) (hs : s.size ≤ 4100) (a b : List Nat) (h : oc s = a ++ 45 :: b) (ha : 45 ∉ a) : strings_Cut.f s (⟨#[45]⟩ : ByteArray) = some (s.extract 0 a.length, s.extract (a.length + 1) s.size, true) := by
  have hz := size_split h
  simp only [List.length_append, List.length_cons] at hz
  unfold strings_Cut.f stringslite_Cut.f stringslite_Index.f
  simp only
  rw [idx_some (c := 45) (by simpa using h) (by simpa using ha)]
  have e1 : ((⟨#[45]⟩ : ByteArray).size : Int) = 1 := rfl
  rw [Option.bind_some, if_pos (by omega), if_pos (by omega), if_pos (by omega), e1, wrap_id (by omega) (by omega), if_pos (by omega), if_pos (by omega), Int.toNat_natCast, show ((a.length : Int) + 1).toNat = a.length + 1 by omega]
  rfl
def toE (r : Int × Int × Bool × Bool × Bool) : Int × Int × Bool × Bool × Int := (r.1, r.2.1, r.2.2.1, r.2.2.2.1, if r.2.2.2.2 = true then 0 else 2)
theorem parse_some (s : ByteArray) (hs : s.size ≤ 4100) (a b : List Nat) (h : oc s = a ++ 45 :: b) (ha : 45 ∉ a) : Ev (fun k => span_Parse.f k s) (toE (parseR a b)) := by
  have hz := size_split h
  simp only [List.length_append, List.length_cons] at hz
  have h1 : oc (s.extract 0 a.length) = a := by rw [oc_take, h, List.take_left' rfl]
  have h2 : oc (s.extract (a.length + 1) s.size) = b := by rw [oc_drop, h, List.drop_append, List.drop_of_length_le (by omega)]; simp
  unfold span_Parse.f
  refine ev_is (cut_some s hs a b h ha) (ev_pos rfl ?_)
  dsimp only
  rw [empty_oc, empty_oc, h1, h2]
  have hx : ∀ x : ByteArray, x.size ≤ 4100 → span_number.f x = some (numL x) := fun x hx => if_pos (by omega)
  have z1 : (s.extract 0 a.length).size ≤ 4100 := by rw [ByteArray.size_extract]; omega
  have z2 : (s.extract (a.length + 1) s.size).size ≤ 4100 := by rw [ByteArray.size_extract]; omega
  have n2 : (s.extract (a.length + 1) s.size).toList = [] ↔ b = [] := by rw [toList_nil, h2]
  generalize s.extract 0 a.length = x at *
  generalize s.extract (a.length + 1) s.size = y at *
  have refuse : ∀ f t o b', Ev (fun k => span_Parse.j2 k true f t o b') (0, 0, false, false, 2) := fun f t o b' => by
    refine ev_succ ?_
    simp only [span_Parse.j2]
    exact ev_pos trivial (ev_now _)
  have fin : ∀ (u v : Bool) (f t : Int) (o b' : Bool) (r : Int × Int × Bool × Bool × Int), r = (if u = true ∧ v = true ∧ mayB f t o b' = true then (f, t, o, b', 0) else (0, 0, false, false, 2)) → Ev (fun k => span_Parse.j1 k u v f t o b') r := fun u v f t o b' r hr => by
    refine ev_succ ?_
    simp only [span_Parse.j1]
    cases u with
    | false => rw [if_neg (by simp)] at hr; rw [hr]; exact ev_neg (by simp) (refuse _ _ _ _)
    | true =>
      refine ev_pos rfl ?_
      cases v with
      | false => rw [if_neg (by simp)] at hr; rw [hr]; exact ev_neg (by simp) (refuse _ _ _ _)
      | true =>
        refine ev_pos rfl (ev_bind (may_is f t o b') ?_)
        cases hm : mayB f t o b' with
        | false => rw [if_neg (by simp [hm])] at hr; rw [hr]; exact refuse _ _ _ _
        | true =>
          rw [if_pos ⟨rfl, rfl, hm⟩] at hr
          rw [hr]
          refine ev_succ ?_
          simp only [span_Parse.j2]
          exact ev_neg (by simp) (ev_now _)
  -- what is read, if it is digits
  have no : (mayB (num a) (num b) b.isEmpty a.isEmpty = true ∧ textL (num a) (num b) b.isEmpty a.isEmpty = a ++ 45 :: b → False) → toE (parseR a b) = (0, 0, false, false, 2) := fun hq => by
    unfold parseR
    rw [if_neg hq]
    rfl
  have digB : (numL y).2 = true → ∃ n : Nat, n ≤ 1099511627775 ∧ b = dig n ∧ (numL y).1 = (n : Int) := fun hq => by
    have := num_no hq
    rwa [h2] at this
  have digA : (numL x).2 = true → ∃ n : Nat, n ≤ 1099511627775 ∧ a = dig n ∧ (numL x).1 = (n : Int) := fun hq => by
    have := num_no hq
    rwa [h1] at this
  by_cases hb : b = []
  · refine ev_pos (n2.2 hb) ?_
    by_cases haa : a = []
    · -- both are empty
      rw [no (fun hq => by
        have := hq.1
        rw [hb, haa] at this
        simp [mayB] at this)]
      rw [hb, haa]
      refine ev_succ ?_
      simp only [span_Parse.j0]
      exact ev_pos rfl (ev_now _)
    · -- Open
      have hae : a.isEmpty = false := by simpa using haa
      have hbe : b.isEmpty = true := by rw [hb]; rfl
      rw [hae, hbe]
      refine ev_succ ?_
      simp only [span_Parse.j0]
      refine ev_neg (by simp) (ev_neg (by simp) (ev_is (hx x z1) (ev_pos (by simp) (fin _ _ _ _ _ _ _ ?_))))
      by_cases hq : (numL x).2 = true
      · obtain ⟨n, hn, e1, e2⟩ := digA hq
        rw [e2]
        have hm : mayB (n : Int) 0 true false = true := by simp [mayB, inB_iff]; omega
        rw [if_pos ⟨hq, rfl, hm⟩]
        have := parse_text hm
        simp only [headL, tailL, Bool.false_eq_true, if_false, if_true, Int.toNat_natCast, ← e1] at this
        rw [hb, this]
        rfl
      · rw [if_neg (fun q => hq q.1), no]
        rintro ⟨hm, ht⟩
        obtain ⟨p1, _⟩ := parse_parts ha hm ht
        rcases p1 with p1 | p1
        · exact haa p1
        · obtain ⟨f0, f1, _⟩ := may_in hm
          have := num_yes (s := x) (n := (num a).toNat) (by omega) (by rw [h1]; exact p1)
          exact hq (by rw [this])
  · refine ev_neg (fun e => hb (n2.1 e)) ?_
    have hbe : b.isEmpty = false := by simpa using hb
    by_cases haa : a = []
    · -- Back
      have hae : a.isEmpty = true := by rw [haa]; rfl
      rw [hae, hbe]
      refine ev_succ ?_
      simp only [span_Parse.j0]
      refine ev_neg (by simp) (ev_pos (by simp) (ev_is (hx y z2) (fin _ _ _ _ _ _ _ ?_)))
      by_cases hq : (numL y).2 = true
      · obtain ⟨n, hn, e1, e2⟩ := digB hq
        rw [e2]
        have hm : mayB 0 (n : Int) false true = true := by simp [mayB, inB_iff]; omega
        rw [if_pos ⟨rfl, hq, hm⟩]
        have := parse_text hm
        simp only [headL, tailL, Bool.false_eq_true, if_false, if_true, Int.toNat_natCast, ← e1] at this
        rw [haa, this]
        rfl
      · rw [if_neg (fun q => hq q.2.1), no]
        rintro ⟨hm, ht⟩
        obtain ⟨_, p2⟩ := parse_parts ha hm ht
        rcases p2 with p2 | p2
        · exact hb p2
        · obtain ⟨_, _, t0, t1, _⟩ := may_in hm
          have := num_yes (s := y) (n := (num b).toNat) (by omega) (by rw [h2]; exact p2)
          exact hq (by rw [this])
    · -- both
      have hae : a.isEmpty = false := by simpa using haa
      rw [hae, hbe]
      refine ev_succ ?_
      simp only [span_Parse.j0]
      refine ev_neg (by simp) (ev_neg (by simp) (ev_is (hx x z1) (ev_neg (by simp) (ev_is (hx y z2) (fin _ _ _ _ _ _ _ ?_)))))
      by_cases hq : (numL x).2 = true ∧ (numL y).2 = true ∧ mayB (numL x).1 (numL y).1 false false = true
      · rw [if_pos hq]
        obtain ⟨hqx, hqy, hm⟩ := hq
        obtain ⟨n, hn, e1, e2⟩ := digA hqx
        obtain ⟨m, hm', e3, e4⟩ := digB hqy
        rw [e2, e4] at hm ⊢
        have := parse_text hm
        simp only [headL, tailL, Bool.false_eq_true, if_false, Int.toNat_natCast, ← e1, ← e3] at this
        rw [this]
        rfl
      · rw [if_neg hq, no]
        rintro ⟨hm, ht⟩
        obtain ⟨p1, p2⟩ := parse_parts ha hm ht
        obtain ⟨f0, f1, t0, t1, _⟩ := may_in hm
        have q1 := num_yes (s := x) (n := (num a).toNat) (by omega) (by rw [h1]; exact p1.resolve_left haa)
        have q2 := num_yes (s := y) (n := (num b).toNat) (by omega) (by rw [h2]; exact p2.resolve_left hb)
        refine hq ⟨by rw [q1], by rw [q2], ?_⟩
        rw [q1, q2, ← hm, hae, hbe]
        simp only
        congr 1 <;> omega
theorem parse_none (s : ByteArray) (hs : s.size ≤ 4100) (h : 45 ∉ oc s) : Ev (fun k => span_Parse.f k s) (0, 0, false, false, 2) := by
  unfold span_Parse.f
  refine ev_is (cut_none s h) (ev_neg (by simp) ?_)
  refine ev_succ ?_
  simp only [span_Parse.j0]
  exact ev_pos trivial (ev_now _)
theorem awake_is : Ev (fun k => cellarerlaw03_awake.f k) true := by
  have p : ∀ (s d : ByteArray) (a b : List Nat) (f t : Int) (o bk : Bool) (r : ByteArray × Int), s.size ≤ 4100 → oc s = a ++ 45 :: b → 45 ∉ a → parseR a b = (f, t, o, bk, true) → Ev (fun k => (span_Cut.f k f t o bk d)) r → Ev (fun k => cellarerlaw03_cut.f k s d) r := fun s d a b f t o bk r h0 h1 h2 h3 h4 => by
    unfold cellarerlaw03_cut.f
    refine ev_bind (parse_some s h0 a b h1 h2) ?_
    rw [h3]
    exact ev_pos rfl (ev_bind h4 (ev_now _))
  have c : ∀ (k0 : Nat) (f t : Int) (o bk : Bool) (d : ByteArray) (r : ByteArray × Int), span_Cut.f k0 f t o bk d = some r → Ev (fun k => span_Cut.f k f t o bk d) r := fun k0 f t o bk d r h => Ev.of (fun k => span_Cut.mono f t o bk d k) (k := k0) h
  unfold cellarerlaw03_awake.f
  refine ev_bind (p _ _ [49] [50] 1 2 false false _ (by decide) rfl (by decide) (by decide +kernel) (c 20 _ _ _ _ _ ((⟨#[98, 99]⟩ : ByteArray), 0) (by decide +kernel))) ?_
  refine ev_bind (p _ _ [52] [] 4 0 true false _ (by decide) rfl (by decide) (by decide +kernel) (c 20 _ _ _ _ _ ((⟨#[101, 102]⟩ : ByteArray), 0) (by decide +kernel))) ?_
  refine ev_bind (p _ _ [] [57] 0 9 false true _ (by decide) rfl (by decide) (by decide +kernel) (c 20 _ _ _ _ _ ((⟨#[97, 98, 99, 100, 101, 102]⟩ : ByteArray), 0) (by decide +kernel))) ?_
  refine ev_bind (p _ _ [54] [] 6 0 true false _ (by decide) rfl (by decide) (by decide +kernel) (c 20 _ _ _ _ _ ((⟨#[]⟩ : ByteArray), 12) (by decide +kernel))) ?_
  exact ev_pos (by decide +kernel) (ev_pos rfl (ev_pos (by decide +kernel) (ev_pos rfl (ev_pos (by decide +kernel) (ev_pos rfl (ev_pos rfl (ev_now _)))))))
theorem SpanTexts : cellarerlaw03_SpanTexts.Pure := by
  intro f t o b s0 hok _
  obtain ⟨hf, ht, _, _⟩ := hok
  have hf := wf_i64 hf
  have ht := wf_i64 ht
  simp only at hf ht
  apply Ev.rounds
  unfold cellarerlaw03_SpanTexts.f
  obtain ⟨s, hs, hsz⟩ := few s0
  refine ev_bind hs (ev_bind (text_is f t o b hf ht) ?_)
  obtain ⟨r, hr1, hr2, hr3⟩ : ∃ r : Int × Int × Bool × Bool × Bool, Ev (fun k => span_Parse.f k s) (toE r) ∧ Ev (fun k => cellarerref03_Parse.f k s) r ∧ True := by
    rcases first_of 45 (oc s) with h | ⟨x, y, h, hx⟩
    · exact ⟨(0, 0, false, false, false), parse_none s hsz h, ref_parse_none s hsz h, trivial⟩
    · exact ⟨_, parse_some s hsz x y h hx, ref_parse_some s hsz x y h hx, trivial⟩
  refine ev_bind hr1 (ev_bind hr2 (ev_bind (may_is f t o b) (ev_is (ref_may f t o b) (ev_neg (by simp) (ev_neg (by simp [toE]) ?_)))))
  have last : Ev (fun k => cellarerlaw03_SpanTexts.j0 k (if mayB f t o b = true then (ofL (textL f t o b), (0 : Int)) else ((⟨#[]⟩ : ByteArray), 1)).1 (if mayB f t o b = true then (ofL (textL f t o b), (0 : Int)) else ((⟨#[]⟩ : ByteArray), 1)).2 false f t o b) true := by
    refine ev_succ ?_
    simp only [cellarerlaw03_SpanTexts.j0]
    refine ev_neg (by simp) (ev_is (ref_may f t o b) ?_)
    cases hm : mayB f t o b with
    | false =>
      refine ev_neg (by simp) ?_
      exact ev_pos (toList_nil.2 rfl) (ev_pos rfl (ev_bind awake_is (ev_now _)))
    | true =>
      refine ev_pos rfl ?_
      rw [if_pos rfl]
      have ho := oc_ofL (text_lt f t o b)
      obtain ⟨f0, f1, t0, t1, _⟩ := may_in hm
      have hz : (ofL (textL f t o b)).size ≤ 4100 := by
        rw [size_of ho]
        unfold textL headL tailL
        have l1 := dig_len 12 f.toNat (by omega)
        have l2 := dig_len 12 t.toNat (by omega)
        split <;> split <;> simp <;> omega
      have hp := parse_some (ofL (textL f t o b)) hz (headL f b) (tailL t o) (by rw [ho]; rfl) (head_45 f b)
      rw [parse_text hm] at hp
      refine ev_bind hp (ev_bind (ref_text hm) (ev_pos rfl (ev_pos rfl (ev_pos (by simp [toE]) (ev_pos rfl (ev_bind awake_is (ev_now _)))))))
  cases hr : r.2.2.2.2 with
  | false =>
    have e : (toE r).2.2.2.2 = 2 := by simp [toE, hr]
    rw [e]
    refine ev_neg (by simp) (ev_neg (by simp) ?_)
    exact last
  | true =>
    have e : (toE r).2.2.2.2 = 0 := by simp [toE, hr]
    rw [e]
    refine ev_neg (by simp) (ev_pos rfl ?_)
    exact last
end Go.Proofs.YtabkbjhhhfeanaaDoor.Pure
