/-
  layer 3: A SPAN's TEXT, in plain words: a number's digits, what is read off them, a text's two parts.
-/
import Derived.Test.YtabkbjhhhfeanaaDoorDig
import Derived.Test.YtabkbjhhhfeanaaDoorNumL
set_option linter.unusedVariables false
set_option linter.unusedSimpArgs false
namespace Go.Proofs.YtabkbjhhhfeanaaDoor.SpTx
open Go.RowKit Go.Proofs.YtabkbjhhhfeanaaDoorW.PrintWords Go.Proofs.YtabkbjhhhfeanaaDoor.PureKit Go.Proofs.YtabkbjhhhfeanaaDoor.NumL Go.Proofs.YtabkbjhhhfeanaaDoor.Laid Go.Proofs.YtabkbjhhhfeanaaDoor.Dig

/-! ### What is read off -/
def num (l : List Nat) : Int := (l.take 14).foldl (fun (a : Int) (c : Nat) => 10 * a + (c : Int) - 48) 0
theorem fold_dig : ∀ (k n : Nat), n < k → (dig n).foldl (fun (a : Int) (c : Nat) => 10 * a + (c : Int) - 48) 0 = (n : Int)
  | 0, n, h => by omega
  | k + 1, n, h => by
    by_cases h1 : n < 10
    · rw [dig_small h1]
      simp
      omega
    · rw [dig_big h1, List.foldl_append, fold_dig k (n / 10) (by omega)]
      simp
      omega
theorem num_dig {n : Nat} (h : n ≤ 1099511627775) : num (dig n) = (n : Int) := by
  unfold num
  rw [List.take_of_length_le (by have := dig_len 12 n (by omega); omega)]
  exact fold_dig _ n (Nat.lt_succ_self n)
theorem num_nil : num [] = 0 := rfl
/-- A number's text is read as it is written. -/
theorem num_yes {s : ByteArray} {n : Nat} (h : n ≤ 1099511627775) (hs : oc s = dig n) : numL s = ((n : Int), true) := by
  have hd : s.data.toList = Lib.decDigits n := by
    have e : oc s = oc (⟨(Lib.decDigits n).toArray⟩ : ByteArray) := by rw [hs]; exact (dig_is _ n (Nat.lt_succ_self n)).symm
    have := oc_inj e
    rw [this]
  unfold numL
  rw [hd, atoi_digits h]
  have e : (⟨(Lib.itoa (n : Int)).toArray⟩ : ByteArray) = s := by
    apply oc_inj
    rw [oc_itoa (by omega), hs]
    congr 1
  simp only [e, beq_self_eq_true, Bool.true_and]
  unfold inB
  simp
  omega
theorem num_no {s : ByteArray} (h : (numL s).2 = true) : ∃ n : Nat, n ≤ 1099511627775 ∧ oc s = dig n ∧ (numL s).1 = (n : Int) := by
  unfold numL at h ⊢
  simp only [Bool.and_eq_true, beq_iff_eq] at h
  obtain ⟨⟨h1, h2⟩, h3⟩ := h
  unfold inB at h3
  simp only [Bool.and_eq_true, decide_eq_true_eq] at h3
  refine ⟨(atoiF s.data.toList).1.toNat, by omega, ?_, by simp only; omega⟩
  rw [← oc_itoa h3.1]
  rw [ByteArray.toList_eq, ByteArray.toList_eq] at h2
  unfold oc
  rw [h2]
/-- May a span be? -/
def mayB (f t : Int) (o b : Bool) : Bool := if o = true then (!b && (inB f && (t == 0))) else if b = true then (inB t && (f == 0)) else (inB f && (inB t && decide (f ≤ t)))
theorem inB_iff {x : Int} : inB x = true ↔ 0 ≤ x ∧ x ≤ 1099511627775 := by unfold inB; simp
theorem may_in {f t : Int} {o b : Bool} (h : mayB f t o b = true) : 0 ≤ f ∧ f ≤ 1099511627775 ∧ 0 ≤ t ∧ t ≤ 1099511627775 ∧ (o = true → b = false ∧ t = 0) ∧ (b = true → f = 0) := by
  unfold mayB at h
  cases o <;> cases b <;> simp [inB_iff] at h ⊢ <;> omega
def headL (f : Int) (b : Bool) : List Nat := if b = true then [] else dig f.toNat
def tailL (t : Int) (o : Bool) : List Nat := if o = true then [] else dig t.toNat
def textL (f t : Int) (o b : Bool) : List Nat := headL f b ++ 45 :: tailL t o
theorem head_45 (f : Int) (b : Bool) : 45 ∉ headL f b := by
  unfold headL
  split
  · simp
  · exact dig_45 _
/-- The document's span of a text of two parts. -/
def parseR (a b : List Nat) : Int × Int × Bool × Bool × Bool :=
  if mayB (num a) (num b) b.isEmpty a.isEmpty = true ∧ textL (num a) (num b) b.isEmpty a.isEmpty = a ++ 45 :: b then (num a, num b, b.isEmpty, a.isEmpty, true) else (0, 0, false, false, false)
theorem parse_text {f t : Int} {o b : Bool} (h : mayB f t o b = true) : parseR (headL f b) (tailL t o) = (f, t, o, b, true) := by
  obtain ⟨f0, f1, t0, t1, ho, hb⟩ := may_in h
  have e1 : num (headL f b) = f := by
    unfold headL
    cases b with
    | true => simp only [if_true]; rw [num_nil, hb rfl]
    | false => simp only [Bool.false_eq_true, if_false]; rw [num_dig (by omega)]; omega
  have e2 : num (tailL t o) = t := by
    unfold tailL
    cases o with
    | true => simp only [if_true]; rw [num_nil, (ho rfl).2]
    | false => simp only [Bool.false_eq_true, if_false]; rw [num_dig (by omega)]; omega
  have e3 : (headL f b).isEmpty = b := by
    unfold headL
    cases b with
    | true => rfl
    | false => simpa using dig_ne _
  have e4 : (tailL t o).isEmpty = o := by
    unfold tailL
    cases o with
    | true => rfl
    | false => simpa using dig_ne _
  unfold parseR
  rw [e1, e2, e3, e4, if_pos ⟨h, rfl⟩]
/-- What the document takes is digits. -/
theorem parse_parts {a b : List Nat} (ha : 45 ∉ a) (hm : mayB (num a) (num b) b.isEmpty a.isEmpty = true) (ht : textL (num a) (num b) b.isEmpty a.isEmpty = a ++ 45 :: b) :
    (a = [] ∨ a = dig (num a).toNat) ∧ (b = [] ∨ b = dig (num b).toNat) := by
  unfold textL at ht
  obtain ⟨e1, e2⟩ := one_cut ht (head_45 _ _) ha
  constructor
  · cases a with
    | nil => exact .inl rfl
    | cons x r => exact .inr (by simp only [headL, List.isEmpty_cons, Bool.false_eq_true, if_false] at e1; exact e1.symm)
  · cases b with
    | nil => exact .inl rfl
    | cons x r => exact .inr (by simp only [tailL, List.isEmpty_cons, Bool.false_eq_true, if_false] at e2; exact e2.symm)
end Go.Proofs.YtabkbjhhhfeanaaDoor.SpTx
