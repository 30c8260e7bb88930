/-
  layer 3: SPANS IN PLAIN WORDS: which may be, what one is of so many octets, which octets these are; and the printed functions' answers.
-/
import Derived.Test.YtabkbjhhhfeanaaDoorPx1
import Derived.Test.YtabkbjhhhfeanaaDoorPureKit
set_option linter.unusedVariables false
set_option linter.unusedSimpArgs false
namespace Go.Proofs.YtabkbjhhhfeanaaDoor.SpSpec
open Go.RowKit Go.Proofs.YtabkbjhhhfeanaaDoor.P Go.Proofs.YtabkbjhhhfeanaaDoorW.PrintWords Go.Proofs.YtabkbjhhhfeanaaDoorW.PrintLast Go.Proofs.YtabkbjhhhfeanaaDoorW.PrintMore Go.Proofs.YtabkbjhhhfeanaaDoor.PureKit

theorem ev_succ {α : Type} {g : Nat → Option α} {r : α} (h : Ev (fun k => g (k + 1)) r) : Ev g r := ev_step (fun _ => rfl) h
theorem toList_oc {s t : ByteArray} : s.toList = t.toList ↔ oc s = oc t := by
  constructor
  · intro h
    rw [ByteArray.toList_eq, ByteArray.toList_eq] at h
    unfold oc
    rw [h]
  · intro h
    rw [oc_inj h]
theorem toList_nil {s : ByteArray} : s.toList = [] ↔ oc s = [] := by
  rw [ByteArray.toList_eq]
  simp [oc]
theorem size_nil {s : ByteArray} : s.toList = [] ↔ s.size = 0 := by rw [toList_nil, ← oc_length, List.length_eq_zero_iff]
def cut2 (s : ByteArray) : ByteArray := if s.size > 300 ∧ s.size ≤ 4000 then s.extract 0 300 else if s.size > 4100 then s.extract 0 4100 else s
theorem small_cut2 (s : ByteArray) : (cut2 s).size ≤ 4100 := by
  unfold cut2
  split
  · rw [ByteArray.size_extract]; omega
  · split
    · rw [ByteArray.size_extract]; omega
    · omega
theorem few_is (s : ByteArray) : Ev (fun k => cellarerlaw02_Few.f k s) (cut2 s) := by
  unfold cellarerlaw02_Few.f cut2
  have t : ∀ b : Bool, b = decide (s.size > 300 ∧ s.size ≤ 4000) → Ev (fun k => cellarerlaw02_Few.j0 k s b) (if s.size > 300 ∧ s.size ≤ 4000 then s.extract 0 300 else if s.size > 4100 then s.extract 0 4100 else s) := fun b hb => by
    refine ev_succ ?_
    simp only [cellarerlaw02_Few.j0]
    by_cases h : s.size > 300 ∧ s.size ≤ 4000
    · rw [hb, decide_eq_true h, if_pos h]
      exact ev_pos rfl (ev_pos (by omega) (ev_pos (by omega) (ev_now _)))
    · rw [hb, decide_eq_false h, if_neg h]
      refine ev_neg (by simp) ?_
      by_cases h2 : s.size > 4100
      · rw [if_pos h2]
        exact ev_pos (by omega) (ev_pos (by omega) (ev_pos (by omega) (ev_now _)))
      · rw [if_neg h2]
        exact ev_neg (by omega) (ev_now _)
  by_cases h : s.size > 300
  · refine ev_pos (by omega) (t _ ?_)
    apply decide_eq_decide.2
    omega
  · exact ev_neg (by omega) (t _ (by simp; omega))
/-! ### What a span is -/
def inB (x : Int) : Bool := decide (0 ≤ x) && decide (x ≤ 1099511627775)
theorem inB_iff {x : Int} : inB x = true ↔ 0 ≤ x ∧ x ≤ 1099511627775 := by unfold inB; simp
def mayB (f t : Int) (o b : Bool) : Bool := if o = true then (!b && (inB f && (t == 0))) else if b = true then (inB t && (f == 0)) else (inB f && (inB t && decide (f ≤ t)))
/-- Where it begins and ends, of so many octets. -/
def fromS (f t : Int) (b : Bool) (n : Int) : Int := if b = true then (if n - t < 0 then 0 else n - t) else f
def toS (t : Int) (o b : Bool) (n : Int) : Int := if b = true then n else if o = true then n else if n < t + 1 then n else t + 1
def ofS (f t : Int) (o b : Bool) (n : Int) : Int × Int × Int :=
  if mayB f t o b = true ∧ 0 ≤ n then (if fromS f t b n ≥ toS t o b n then (0, 0, 12) else (fromS f t b n, toS t o b n - fromS f t b n, 0)) else (0, 0, 1)
theorem may_in {f t : Int} {o b : Bool} (h : mayB f t o b = true) : 0 ≤ f ∧ f ≤ 1099511627775 ∧ 0 ≤ t ∧ t ≤ 1099511627775 ∧ (o = true → b = false) := by
  unfold mayB at h
  cases o <;> cases b <;> simp [inB_iff] at h ⊢ <;> omega
theorem place_is (x : Int) : span_place.f x = some (inB x) := by
  unfold span_place.f inB
  by_cases h : x ≥ 0
  · rw [if_pos h, decide_eq_true (show 0 ≤ x from h), Bool.true_and]
  · rw [if_neg h, decide_eq_false (show ¬ 0 ≤ x from h), Bool.false_and]
theorem ref_in (x : Int) : cellarerref03_in.f x = some (inB x) := by
  unfold cellarerref03_in.f inB
  by_cases h : 0 ≤ x
  · rw [if_pos h, decide_eq_true h, Bool.true_and]
  · rw [if_neg h, decide_eq_false h, Bool.false_and]
theorem may_is (f t : Int) (o b : Bool) : Ev (fun k => span_May.f k f t o b) (mayB f t o b) := by
  refine ⟨1, fun k hk => ?_⟩
  obtain ⟨m, rfl⟩ : ∃ m, k = m + 1 := ⟨k - 1, by omega⟩
  cases o <;> cases b <;> simp only [span_May.f, span_May.j0, place_is, Option.bind_some, if_true, if_false, mayB, Bool.not_true, Bool.not_false, Bool.false_and, Bool.true_and, Bool.false_eq_true]
  all_goals first
    | (cases inB f <;> cases inB t <;> simp)
theorem ref_may (f t : Int) (o b : Bool) : cellarerref03_May.f f t o b = some (mayB f t o b) := by
  cases o <;> cases b <;> simp only [cellarerref03_May.f, ref_in, Option.bind_some, if_true, if_false, mayB, Bool.not_true, Bool.not_false, Bool.false_and, Bool.true_and, Bool.false_eq_true]
  all_goals first
    | (cases inB f <;> cases inB t <;> simp)
theorem ofS_no {f t : Int} {o b : Bool} {n : Int} (h : ¬ (mayB f t o b = true ∧ 0 ≤ n)) : ofS f t o b n = (0, 0, 1) := if_neg h
theorem ofS_out {f t : Int} {o b : Bool} {n : Int} (hm : mayB f t o b = true) (hn : 0 ≤ n) (h : fromS f t b n ≥ toS t o b n) : ofS f t o b n = (0, 0, 12) := by
  unfold ofS
  rw [if_pos ⟨hm, hn⟩, if_pos h]
theorem ofS_in {f t : Int} {o b : Bool} {n : Int} (hm : mayB f t o b = true) (hn : 0 ≤ n) (h : ¬ fromS f t b n ≥ toS t o b n) : ofS f t o b n = (fromS f t b n, toS t o b n - fromS f t b n, 0) := by
  unfold ofS
  rw [if_pos ⟨hm, hn⟩, if_neg h]
theorem of_is (f t : Int) (o b : Bool) (n : Int) (h0 : -9223372036854775808 ≤ n) (h1 : n ≤ 9223372036854775807) : Ev (fun k => span_Of.f k f t o b n) (ofS f t o b n) := by
  unfold span_Of.f
  refine ev_bind (may_is f t o b) ?_
  cases hm : mayB f t o b with
  | false =>
    rw [ofS_no (by rw [hm]; simp)]
    refine ev_neg (by simp) ?_
    refine ev_succ ?_
    simp only [span_Of.j0]
    exact ev_pos trivial (ev_now _)
  | true =>
    obtain ⟨f0, f1, t0, t1, ho⟩ := may_in hm
    refine ev_pos rfl ?_
    refine ev_succ ?_
    simp only [span_Of.j0]
    by_cases hn : n < 0
    · rw [ofS_no (by omega)]
      exact ev_pos (by simpa using hn) (ev_now _)
    · have hn0 : 0 ≤ n := by omega
      refine ev_neg (by simpa using hn) ?_
      have tail : ∀ x y : Int, x = fromS f t b n → y = toS t o b n → Ev (fun k => span_Of.j1 k x y) (ofS f t o b n) := fun x y hx hy => by
        refine ev_succ ?_
        simp only [span_Of.j1]
        by_cases hc : x ≥ y
        · rw [ofS_out hm hn0 (by rw [← hx, ← hy]; exact hc)]
          exact ev_pos hc (ev_now _)
        · rw [ofS_in hm hn0 (by rw [← hx, ← hy]; exact hc), ← hx, ← hy]
          refine ev_neg hc ?_
          have hw : wrap64 (y - x) = y - x := by
            have hy1 : y ≤ n ∨ y ≤ t + 1 := by
              rw [hy]
              unfold toS
              split
              · exact .inl (Int.le_refl _)
              · split
                · exact .inl (Int.le_refl _)
                · split
                  · exact .inl (Int.le_refl _)
                  · exact .inr (Int.le_refl _)
            have hx1 : 0 ≤ x := by
              rw [hx]
              unfold fromS
              split
              · split <;> omega
              · exact f0
            apply wrap_id <;> omega
          rw [hw]
          exact ev_now _
      cases b with
      | true =>
        refine ev_pos rfl (tail _ _ ?_ (by simp [toS]))
        rw [wrap_id (by omega) (by omega)]
        unfold mx fromS
        simp only [if_true]
        split <;> split <;> omega
      | false =>
        refine ev_neg (by simp) ?_
        cases o with
        | true => exact ev_pos rfl (tail _ _ (by simp [fromS]) (by simp [toS]))
        | false =>
          refine ev_neg (by simp) (tail _ _ (by simp [fromS]) ?_)
          rw [wrap_id (by omega) (by omega)]
          unfold mn toS
          simp only [Bool.false_eq_true, if_false]
          split <;> split <;> omega
theorem ref_of (f t : Int) (o b : Bool) (n : Int) (h0 : -9223372036854775808 ≤ n) (h1 : n ≤ 9223372036854775807) : Ev (fun k => cellarerref03_Of.f k f t o b n) (ofS f t o b n) := by
  unfold cellarerref03_Of.f
  refine ev_is (ref_may f t o b) ?_
  cases hm : mayB f t o b with
  | false =>
    rw [ofS_no (by rw [hm]; simp)]
    refine ev_neg (by simp) ?_
    refine ev_succ ?_
    simp only [cellarerref03_Of.j0]
    exact ev_pos trivial (ev_now _)
  | true =>
    obtain ⟨f0, f1, t0, t1, ho⟩ := may_in hm
    refine ev_pos rfl ?_
    refine ev_succ ?_
    simp only [cellarerref03_Of.j0]
    by_cases hn : n < 0
    · rw [ofS_no (by omega)]
      exact ev_pos (by simpa using hn) (ev_now _)
    · have hn0 : 0 ≤ n := by omega
      refine ev_neg (by simpa using hn) ?_
      cases b with
      | true =>
        have eT : toS t o true n = n := by simp [toS]
        refine ev_pos rfl ?_
        have tail : ∀ c : Bool, c = (decide (t = 0) || decide (n = 0)) → Ev (fun k => cellarerref03_Of.j1 k n c f t o true) (ofS f t o true n) := fun c hc => by
          refine ev_succ ?_
          simp only [cellarerref03_Of.j1]
          cases c with
          | true =>
            have : t = 0 ∨ n = 0 := by simpa using hc.symm
            rw [ofS_out hm hn0 (by rw [eT]; simp only [fromS, if_true]; split <;> omega)]
            exact ev_pos rfl (ev_now _)
          | false =>
            have hno : ¬ (t = 0 ∨ n = 0) := by simpa using hc.symm
            refine ev_neg (by simp) ?_
            by_cases hx : t ≥ n
            · have eF : fromS f t true n = 0 := by simp only [fromS, if_true]; split <;> omega
              rw [ofS_in hm hn0 (by rw [eT, eF]; omega), eT, eF]
              refine ev_pos hx ?_
              rw [Int.sub_zero]
              exact ev_now _
            · have eF : fromS f t true n = n - t := by simp only [fromS, if_true]; split <;> omega
              rw [ofS_in hm hn0 (by rw [eT, eF]; omega), eT, eF, show n - (n - t) = t by omega]
              refine ev_neg hx ?_
              rw [wrap_id (by omega) (by omega)]
              exact ev_now _
        by_cases ht : t = 0
        · exact ev_pos ht (tail true (by simp [ht]))
        · refine ev_neg ht (tail _ ?_)
          rw [Bool.eq_iff_iff]
          simp [ht]
      | false =>
        have eF : fromS f t false n = f := by simp [fromS]
        refine ev_neg (by simp) ?_
        by_cases hf : f ≥ n
        · rw [ofS_out hm hn0 (by rw [eF]; simp only [toS, Bool.false_eq_true, if_false]; split <;> (try split) <;> omega)]
          exact ev_pos hf (ev_now _)
        · refine ev_neg hf ?_
          cases o with
          | true =>
            have eT : toS t true false n = n := by simp [toS]
            rw [ofS_in hm hn0 (by rw [eT, eF]; omega), eT, eF]
            refine ev_pos rfl ?_
            rw [wrap_id (by omega) (by omega)]
            exact ev_now _
          | false =>
            refine ev_neg (by simp) ?_
            have hft : f ≤ t := by
              unfold mayB at hm
              simp at hm
              exact hm.2.2
            by_cases hx : t ≥ n
            · have eT : toS t false false n = n := by simp [toS]; omega
              rw [ofS_in hm hn0 (by rw [eT, eF]; omega), eT, eF]
              refine ev_pos hx ?_
              rw [wrap_id (by omega) (by omega)]
              exact ev_now _
            · have eT : toS t false false n = t + 1 := by simp [toS]; omega
              rw [ofS_in hm hn0 (by rw [eT, eF]; omega), eT, eF]
              refine ev_neg hx ?_
              rw [wrap_id (x := t - f) (by omega) (by omega), wrap_id (by omega) (by omega), show t - f + 1 = t + 1 - f by omega]
              exact ev_now _
/-- The octets that are asked for. -/
def cutS (f t : Int) (o b : Bool) (d : ByteArray) : ByteArray × Int :=
  if (ofS f t o b d.size).2.2 = 0 then (d.extract (ofS f t o b d.size).1.toNat ((ofS f t o b d.size).1 + (ofS f t o b d.size).2.1).toNat, 0) else ((⟨#[]⟩ : ByteArray), (ofS f t o b d.size).2.2)
theorem of_cases (f t : Int) (o b : Bool) (n : Int) : (∃ e, ofS f t o b n = (0, 0, e) ∧ (e = 1 ∨ e = 12)) ∨
    (∃ i m, ofS f t o b n = (i, m, 0) ∧ 0 ≤ i ∧ 1 ≤ m ∧ i + m ≤ n ∧ mayB f t o b = true ∧ 0 ≤ n ∧ i = fromS f t b n ∧ i + m = toS t o b n) := by
  unfold ofS
  by_cases h : mayB f t o b = true ∧ 0 ≤ n
  · rw [if_pos h]
    obtain ⟨f0, f1, t0, t1, ho⟩ := may_in h.1
    by_cases h2 : fromS f t b n ≥ toS t o b n
    · rw [if_pos h2]
      exact .inl ⟨12, rfl, .inr rfl⟩
    · rw [if_neg h2]
      refine .inr ⟨_, _, rfl, ?_, by omega, ?_, h.1, h.2, rfl, by omega⟩
      · unfold fromS; split <;> (try split) <;> omega
      · have : toS t o b n ≤ n := by unfold toS; split <;> (try split) <;> (try split) <;> omega
        omega
  · rw [if_neg h]
    exact .inl ⟨1, rfl, .inl rfl⟩
theorem cut_no {f t : Int} {o b : Bool} {d : ByteArray} {e : Int} (h : ofS f t o b d.size = (0, 0, e)) (he : e ≠ 0) : cutS f t o b d = ((⟨#[]⟩ : ByteArray), e) := by
  unfold cutS
  rw [h]
  exact if_neg he
theorem cut_yes {f t : Int} {o b : Bool} {d : ByteArray} {i m : Int} (h : ofS f t o b d.size = (i, m, 0)) : cutS f t o b d = (d.extract i.toNat (i + m).toNat, 0) := by
  unfold cutS
  rw [h]
  exact if_pos rfl
theorem cut_is (f t : Int) (o b : Bool) (d : ByteArray) (hd : d.size ≤ 100000) : Ev (fun k => span_Cut.f k f t o b d) (cutS f t o b d) := by
  unfold span_Cut.f
  refine ev_bind (of_is f t o b (d.size : Int) (by omega) (by omega)) ?_
  rcases of_cases f t o b (d.size : Int) with ⟨e, he, h⟩ | ⟨i, m, he, h0, h1, h2, _⟩
  · have hne : e ≠ 0 := by omega
    rw [cut_no he hne, he]
    exact ev_neg hne (ev_now _)
  · rw [cut_yes he, he]
    dsimp only
    rw [wrap_id (by omega) (by omega)]
    exact ev_pos rfl (ev_pos h0 (ev_pos (by omega) (ev_pos h2 (ev_now _))))
/-- A span from one place up to another one. -/
theorem of_plain {f t n : Int} (h0 : 0 ≤ f) (h1 : f ≤ t) (h2 : t < n) (hn : n ≤ 1099511627775) : ofS f t false false n = (f, t + 1 - f, 0) := by
  have hm : mayB f t false false = true := by unfold mayB inB; simp; omega
  unfold ofS
  rw [if_pos ⟨hm, by omega⟩]
  have e1 : fromS f t false n = f := by simp [fromS]
  have e2 : toS t false false n = t + 1 := by simp [toS]; omega
  rw [e1, e2, if_neg (by omega)]
theorem of_open {f n : Int} (h0 : 0 ≤ f) (h2 : f < n) (hn : n ≤ 1099511627775) : ofS f 0 true false n = (f, n - f, 0) := by
  have hm : mayB f 0 true false = true := by unfold mayB inB; simp; omega
  unfold ofS
  rw [if_pos ⟨hm, by omega⟩]
  have e1 : fromS f 0 false n = f := by simp [fromS]
  have e2 : toS 0 true false n = n := by simp [toS]
  rw [e1, e2, if_neg (by omega)]
theorem of_back {t n : Int} (h0 : 0 < t) (h2 : t ≤ n) (hn : n ≤ 1099511627775) : ofS 0 t false true n = (n - t, t, 0) := by
  have hm : mayB 0 t false true = true := by unfold mayB inB; simp; omega
  unfold ofS
  rw [if_pos ⟨hm, by omega⟩]
  have e1 : fromS 0 t true n = n - t := by simp [fromS]; omega
  have e2 : toS t false true n = n := by simp [toS]
  rw [e1, e2, if_neg (by omega)]
  congr 2
  omega
theorem oc_mid (d : ByteArray) (i j : Nat) : oc (d.extract i j) = ((oc d).drop i).take (j - i) := oc_extract d i j
theorem awake_is : Ev (fun k => cellarerlaw03_awake.f k) true := Ev.of cellarerlaw03_awake.mono (k := 40) (by decide +kernel)
end Go.Proofs.YtabkbjhhhfeanaaDoor.SpSpec
