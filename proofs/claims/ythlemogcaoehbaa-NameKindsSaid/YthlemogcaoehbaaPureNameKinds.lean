/- Which texts are buckets' names, keys, prefixes and delimiters, which one begins with another one, and what is behind all that begin with one, is as the document says. -/
import Derived.Test.YthlemogcaoehbaaPx3
import Derived.Test.YthlemogcaoehbaaPx2
import Derived.Test.YthlemogcaoehbaaNmRef
set_option linter.unusedVariables false
set_option linter.unusedSimpArgs false
namespace Go.Proofs.Ythlemogcaoehbaa.Pure
open Go.RowKit Go.Proofs.Ythlemogcaoehbaa.P Go.Proofs.YthlemogcaoehbaaW.PrintWords Go.Proofs.YthlemogcaoehbaaW.PrintLast Go.Proofs.YthlemogcaoehbaaW.PrintMore Go.Proofs.Ythlemogcaoehbaa.PureKit Go.Proofs.Ythlemogcaoehbaa.Name Go.Proofs.Ythlemogcaoehbaa.NameW Go.Proofs.Ythlemogcaoehbaa.NmSpec Go.Proofs.Ythlemogcaoehbaa.NmRef
/-- The document's test of an octet of a bucket's name. -/
def endB (c : Nat) : Bool := (decide (97 ≤ c) && decide (c ≤ 122)) || (decide (48 ≤ c) && decide (c ≤ 57))
theorem word_end (c : Nat) : wordB c = (endB c || decide (c = 45)) := rfl
theorem bucket_step (s : ByteArray) (hs : s.size ≤ 20) (r : Bool) (pre rest : List Nat) (x : Nat) (h : oc s = pre ++ x :: rest)
    (hn : Ev (fun k => cellarerref01_Bucket.l0 k s ((pre.length : Int) + 1)) r) :
    Ev (fun k => cellarerref01_Bucket.l0 k s (pre.length : Int)) ((endB x || (decide (x = 45) && !pre.isEmpty && !rest.isEmpty)) && r) := by
  have hz := size_split h
  simp only [List.length_append, List.length_cons] at hz
  have t2 : ∀ c : Bool, Ev (fun k => cellarerref01_Bucket.j2 k s (pre.length : Int) (!c)) (c && r) := fun c => by
    refine ev_succ ?_
    simp only [cellarerref01_Bucket.j2]
    cases c with
    | false => exact ev_pos rfl (ev_now _)
    | true =>
      refine ev_neg (by simp) ?_
      rw [wrap_id (by omega) (by omega)]
      simpa using hn
  have t3 : ∀ c : Bool, Ev (fun k => cellarerref01_Bucket.j3 k s (pre.length : Int) (!c)) (c && r) := fun c => by
    refine ev_succ ?_
    simp only [cellarerref01_Bucket.j3]
    cases c with
    | false => exact ev_pos rfl (ev_now _)
    | true =>
      refine ev_neg (by simp) ?_
      rw [wrap_id (by omega) (by omega)]
      simpa using hn
  refine ev_succ ?_
  simp only [cellarerref01_Bucket.l0, bt_split h]
  refine ev_pos (by omega) (ev_pos (by omega) ?_)
  have hwr : wrap64 ((s.size : Int) - 1) = (s.size : Int) - 1 := wrap_id (by omega) (by omega)
  rw [hwr]
  have hlast : ((pre.length : Int) == (s.size : Int) - 1) = rest.isEmpty := by
    rw [Bool.eq_iff_iff, beq_iff_eq, List.isEmpty_iff, ← List.length_eq_zero_iff]
    omega
  rw [hlast]
  by_cases hp : pre = []
  · have hp0 : (pre.length : Int) = 0 := by rw [hp]; rfl
    refine ev_pos hp0 ?_
    have hpe : pre.isEmpty = true := by rw [hp]; rfl
    have e : (endB x || (decide (x = 45) && !pre.isEmpty && !rest.isEmpty)) = endB x := by rw [hpe]; simp
    rw [e]
    have go : ∀ c : Bool, c = endB x → Ev (fun k => cellarerref01_Bucket.j2 k s (pre.length : Int) (!c)) (endB x && r) := fun c hc => by rw [← hc]; exact t2 c
    by_cases h1 : (97 : Int) ≤ x <;> by_cases h2 : (x : Int) ≤ 122 <;> by_cases h3 : (48 : Int) ≤ x <;> by_cases h4 : (x : Int) ≤ 57 <;> by_cases h5 : (x : Int) = 45
    all_goals first | (exfalso; omega) | skip
    all_goals simp only [h1, h2, h3, h4, h5, if_true, if_false, Bool.not_not, Bool.not_true]
    all_goals first
      | exact go true (by simp [endB]; omega)
      | exact go false (by simp [endB]; omega)
  · have hp0 : ¬ (pre.length : Int) = 0 := by have := List.length_pos_iff.2 hp; omega
    refine ev_neg hp0 ?_
    have hpe : pre.isEmpty = false := by simpa using hp
    have e : (endB x || (decide (x = 45) && !pre.isEmpty && !rest.isEmpty)) = (endB x || (decide (x = 45) && !rest.isEmpty)) := by rw [hpe]; simp
    rw [e]
    have go : ∀ c : Bool, c = (endB x || (decide (x = 45) && !rest.isEmpty)) → Ev (fun k => cellarerref01_Bucket.j3 k s (pre.length : Int) (!c)) ((endB x || (decide (x = 45) && !rest.isEmpty)) && r) := fun c hc => by rw [← hc]; exact t3 c
    by_cases h1 : (97 : Int) ≤ x <;> by_cases h2 : (x : Int) ≤ 122 <;> by_cases h3 : (48 : Int) ≤ x <;> by_cases h4 : (x : Int) ≤ 57 <;> by_cases h5 : (x : Int) = 45
    all_goals first | (exfalso; omega) | skip
    all_goals simp only [h1, h2, h3, h4, h5, if_true, if_false]
    all_goals first
      | exact go true (by simp [endB]; omega)
      | exact go false (by simp [endB]; omega)
      | exact go (!rest.isEmpty) (by have hx : x = 45 := by omega
                                     subst hx; simp [endB])
/-- The document's bucket's name. -/
def bucketR (pre : List Nat) : List Nat → Bool
  | [] => true
  | x :: rest => (endB x || (decide (x = 45) && !pre.isEmpty && !rest.isEmpty)) && bucketR (pre ++ [x]) rest
theorem bucket_loop (s : ByteArray) (hs : s.size ≤ 20) : ∀ (rest pre : List Nat), oc s = pre ++ rest → Ev (fun k => cellarerref01_Bucket.l0 k s (pre.length : Int)) (bucketR pre rest)
  | [], pre, h => by
    have := size_split h
    refine ev_succ ?_
    simp only [cellarerref01_Bucket.l0]
    exact ev_neg (by simp at this; omega) (ev_now _)
  | x :: rest, pre, h => by
    have hn := bucket_loop s hs rest (pre ++ [x]) (by simp [h])
    rw [show (((pre ++ [x]).length : Nat) : Int) = (pre.length : Int) + 1 by simp] at hn
    exact bucket_step s hs _ pre rest x h hn
theorem bucketR_in : ∀ (rest pre : List Nat), pre ≠ [] → bucketR pre rest = (rest.all wordB && !decide (rest.getLast? = some 45))
  | [], pre, _ => rfl
  | [x], pre, hp => by
    have hpe : pre.isEmpty = false := by simpa using hp
    simp only [bucketR, hpe, List.isEmpty_nil, List.all_cons, List.all_nil, word_end, List.getLast?_singleton, Option.some.injEq]
    by_cases hx : x = 45
    · subst hx; simp [endB]
    · simp [hx]
  | x :: y :: r, pre, hp => by
    have hpe : pre.isEmpty = false := by simpa using hp
    have ih := bucketR_in (y :: r) (pre ++ [x]) (by simp)
    rw [bucketR, ih, hpe, List.getLast?_cons_cons, List.all_cons (l := y :: r), word_end]
    simp [Bool.and_assoc]
theorem bucketR_is (l : List Nat) : bucketR [] l = (l.all wordB && !decide (l.head? = some 45) && !decide (l.getLast? = some 45)) := by
  cases l with
  | nil => rfl
  | cons x r =>
    rw [bucketR, bucketR_in r ([] ++ [x]) (by simp)]
    have hd : decide ((x :: r).head? = some 45) = decide (x = 45) := by simp
    rw [hd, List.all_cons, word_end]
    cases r with
    | nil =>
      by_cases hx : x = 45
      · subst hx; simp [endB]
      · simp [hx]
    | cons y r =>
      rw [List.getLast?_cons_cons]
      by_cases hx : x = 45
      · subst hx; simp [endB]
      · simp [hx, Bool.and_assoc]
theorem ref_bucket (s : ByteArray) : Ev (fun k => cellarerref01_Bucket.f k s) (bucketB s) := by
  have no : bucketB s = false → Ev (fun k => cellarerref01_Bucket.j0 k s true) (bucketB s) := fun h => by
    rw [h]
    refine ev_succ ?_
    simp only [cellarerref01_Bucket.j0]
    exact ev_pos trivial (ev_now _)
  unfold cellarerref01_Bucket.f
  by_cases h1 : s.size < 3
  · exact ev_pos (by omega) (no (by unfold bucketB isB; simp; omega))
  · refine ev_neg (by omega) ?_
    by_cases h2 : s.size > 20
    · rw [decide_eq_true (show (s.size : Int) > 20 by omega)]
      exact no (by unfold bucketB isB; simp; omega)
    · rw [decide_eq_false (show ¬ (s.size : Int) > 20 by omega)]
      refine ev_succ ?_
      simp only [cellarerref01_Bucket.j0]
      refine ev_neg (by simp) ?_
      have := bucket_loop s (by omega) (oc s) [] rfl
      rw [bucketR_is] at this
      have e : bucketB s = ((oc s).all wordB && !decide ((oc s).head? = some 45) && !decide ((oc s).getLast? = some 45)) := by
        unfold bucketB isB
        rw [decide_eq_true (show 3 ≤ s.size by omega), decide_eq_true (show s.size ≤ 20 by omega)]
        simp
      rw [e]
      simpa using this
theorem NameKinds : cellarerlaw01_NameKinds.Pure := by
  intro s0 t0 _ _
  apply Ev.rounds
  unfold cellarerlaw01_NameKinds.f
  refine ev_is (key_few s0) (ev_is (key_few t0) ?_)
  have h1 := small_cutK s0
  have h2 := small_cutK t0
  refine ev_is rfl (ev_bind (ref_bucket _) (ev_pos (by simp) ?_))
  refine ev_is rfl (ev_bind (ref_key _) (ev_pos (by simp) ?_))
  refine ev_is rfl (ev_bind (ref_prefix _) (ev_pos (by simp) ?_))
  refine ev_is rfl (ev_bind (ref_delim _) (ev_pos (by simp) ?_))
  refine ev_is (under_is _ _) (ev_is (ref_under _ _) (ev_pos (by simp) ?_))
  exact ev_bind (after_is _ (by omega)) (ev_bind (ref_after _ (by omega)) (ev_pos rfl (ev_bind awake_is (ev_now _))))
end Go.Proofs.Ythlemogcaoehbaa.Pure
