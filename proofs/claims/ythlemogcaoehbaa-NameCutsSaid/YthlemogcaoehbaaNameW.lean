/-
  name: A BUCKET's NAME, A PREFIX, A DELIMITER: '(name.kind).is' with word, and what calls it.
-/
import Derived.Test.YthlemogcaoehbaaName
import Derived.LoopTactic
import Derived.Deep.QuietTactic
import Derived.BigQuiet
namespace Go.Proofs.Ythlemogcaoehbaa.NameW
open Go.RowKit Go.Proofs.YthlemogcaoehbaaW.PrintWords Go.Proofs.Ythlemogcaoehbaa.PureKit Go.Proofs.Ythlemogcaoehbaa.Name

/-- May an octet be in a bucket's name? -/
def wordB (c : Nat) : Bool := (decide (97 ≤ c) && decide (c ≤ 122)) || (decide (48 ≤ c) && decide (c ≤ 57)) || decide (c = 45)
def prefixB (s : ByteArray) : Bool := isB 0 60 plainB s
def delimB (s : ByteArray) : Bool := isB 0 1 plainB s
def bucketB (s : ByteArray) : Bool := isB 3 20 wordB s && !decide ((oc s).head? = some 45) && !decide ((oc s).getLast? = some 45)

set_option maxHeartbeats 1600000 in
theorem word_any (c : Nat) (w : World) : Calls Try.prog 28 #[.int .u8 (c : Int)] w fun e w' => e = .returned (.bool (wordB c)) ∧ w' = w := by
  unfold wordB
  by_cases h1 : 97 ≤ c <;> by_cases h2 : c ≤ 122 <;> by_cases h3 : 48 ≤ c <;> by_cases h4 : c ≤ 57 <;> by_cases h5 : c = 45
  all_goals first | (exfalso; omega) | skip
  all_goals
    have e1 : decide (97 ≤ (c : Int)) = decide (97 ≤ c) := decide_eq_decide.2 (by omega)
    have e2 : decide ((c : Int) ≤ 122) = decide (c ≤ 122) := decide_eq_decide.2 (by omega)
    have e3 : decide (48 ≤ (c : Int)) = decide (48 ≤ c) := decide_eq_decide.2 (by omega)
    have e4 : decide ((c : Int) ≤ 57) = decide (c ≤ 57) := decide_eq_decide.2 (by omega)
    have e5 : ((c : Int) == 45) = decide (c = 45) := by rw [Bool.eq_iff_iff]; simp; omega
    simp only [h1, h2, h3, h4, h5, decide_true, decide_false] at e1 e2 e3 e4 e5 ⊢
    go_enter Try.func28, Try.ntmps28
    go_wp2
    go_ret
    exact ⟨rfl, rfl⟩

set_option maxRecDepth 100000 in
set_option maxHeartbeats 1600000 in
theorem is_word (least most : Nat) (s : ByteArray) (w : World) (hm : most ≤ 1000) :
    Calls Try.prog 29 #[.agg #[.int .i64 (least : Int), .int .i64 (most : Int), .func (.func 28) #[] #[]], .string s] w fun e w' => e = .returned (.bool (isB least most wordB s)) ∧ Below w.heap.size w w' := by
  unfold isB
  by_cases h1 : s.size < least
  · have e1 : decide (least ≤ s.size) = false := decide_eq_false (by omega)
    have h1' : decide (s.size < least) = true := decide_eq_true h1
    rw [e1]
    go_enter Try.func29, Try.ntmps29
    go_wp2
    go_ret
    exact ⟨by simp, (Below.refl _ _).alloc (Nat.le_refl _) _⟩
  · have e1 : decide (least ≤ s.size) = true := decide_eq_true (by omega)
    have h1' : decide (s.size < least) = false := decide_eq_false h1
    have h1a : least ≤ s.size := by omega
    by_cases h2 : most < s.size
    · have e2 : decide (s.size ≤ most) = false := decide_eq_false (by omega)
      have h2' : decide (most < s.size) = true := decide_eq_true h2
      rw [e2]
      go_enter Try.func29, Try.ntmps29
      go_wp2
      go_ret
      exact ⟨by simp, (Below.refl _ _).alloc (Nat.le_refl _) _⟩
    · have e2 : decide (s.size ≤ most) = true := decide_eq_true (by omega)
      have h2' : decide (most < s.size) = false := decide_eq_false h2
      have h2a : s.size ≤ most := by omega
      rw [e1, e2]
      have hsz : s.size ≤ 1000 := by omega
      clear e1 e2 h1 h2
      go_enter Try.func29, Try.ntmps29
      go_wp2
      go_loopw [20] (fun i wr => ∃ k : Nat, k ≤ s.size ∧ i = .int .i64 k ∧ Aside0 (∀ j (h : j < (oc s).length), j < k → wordB (oc s)[j] = true) ∧ Aside0 (∃ n, wr = (w.alloc (.cells #[.int .i64 (least : Int), .int .i64 (most : Int), .func (.func 28) #[] #[]] 38)).drewN n)) (fun i _ => s.size - (intOf i).toNat)
      case atStart => exact ⟨0, by omega, rfl, ⟨fun j _ h => absurd h (Nat.not_lt_zero _)⟩, ⟨0, rfl⟩⟩
      case round =>
        obtain ⟨k, hk, rfl, HA, HD⟩ := hrel
        have hf0 : wr.cell? ⟨w.heap.size, 2, none⟩ = some (.func (.func 28) #[] #[]) := by
          obtain ⟨n, rfl⟩ := HD.out
          show (w.alloc _).cell? _ = _
          simp
        by_cases hlt : k < s.size
        · have hc : s[k].toNat = (oc s)[k]'(by rw [oc_length]; exact hlt) := by simp [oc]; rfl
          have HC := Aside0.mk hc
          clear hc
          have C := fun W => word_any s[k].toNat W
          generalize hq : wordB s[k].toNat = q at C
          have HQ := Aside0.mk hq
          clear hq
          cases q with
          | true =>
            go_wp2_with fail
            go_quiet ((exact Calls.quiet_of_same (C _)))
            go_wp2
            refine ⟨⟨k + 1, by omega, by go_num, ⟨fun j h hj => ?_⟩, ⟨?_⟩⟩, by simp [intOf]; omega⟩
            · by_cases e : j = k
              · subst e
                rw [← HC.out]
                exact HQ.out
              · exact HA.out j h (by omega)
            · obtain ⟨n, rfl⟩ := HD.out
              exact ⟨_, World.drewN_drewN ..⟩
          | false =>
            go_wp2_with fail
            go_quiet ((exact Calls.quiet_of_same (C _)))
            go_wp2
            go_ret
            have hall : (oc s).all wordB = false := List.all_eq_false.2 ⟨_, List.getElem_mem (by rw [oc_length]; exact hlt), by rw [← HC.out, HQ.out]; decide⟩
            refine ⟨by rw [hall]; rfl, ?_⟩
            obtain ⟨n, rfl⟩ := HD.out
            exact pw_below_drewN (pw_below_drewN ((Below.refl _ _).alloc (Nat.le_refl _) _) n) _
        · have hk2 : k = s.size := by omega
          subst hk2
          go_wp2
          go_ret
          have hall : (oc s).all wordB = true := List.all_eq_true.2 fun x hx => by
            obtain ⟨j, hj, rfl⟩ := List.getElem_of_mem hx
            exact HA.out j hj (by rw [← oc_length]; exact hj)
          refine ⟨by rw [hall]; rfl, ?_⟩
          obtain ⟨n, rfl⟩ := HD.out
          exact pw_below_drewN ((Below.refl _ _).alloc (Nat.le_refl _) _) n


theorem prefix_any (s : ByteArray) (w : World) : Calls Try.prog 18 #[.string s] w fun e w' => e = .returned (.bool (prefixB s)) ∧ Below w.heap.size w w' := by
  have C := is_plain 0 60 s w (by decide)
  have hu := Try.underlying38
  go_enter Try.func18, Try.ntmps18
  go_wp2_with fail
  refine C.mono ?_
  rintro e w1 ⟨rfl, hb⟩
  have HB := Aside0.mk hb
  clear hb C
  go_wp2
  go_ret
  exact ⟨rfl, HB.out⟩
theorem delim_any (s : ByteArray) (w : World) : Calls Try.prog 20 #[.string s] w fun e w' => e = .returned (.bool (delimB s)) ∧ Below w.heap.size w w' := by
  have C := is_plain 0 1 s w (by decide)
  have hu := Try.underlying38
  go_enter Try.func20, Try.ntmps20
  go_wp2_with fail
  refine C.mono ?_
  rintro e w1 ⟨rfl, hb⟩
  have HB := Aside0.mk hb
  clear hb C
  go_wp2
  go_ret
  exact ⟨rfl, HB.out⟩
set_option maxRecDepth 100000 in
set_option maxHeartbeats 1600000 in
theorem bucket_any (s : ByteArray) (w : World) : Calls Try.prog 14 #[.string s] w fun e w' => e = .returned (.bool (bucketB s)) ∧ Below w.heap.size w w' := by
  have C := is_word 3 20 s w (by decide)
  have hu := Try.underlying38
  unfold bucketB
  cases hq : isB 3 20 wordB s with
  | false =>
    rw [hq] at C
    clear hq
    go_enter Try.func14, Try.ntmps14
    go_wp2_with fail
    refine C.mono ?_
    rintro e w1 ⟨rfl, hb⟩
    have HB := Aside0.mk hb
    clear hb C
    go_wp2
    go_ret
    exact ⟨rfl, HB.out⟩
  | true =>
    rw [hq] at C
    have h3 : 3 ≤ s.size ∧ s.size ≤ 20 := by
      unfold isB at hq
      simp only [Bool.and_eq_true, decide_eq_true_eq] at hq
      exact hq.1
    clear hq
    obtain ⟨h3, h20⟩ := h3
    have hw : IntKind.i64.wrap ((s.size : Int) - 1) = ((s.size - 1 : Nat) : Int) := by rw [IntWalk.i64_in _ (by omega)]; omega
    have h0 : 0 < s.size := by omega
    have h1 : s.size - 1 < s.size := by omega
    have HH := Aside0.mk (show (oc s).head? = some (s[0]'h0).toNat by
      rw [List.head?_eq_getElem?, List.getElem?_eq_getElem (by rw [oc_length]; exact h0)]
      simp [oc]
      rfl)
    have HL := Aside0.mk (show (oc s).getLast? = some (s[s.size - 1]'h1).toNat by
      rw [List.getLast?_eq_getElem?, List.getElem?_eq_getElem (by rw [oc_length]; omega)]
      simp [oc]
      rfl)
    go_enter Try.func14, Try.ntmps14
    go_wp2_with fail
    refine C.mono ?_
    rintro e w1 ⟨rfl, hb⟩
    have HB := Aside0.mk hb
    clear hb C
    go_wp2_with fail
    all_goals
      rename_i hx
      go_ret
      refine ⟨congrArg (fun z => Ending.returned (Value.bool z)) ?_, HB.out⟩
      rw [HH.out, HL.out, Bool.eq_iff_iff]
      simp
      omega
end Go.Proofs.Ythlemogcaoehbaa.NameW
