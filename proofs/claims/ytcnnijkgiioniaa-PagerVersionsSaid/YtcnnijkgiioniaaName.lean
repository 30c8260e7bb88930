/-
  name: A TEXT OF A KIND: how many octets it has, and which: '(name.kind).is', and Key.
-/
import Derived.Test.YtcnnijkgiioniaaProg
import Derived.LoopTactic
import Derived.Deep.QuietTactic
import Derived.BigQuiet
import Derived.Outline
import Derived.Test.YtcnnijkgiioniaaPureKit
import Derived.Test.YtcnnijkgiioniaaV0
namespace Go.Proofs.Ytcnnijkgiioniaa.Name
open Go.RowKit Go.Proofs.YtcnnijkgiioniaaW.PrintWords Go.Proofs.Ytcnnijkgiioniaa.PureKit

/-- May an octet be in a key? -/
def plainB (c : Nat) : Bool := decide (32 ≤ c) && decide (c ≤ 126)
/-- Is a text of a kind: so many octets, all of which may be? -/
def isB (least most : Nat) (p : Nat → Bool) (s : ByteArray) : Bool := decide (least ≤ s.size) && decide (s.size ≤ most) && (oc s).all p
def keyB (s : ByteArray) : Bool := isB 1 60 plainB s

set_option maxHeartbeats 800000 in
theorem plain_any (c : Nat) (w : World) : Calls Try.prog 44 #[.int .u8 (c : Int)] w fun e w' => e = .returned (.bool (plainB c)) ∧ w' = w := by
  unfold plainB
  by_cases h1 : 32 ≤ c
  · have h1' : decide (32 ≤ (c : Int)) = true := decide_eq_true (by omega)
    have h1'' : decide (32 ≤ c) = true := decide_eq_true h1
    go_enter Try.func44, Try.ntmps44
    go_wp2
    go_ret
    exact ⟨by simp only [h1'', Bool.true_and]; exact congrArg (fun z => Ending.returned (Value.bool z)) (decide_eq_decide.2 (by omega)), rfl⟩
  · have h1' : decide (32 ≤ (c : Int)) = false := decide_eq_false (by omega)
    have h1'' : decide (32 ≤ c) = false := decide_eq_false h1
    go_enter Try.func44, Try.ntmps44
    go_wp2
    go_ret
    exact ⟨by simp only [h1'', Bool.false_and]; rfl, rfl⟩

set_option maxRecDepth 100000 in
set_option maxHeartbeats 1600000 in
theorem is_plain (least most : Nat) (s : ByteArray) (w : World) (hm : most ≤ 1000) :
    Calls Try.prog 45 #[.agg #[.int .i64 (least : Int), .int .i64 (most : Int), .func (.func 44) #[] #[]], .string s] w fun e w' => e = .returned (.bool (isB least most plainB s)) ∧ Below w.heap.size w w' := by
  unfold isB
  by_cases h1 : s.size < least
  · have e1 : decide (least ≤ s.size) = false := decide_eq_false (by omega)
    have h1' : decide (s.size < least) = true := decide_eq_true h1
    rw [e1]
    go_enter Try.func45, Try.ntmps45
    go_wp2
    go_ret
    exact ⟨by simp, (Below.refl _ _).alloc (Nat.le_refl _) _⟩
  · have e1 : decide (least ≤ s.size) = true := decide_eq_true (by omega)
    have h1' : decide (s.size < least) = false := decide_eq_false h1
    have h1a : least ≤ s.size := by omega
    by_cases h2 : most < s.size
    · have e2 : decide (s.size ≤ most) = false := decide_eq_false (by omega)
      have h2' : decide (most < s.size) = true := decide_eq_true h2
      rw [e2]
      go_enter Try.func45, Try.ntmps45
      go_wp2
      go_ret
      exact ⟨by simp, (Below.refl _ _).alloc (Nat.le_refl _) _⟩
    · have e2 : decide (s.size ≤ most) = true := decide_eq_true (by omega)
      have h2' : decide (most < s.size) = false := decide_eq_false h2
      have h2a : s.size ≤ most := by omega
      rw [e1, e2]
      have hsz : s.size ≤ 1000 := by omega
      clear e1 e2 h1 h2
      go_enter Try.func45, Try.ntmps45
      go_wp2
      go_loopw [20] (fun i wr => ∃ k : Nat, k ≤ s.size ∧ i = .int .i64 k ∧ Aside0 (∀ j (h : j < (oc s).length), j < k → plainB (oc s)[j] = true) ∧ Aside0 (∃ n, wr = (w.alloc (.cells #[.int .i64 (least : Int), .int .i64 (most : Int), .func (.func 44) #[] #[]] 85)).drewN n)) (fun i _ => s.size - (intOf i).toNat)
      case atStart => exact ⟨0, by omega, rfl, ⟨fun j _ h => absurd h (Nat.not_lt_zero _)⟩, ⟨0, rfl⟩⟩
      case round =>
        obtain ⟨k, hk, rfl, HA, HD⟩ := hrel
        have hf0 : wr.cell? ⟨w.heap.size, 2, none⟩ = some (.func (.func 44) #[] #[]) := by
          obtain ⟨n, rfl⟩ := HD.out
          show (w.alloc _).cell? _ = _
          simp
        by_cases hlt : k < s.size
        · have hc : s[k].toNat = (oc s)[k]'(by rw [oc_length]; exact hlt) := by simp [oc]; rfl
          have HC := Aside0.mk hc
          clear hc
          have C := fun W => plain_any s[k].toNat W
          generalize hq : plainB s[k].toNat = q at C
          have HQ := Aside0.mk hq
          clear hq
          cases q with
          | true =>
            go_wp2_with fail
            go_quiet ((exact Calls.quiet_of_same (C _)))
            go_wp2
            refine ⟨⟨k + 1, by omega, by go_num, ⟨fun j h hj => ?_⟩, ⟨?_⟩⟩, by simp [intOf]; omega⟩
            · by_cases e : j = k
              · subst e
                rw [← HC.out]
                exact HQ.out
              · exact HA.out j h (by omega)
            · obtain ⟨n, rfl⟩ := HD.out
              exact ⟨_, World.drewN_drewN ..⟩
          | false =>
            go_wp2_with fail
            go_quiet ((exact Calls.quiet_of_same (C _)))
            go_wp2
            go_ret
            have hall : (oc s).all plainB = false := List.all_eq_false.2 ⟨_, List.getElem_mem (by rw [oc_length]; exact hlt), by rw [← HC.out, HQ.out]; decide⟩
            refine ⟨by rw [hall]; rfl, ?_⟩
            obtain ⟨n, rfl⟩ := HD.out
            exact pw_below_drewN (pw_below_drewN ((Below.refl _ _).alloc (Nat.le_refl _) _) n) _
        · have hk2 : k = s.size := by omega
          subst hk2
          go_wp2
          go_ret
          have hall : (oc s).all plainB = true := List.all_eq_true.2 fun x hx => by
            obtain ⟨j, hj, rfl⟩ := List.getElem_of_mem hx
            exact HA.out j hj (by rw [← oc_length]; exact hj)
          refine ⟨by rw [hall]; rfl, ?_⟩
          obtain ⟨n, rfl⟩ := HD.out
          exact pw_below_drewN ((Below.refl _ _).alloc (Nat.le_refl _) _) n

theorem key_any (s : ByteArray) (w : World) : Calls Try.prog 43 #[.string s] w fun e w' => e = .returned (.bool (keyB s)) ∧ Below w.heap.size w w' := by
  have C := is_plain 1 60 s w (by decide)
  have hu := Try.underlying85
  go_enter Try.func43, Try.ntmps43
  go_wp2_with fail
  refine C.mono ?_
  rintro e w1 ⟨rfl, hb⟩
  have HB := Aside0.mk hb
  clear hb C
  go_wp2
  go_ret
  exact ⟨rfl, HB.out⟩
end Go.Proofs.Ytcnnijkgiioniaa.Name
