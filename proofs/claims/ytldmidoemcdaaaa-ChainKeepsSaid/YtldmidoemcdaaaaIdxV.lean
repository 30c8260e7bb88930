/-
  slices.IndexFunc and slices.ContainsFunc over versions, WHATEVER FUNCTION VALUE: what it answers of each element, one behind the other.
-/
import Derived.Test.YtldmidoemcdaaaaPx0
import Derived.Test.YtldmidoemcdaaaaPureKit
import Derived.LoopTactic
import Derived.Outline
namespace Go.Proofs.Ytldmidoemcdaaaa.IdxV
open Go.RowKit Go.Proofs.Ytldmidoemcdaaaa.P Go.Proofs.YtldmidoemcdaaaaW.PrintWords Go.Proofs.Ytldmidoemcdaaaa.PureKit

/-- The cells of a version, as a value. -/
def ver (x : S25) : Value := .agg #[.int .u64 x.f0, .string x.f1, .bool x.f2, .int .i64 x.f3]
/-- What a function value answers of each version, in whatever world has what lay in w. -/
def Tells (g : Nat) (lb : Array Value) (p : S25 → Bool) (w : World) (l : List S25) : Prop :=
  ∀ (W : World) (x : S25), x ∈ l → Below w.heap.size w W → Calls Try.prog g (#[ver x] ++ lb) W fun e w' => e = .returned (.bool (p x)) ∧ Below W.heap.size W w'
/-- Where the first is of which p holds; -1: none is. -/
def idx (p : S25 → Bool) (l : List S25) : Int := match l.findIdx? p with
  | some i => (i : Int)
  | none => -1
theorem idx_any (p : S25 → Bool) (l : List S25) : decide (idx p l ≥ 0) = l.any p := by
  unfold idx
  cases h : l.findIdx? p with
  | none =>
    rw [List.findIdx?_eq_none_iff] at h
    have : l.any p = false := by
      rw [List.any_eq_false]
      intro x hx
      simpa using h x hx
    rw [this]
    decide
  | some i =>
    have := List.findIdx?_eq_some_iff_getElem.1 h
    obtain ⟨hi, hp, _⟩ := this
    have : l.any p = true := List.any_eq_true.2 ⟨_, List.getElem_mem hi, hp⟩
    rw [this]
    simp
theorem idx_hit (p : S25 → Bool) (l : List S25) (k : Nat) (hk : k < l.length) (hp : p l[k] = true) (hn : ∀ j (h : j < l.length), j < k → p l[j] = false) : idx p l = (k : Int) := by
  unfold idx
  have : l.findIdx? p = some k := List.findIdx?_eq_some_iff_getElem.2 ⟨hk, hp, fun j hj => by simpa using hn j (by omega) hj⟩
  rw [this]
theorem idx_miss (p : S25 → Bool) (l : List S25) (hn : ∀ j (h : j < l.length), p l[j] = false) : idx p l = -1 := by
  unfold idx
  have : l.findIdx? p = none := by
    rw [List.findIdx?_eq_none_iff]
    intro x hx
    obtain ⟨j, hj, rfl⟩ := List.getElem_of_mem hx
    exact hn j hj
  rw [this]
def IdxPost (w : World) (r : Int) (e : Ending) (w' : World) : Prop := e = .returned (.int .i64 r) ∧ Below w.heap.size w w'

set_option maxRecDepth 100000 in
set_option maxHeartbeats 1600000 in
theorem index_any (g : Nat) (lb : Array Value) (eg : ∀ args w, (callFunc g args).run Try.prog w = .ok (.enter g args) w) (p : S25 → Bool) (A : Option Addr) (c : Nat) (l : List S25) (w : World)
    (hr : Kd.C k25 w A l.length l) (hg : Tells g lb p w l) :
    Calls Try.prog 40 #[.slice A l.length c, .func (.func g) #[] lb] w (IdxPost w (idx p l)) := by
  have HR := Aside0.mk hr
  have HG := Aside0.mk hg
  have hm : l.length ≤ 9223372036854775807 := hr.2.1
  clear hr hg
  have hu := Try.underlying25
  go_enter Try.func40, Try.ntmps40
  go_wp2
  go_loopw [8] (fun i wr => ∃ k : Nat, k ≤ l.length ∧ i = .int .i64 k ∧ Aside0 (∀ j (h : j < l.length), j < k → p l[j] = false) ∧ Aside0 (Below w.heap.size w wr)) (fun i _ => l.length - (intOf i).toNat)
  case atStart => exact ⟨0, by omega, rfl, ⟨fun j _ h => absurd h (Nat.not_lt_zero _)⟩, ⟨Below.refl _ _⟩⟩
  case round =>
    obtain ⟨k, hk, rfl, HA, HB⟩ := hrel
    by_cases hlt : k < l.length
    · obtain ⟨ad, e0, h0, h1, h2, h3⟩ := at_T25 (Kd.C_below HR.out HB.out) (k : Int) (by omega) (by omega)
      have hx : rd_T25 l (k : Int) = l[k] := by unfold rd_T25; rw [Int.toNat_natCast, List.getD_eq_getElem?_getD, List.getElem?_eq_getElem hlt]; rfl
      rw [hx] at h0 h1 h2 h3
      rw [Int.toNat_natCast] at h0 h1 h2 h3
      cases e0
      have hcall := HG.out wr l[k] (List.getElem_mem hlt) HB.out
      have HX := Aside0.mk hx
      clear hx
      generalize hq : p l[k] = q at hcall
      have HQ := Aside0.mk hq
      clear hq
      cases q with
      | true =>
        go_wp2_with fail
        refine hcall.mono ?_
        rintro e w2 ⟨rfl, hb'⟩
        have HB2 := Aside0.mk hb'
        clear hb'
        go_wp2
        go_ret
        exact ⟨congrArg (fun z => Ending.returned (Value.int .i64 z)) (idx_hit p l k hlt HQ.out HA.out).symm, below_step HB.out HB2.out⟩
      | false =>
        go_wp2_with fail
        refine hcall.mono ?_
        rintro e w2 ⟨rfl, hb'⟩
        have HB2 := Aside0.mk hb'
        clear hb'
        go_wp2
        refine ⟨⟨k + 1, by omega, by go_num, ⟨fun j h hj => ?_⟩, ⟨below_step HB.out HB2.out⟩⟩, by simp [intOf]; omega⟩
        by_cases e : j = k
        · subst e; exact HQ.out
        · exact HA.out j h (by omega)
    · have hk2 : k = l.length := by omega
      subst hk2
      go_wp2
      go_ret
      exact ⟨congrArg (fun z => Ending.returned (Value.int .i64 z)) (idx_miss p l (fun j h => HA.out j h h)).symm, HB.out⟩

set_option maxRecDepth 100000 in
set_option maxHeartbeats 1600000 in
theorem contains_any (g : Nat) (lb : Array Value) (eg : ∀ args w, (callFunc g args).run Try.prog w = .ok (.enter g args) w) (p : S25 → Bool) (A : Option Addr) (c : Nat) (l : List S25) (w : World)
    (hr : Kd.C k25 w A l.length l) (hg : Tells g lb p w l) :
    Calls Try.prog 31 #[.slice A l.length c, .func (.func g) #[] lb] w fun e w' => e = .returned (.bool (l.any p)) ∧ Below w.heap.size w w' := by
  have C := index_any g lb eg p A c l w hr hg
  rw [← idx_any]
  clear hr hg eg
  go_enter Try.func31, Try.ntmps31
  go_wp2_with fail
  refine C.mono ?_
  rintro e w1 ⟨rfl, hb⟩
  have HB := Aside0.mk hb
  clear hb C
  go_wp2
  go_ret
  exact ⟨rfl, HB.out⟩
end Go.Proofs.Ytldmidoemcdaaaa.IdxV
