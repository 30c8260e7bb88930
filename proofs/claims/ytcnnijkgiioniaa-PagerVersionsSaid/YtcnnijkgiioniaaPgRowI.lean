/-
  slices.IndexFunc over rows, by the function value that holds a key and an ID (pager.Rows).
-/
import Derived.LoopTactic
import Derived.Outline
import Derived.Test.YtcnnijkgiioniaaProg
import Derived.Test.YtcnnijkgiioniaaCmp
import Derived.Test.YtcnnijkgiioniaaPx0
import Derived.Test.YtcnnijkgiioniaaV0
set_option linter.unusedVariables false
namespace Go.Proofs.Ytcnnijkgiioniaa.PgRowI
open Go.RowKit Go.Proofs.Ytcnnijkgiioniaa.P Go.Proofs.YtcnnijkgiioniaaW.PrintWords

abbrev R := S65
/-- The cells of a row, as a value. -/
def row (x : R) : Value := .agg #[.string x.f0, .int .u64 x.f1, .bool x.f2, .bool x.f3, .int .i64 x.f4]
/-- Is it the row of this key and ID? -/
def has (key : ByteArray) (id : Int) (x : R) : Bool := (x.f0.toList == key.toList) && (x.f1 == id)
def Tells (g : Nat) (lb : Array Value) (p : R → Bool) (w : World) (l : List R) : Prop :=
  ∀ (W : World) (x : R), x ∈ l → Below w.heap.size w W → Calls Try.prog g (#[row x] ++ lb) W fun e w' => e = .returned (.bool (p x)) ∧ Below W.heap.size W w'
/-- Where the first is of which p holds; -1: none is. -/
def idx (p : R → Bool) (l : List R) : Int := match l.findIdx? p with
  | some i => (i : Int)
  | none => -1
theorem idx_hit (p : R → Bool) (l : List R) (k : Nat) (hk : k < l.length) (hp : p l[k] = true) (hn : ∀ j (h : j < l.length), j < k → p l[j] = false) : idx p l = (k : Int) := by
  unfold idx
  have : l.findIdx? p = some k := List.findIdx?_eq_some_iff_getElem.2 ⟨hk, hp, fun j hj => by simpa using hn j (by omega) hj⟩
  rw [this]
theorem idx_miss (p : R → Bool) (l : List R) (hn : ∀ j (h : j < l.length), p l[j] = false) : idx p l = -1 := by
  unfold idx
  have : l.findIdx? p = none := by
    rw [List.findIdx?_eq_none_iff]
    intro x hx
    obtain ⟨j, hj, rfl⟩ := List.getElem_of_mem hx
    exact hn j hj
  rw [this]
def IdxPost (w : World) (r : Int) (e : Ending) (w' : World) : Prop := e = .returned (.int .i64 r) ∧ Below w.heap.size w w'

set_option maxRecDepth 100000 in
set_option maxHeartbeats 1600000 in
theorem index_any (g : Nat) (lb : Array Value) (eg : ∀ args w, (callFunc g args).run Try.prog w = .ok (.enter g args) w) (p : R → Bool) (A : Option Addr) (c : Nat) (l : List R) (w : World)
    (hr : Kd.C k65 w A l.length l) (hg : Tells g lb p w l) :
    Calls Try.prog 38 #[.slice A l.length c, .func (.func g) #[] lb] w (IdxPost w (idx p l)) := by
  have HR := Aside0.mk hr
  have HG := Aside0.mk hg
  have hm : l.length ≤ 9223372036854775807 := hr.2.1
  clear hr hg
  have hu := Try.underlying65
  go_enter Try.func38, Try.ntmps38
  go_wp2
  go_loopw [8] (fun i wr => ∃ k : Nat, k ≤ l.length ∧ i = .int .i64 k ∧ Aside0 (∀ j (h : j < l.length), j < k → p l[j] = false) ∧ Aside0 (Below w.heap.size w wr)) (fun i _ => l.length - (intOf i).toNat)
  case atStart => exact ⟨0, by omega, rfl, ⟨fun j _ h => absurd h (Nat.not_lt_zero _)⟩, ⟨Below.refl _ _⟩⟩
  case round =>
    obtain ⟨k, hk, rfl, HA, HB⟩ := hrel
    by_cases hlt : k < l.length
    · obtain ⟨ad, e0, h0, h1, h2, h3, h4⟩ := at_T65 (Kd.C_below HR.out HB.out) (k : Int) (by omega) (by omega)
      have hx : rd_T65 l (k : Int) = l[k] := by unfold rd_T65; rw [Int.toNat_natCast, List.getD_eq_getElem?_getD, List.getElem?_eq_getElem hlt]; rfl
      rw [hx] at h0 h1 h2 h3 h4
      rw [Int.toNat_natCast] at h0 h1 h2 h3 h4
      cases e0
      have hcall := HG.out wr l[k] (List.getElem_mem hlt) HB.out
      have HX := Aside0.mk hx
      clear hx
      generalize hq : p l[k] = q at hcall
      have HQ := Aside0.mk hq
      clear hq
      cases q with
      | true =>
        go_wp2_with fail
        refine hcall.mono ?_
        rintro e w2 ⟨rfl, hb'⟩
        have HB2 := Aside0.mk hb'
        clear hb'
        go_wp2
        go_ret
        exact ⟨congrArg (fun z => Ending.returned (Value.int .i64 z)) (idx_hit p l k hlt HQ.out HA.out).symm, below_step HB.out HB2.out⟩
      | false =>
        go_wp2_with fail
        refine hcall.mono ?_
        rintro e w2 ⟨rfl, hb'⟩
        have HB2 := Aside0.mk hb'
        clear hb'
        go_wp2
        refine ⟨⟨k + 1, by omega, by go_num, ⟨fun j h hj => ?_⟩, ⟨below_step HB.out HB2.out⟩⟩, by simp [intOf]; omega⟩
        by_cases e : j = k
        · subst e; exact HQ.out
        · exact HA.out j h (by omega)
    · have hk2 : k = l.length := by omega
      subst hk2
      go_wp2
      go_ret
      exact ⟨congrArg (fun z => Ending.returned (Value.int .i64 z)) (idx_miss p l (fun j h => HA.out j h h)).symm, HB.out⟩

set_option maxRecDepth 100000 in
set_option maxHeartbeats 1600000 in
/-- The function value's answer. -/
theorem has_any (x : R) (b7 b8 : Nat) (key : ByteArray) (id : Int) (W : World) (hc7 : W.cell? ⟨b7, 0, none⟩ = some (.string key)) (hc8 : W.cell? ⟨b8, 0, none⟩ = some (.int .u64 id)) :
    Calls Try.prog 39 #[row x, .pointer (some ⟨b7, 0, none⟩), .pointer (some ⟨b8, 0, none⟩)] W fun e w' => e = .returned (.bool (has key id x)) ∧ Below W.heap.size W w' := by
  have hu := Try.underlying65
  unfold row has
  have hb : Below W.heap.size W (W.alloc (.cells #[.string x.f0, .int .u64 x.f1, .bool x.f2, .bool x.f3, .int .i64 x.f4] 65)) := (Below.refl _ _).alloc (Nat.le_refl _) _
  have hk7 := (hb.cell (World.block_lt_of_cell? _ _ hc7)).trans hc7
  have hk8 := (hb.cell (World.block_lt_of_cell? _ _ hc8)).trans hc8
  clear hb
  cases hq : (x.f0.toList == key.toList) with
  | true =>
    go_enter Try.func39, Try.ntmps39
    go_wp2
    go_ret
    exact ⟨rfl, (Below.refl _ _).alloc (Nat.le_refl _) _⟩
  | false =>
    go_enter Try.func39, Try.ntmps39
    go_wp2
    go_ret
    exact ⟨rfl, (Below.refl _ _).alloc (Nat.le_refl _) _⟩
/-- The call that pager.Rows makes. -/
theorem rows_index (A : Option Addr) (c : Nat) (l : List R) (b7 b8 : Nat) (key : ByteArray) (id : Int) (w : World) (hr : Kd.C k65 w A l.length l) (hc7 : w.cell? ⟨b7, 0, none⟩ = some (.string key)) (hc8 : w.cell? ⟨b8, 0, none⟩ = some (.int .u64 id)) :
    Calls Try.prog 38 #[.slice A l.length c, .func (.func 39) #[] #[.pointer (some ⟨b7, 0, none⟩), .pointer (some ⟨b8, 0, none⟩)]] w fun e w' => e = .returned (.int .i64 (idx (has key id) l)) ∧ Below w.heap.size w w' :=
  index_any 39 #[.pointer (some ⟨b7, 0, none⟩), .pointer (some ⟨b8, 0, none⟩)] (fun _ _ => rfl) (has key id) A c l w hr (fun W x _ hB => has_any x b7 b8 key id W ((hB.cell (World.block_lt_of_cell? _ _ hc7)).trans hc7) ((hB.cell (World.block_lt_of_cell? _ _ hc8)).trans hc8))
end Go.Proofs.Ytcnnijkgiioniaa.PgRowI
