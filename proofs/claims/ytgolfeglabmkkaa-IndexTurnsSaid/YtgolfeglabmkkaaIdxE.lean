/-
  index.find: WHERE AN ENTRY STANDS: slices.IndexFunc over entries, whatever function value; the closure that knows a key; find.
-/
import Derived.Test.YtgolfeglabmkkaaPx0
import Derived.Test.YtgolfeglabmkkaaPureKit
import Derived.LoopTactic
namespace Go.Proofs.Ytgolfeglabmkkaa.IdxE
open Go.RowKit Go.Proofs.Ytgolfeglabmkkaa.P Go.Proofs.YtgolfeglabmkkaaW.PrintWords Go.Proofs.Ytgolfeglabmkkaa.PureKit

abbrev E := S38
/-- What a function value answers of each entry, in whatever world has what lay in w. -/
def Tells (g : Nat) (lb : Array Value) (p : E → Bool) (w : World) (l : List E) : Prop :=
  ∀ (W : World) (x : E) (A : Option Addr) (c : Nat), x ∈ l → Below w.heap.size w W → Kd.C k50 W A x.f1.length x.f1 → x.f1.length ≤ c →
    Calls Try.prog g (#[.agg #[.string x.f0, .slice A x.f1.length c]] ++ lb) W fun e w' => e = .returned (.bool (p x)) ∧ Below W.heap.size W w'
/-- Where the first is of which p holds; -1: none is. -/
def idx (p : E → Bool) (l : List E) : Int := match l.findIdx? p with
  | some i => (i : Int)
  | none => -1
theorem idx_hit (p : E → Bool) (l : List E) (k : Nat) (hk : k < l.length) (hp : p l[k] = true) (hn : ∀ j (h : j < l.length), j < k → p l[j] = false) : idx p l = (k : Int) := by
  unfold idx
  have : l.findIdx? p = some k := List.findIdx?_eq_some_iff_getElem.2 ⟨hk, hp, fun j hj => by simpa using hn j (by omega) hj⟩
  rw [this]
theorem idx_miss (p : E → Bool) (l : List E) (hn : ∀ j (h : j < l.length), p l[j] = false) : idx p l = -1 := by
  unfold idx
  have : l.findIdx? p = none := by
    rw [List.findIdx?_eq_none_iff]
    intro x hx
    obtain ⟨j, hj, rfl⟩ := List.getElem_of_mem hx
    exact hn j hj
  rw [this]
def IdxPost (w : World) (r : Int) (e : Ending) (w' : World) : Prop := e = .returned (.int .i64 r) ∧ Below w.heap.size w w'

set_option maxRecDepth 100000 in
set_option maxHeartbeats 1600000 in
theorem index_any (g : Nat) (lb : Array Value) (eg : ∀ args w, (callFunc g args).run Try.prog w = .ok (.enter g args) w) (p : E → Bool) (A : Option Addr) (c : Nat) (l : List E) (w : World)
    (hr : Kd.C k38 w A l.length l) (hg : Tells g lb p w l) :
    Calls Try.prog 42 #[.slice A l.length c, .func (.func g) #[] lb] w (IdxPost w (idx p l)) := by
  have HR := Aside0.mk hr
  have HG := Aside0.mk hg
  have hm : l.length ≤ 9223372036854775807 := hr.2.1
  clear hr hg
  have hu := Try.underlying38
  go_enter Try.func42, Try.ntmps42
  go_wp2
  go_loopw [8] (fun i wr => ∃ k : Nat, k ≤ l.length ∧ i = .int .i64 k ∧ Aside0 (∀ j (h : j < l.length), j < k → p l[j] = false) ∧ Aside0 (Below w.heap.size w wr)) (fun i _ => l.length - (intOf i).toNat)
  case atStart => exact ⟨0, by omega, rfl, ⟨fun j _ h => absurd h (Nat.not_lt_zero _)⟩, ⟨Below.refl _ _⟩⟩
  case round =>
    obtain ⟨k, hk, rfl, HA, HB⟩ := hrel
    by_cases hlt : k < l.length
    · obtain ⟨ad, A1, c1, e0, h0, h1, hl1, hC1⟩ := at_T38 (Kd.C_below HR.out HB.out) (k : Int) (by omega) (by omega)
      have hx : rd_T38 l (k : Int) = l[k] := by unfold rd_T38; rw [Int.toNat_natCast, List.getD_eq_getElem?_getD, List.getElem?_eq_getElem hlt]; rfl
      rw [hx] at h0 h1 hl1 hC1
      rw [Int.toNat_natCast] at h0 h1
      cases e0
      have hcall := HG.out wr l[k] A1 c1 (List.getElem_mem hlt) HB.out hC1 hl1
      clear hC1 hl1
      have HX := Aside0.mk hx
      clear hx
      generalize hq : p l[k] = q at hcall
      have HQ := Aside0.mk hq
      clear hq
      cases q with
      | true =>
        go_wp2_with fail
        refine hcall.mono ?_
        rintro e w2 ⟨rfl, hb'⟩
        have HB2 := Aside0.mk hb'
        clear hb'
        go_wp2
        go_ret
        exact ⟨congrArg (fun z => Ending.returned (Value.int .i64 z)) (idx_hit p l k hlt HQ.out HA.out).symm, below_step HB.out HB2.out⟩
      | false =>
        go_wp2_with fail
        refine hcall.mono ?_
        rintro e w2 ⟨rfl, hb'⟩
        have HB2 := Aside0.mk hb'
        clear hb'
        go_wp2
        refine ⟨⟨k + 1, by omega, by go_num, ⟨fun j h hj => ?_⟩, ⟨below_step HB.out HB2.out⟩⟩, by simp [intOf]; omega⟩
        by_cases e : j = k
        · subst e; exact HQ.out
        · exact HA.out j h (by omega)
    · have hk2 : k = l.length := by omega
      subst hk2
      go_wp2
      go_ret
      exact ⟨congrArg (fun z => Ending.returned (Value.int .i64 z)) (idx_miss p l (fun j h => HA.out j h h)).symm, HB.out⟩

/-- Has an entry this key? -/
def has (key : ByteArray) (x : E) : Bool := x.f0.toList == key.toList
set_option maxHeartbeats 800000 in
theorem closure_any (key : ByteArray) (x : E) (A : Option Addr) (c b : Nat) (w : World) (hb : b < w.heap.size) (hk : w.cell? ⟨b, 0, none⟩ = some (.string key)) :
    Calls Try.prog 43 #[.agg #[.string x.f0, .slice A x.f1.length c], .pointer (some ⟨b, 0, none⟩)] w fun e w' => e = .returned (.bool (has key x)) ∧ Below w.heap.size w w' := by
  unfold has
  have hu := Try.underlying38
  have hk2 : ∀ o, (w.alloc o).cell? ⟨b, 0, none⟩ = some (.string key) := fun o => by rw [World.cell?_alloc_past _ _ _ hb]; exact hk
  go_enter Try.func43, Try.ntmps43
  go_wp2
  go_ret
  exact ⟨rfl, (Below.refl _ _).alloc (Nat.le_refl _) _⟩

set_option maxHeartbeats 800000 in
theorem find_any (A : Option Addr) (c : Nat) (l : List E) (key : ByteArray) (w : World) (hr : Kd.C k38 w A l.length l) :
    Calls Try.prog 30 #[.slice A l.length c, .string key] w fun e w' => e = .returned (.int .i64 (idx (has key) l)) ∧ Below w.heap.size w w' := by
  have hmf : ∀ (fn : Fn) (first cap : Array Value) (w : World), (Instr.makeFunc fn first cap).run Try.prog w = .ok (.func fn first cap) w := fun _ _ _ _ => rfl
  have C := index_any 43 #[.pointer (some ⟨w.heap.size, 0, none⟩)] (fun args w => by rfl) (has key) A c l (w.alloc (.cells #[.string key] 9)) (Kd.C_below hr (below_alloc (Below.refl _ _) _))
    (fun W x A1 c1 _ hB _ _ => closure_any key x A1 c1 w.heap.size W (by have := hB.size; simp at this; omega) (by
      rw [hB.cell (p := ⟨w.heap.size, 0, none⟩) (by simp)]
      simp))
  clear hr
  go_enter Try.func30, Try.ntmps30
  go_wp2_with fail
  refine C.mono ?_
  rintro e w1 ⟨rfl, hb⟩
  have HB := Aside0.mk hb
  clear hb C
  go_wp2
  go_ret
  exact ⟨rfl, Below.trans ((Below.refl _ _).alloc (Nat.le_refl _) _) (HB.out.mono (by simp))⟩
end Go.Proofs.Ytgolfeglabmkkaa.IdxE
