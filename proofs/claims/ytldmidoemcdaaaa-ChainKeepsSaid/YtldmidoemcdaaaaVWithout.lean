/-
  chain.versions.without: a new chain without the versions of an ID.
-/
import Derived.Test.YtldmidoemcdaaaaVDel
import Derived.Test.YtldmidoemcdaaaaVClone
set_option linter.unusedVariables false
namespace Go.Proofs.Ytldmidoemcdaaaa.VWithout
open Go.RowKit Go.Proofs.Ytldmidoemcdaaaa.P Go.Proofs.YtldmidoemcdaaaaW.PrintWords Go.Proofs.Ytldmidoemcdaaaa.PureKit Go.Proofs.Ytldmidoemcdaaaa.IdxV Go.Proofs.Ytldmidoemcdaaaa.VDel

set_option maxRecDepth 100000 in
set_option maxHeartbeats 1600000 in
theorem asks_id (b : Nat) (id : Int) : Asks 44 b (.int .u64 id) (fun x => x.f0 == id) := by
  intro W x hc
  have hu := Try.underlying25
  unfold ver
  have hb : Below W.heap.size W (W.alloc (.cells #[.int .u64 x.f0, .string x.f1, .bool x.f2, .int .i64 x.f3] 25)) := (Below.refl _ _).alloc (Nat.le_refl _) _
  have hc2 := (hb.cell (World.block_lt_of_cell? _ _ hc)).trans hc
  clear hb
  go_enter Try.func44, Try.ntmps44
  go_wp2
  go_ret
  exact ⟨rfl, (Below.refl _ _).alloc (Nat.le_refl _) _⟩

/-- What DeleteFunc answers of a row of the call's own, whatever there is. -/
theorem delete_any (g b : Nat) (u : Value) (p : S25 → Bool) (ha : Asks g b u p) (eg : ∀ args w, (callFunc g args).run Try.prog w = .ok (.enter g args) w) (base : Nat) (l : List S25) (w : World) (v : Value)
    (hr : Kd.R k25 25 w base (fun _ => True) v l) (hbox : w.cell? ⟨b, 0, none⟩ = some u) (hb : b < base) (hbs : base ≤ w.heap.size) :
    Calls Try.prog 43 #[v, .func (.func g) #[] #[.pointer (some ⟨b, 0, none⟩)]] w fun e w' =>
      ∃ v', e = .returned v' ∧ Kd.R k25 25 w' base (fun _ => True) v' (l.filter fun x => !p x) ∧ Below base w w' := by
  by_cases hn : ∀ j (h : j < l.length), p l[j] = false
  · obtain ⟨A, c, rfl⟩ := Kd.R_slice hr
    obtain ⟨_, _, hC⟩ := Kd.R_reads' hr
    refine (delete_none g b u p ha eg A c l w hC hbox hn).mono ?_
    rintro e w' ⟨rfl, hB⟩
    have hf : (l.filter fun x => !p x) = l := by
      rw [List.filter_eq_self]
      intro x hx
      obtain ⟨j, hj, rfl⟩ := List.getElem_of_mem hx
      rw [hn j hj]
      rfl
    rw [hf]
    exact ⟨_, rfl, Kd.R_below hr hB, ⟨hB.os, hB.tape, hB.output, hB.size, fun i hi => hB.block i (by omega)⟩⟩
  · obtain ⟨i, hf⟩ : ∃ i, l.findIdx? p = some i := by
      cases hf : l.findIdx? p with
      | some i => exact ⟨i, rfl⟩
      | none =>
        rw [List.findIdx?_eq_none_iff] at hf
        exact absurd (fun j h => hf l[j] (List.getElem_mem h)) hn
    obtain ⟨hi, hp, hlt⟩ := List.findIdx?_eq_some_iff_getElem.1 hf
    obtain ⟨gb, cap, rfl, h1, h2, _⟩ := Kd.R_form hr (by omega)
    refine (delete_some g b u p ha eg gb cap base (fun _ => True) l w hr hbox (by omega) i hi hp (fun j h hj => by simpa using hlt j hj)).mono ?_
    rintro e w' ⟨rfl, hR, hG⟩
    exact ⟨_, rfl, hR, ⟨hG.os, hG.tape, hG.output, hG.size, fun k hk => hG.block k (by omega) (by
      intro e
      have := Option.some.inj e
      omega)⟩⟩

set_option maxRecDepth 100000 in
set_option maxHeartbeats 1600000 in
theorem without_any (A : Option Addr) (c : Nat) (l : List S25) (id : Int) (w : World) (hr : Kd.C k25 w A l.length l) (hl : l.length < 3518437208883) :
    Calls Try.prog 34 #[.slice A l.length c, .int .u64 id] w fun e w' =>
      ∃ v', e = .returned v' ∧ Kd.R k25 25 w' w.heap.size (fun _ => True) v' (l.filter fun x => !(x.f0 == id)) ∧ Below w.heap.size w w' := by
  have HB0 : Below w.heap.size w (w.alloc (.cells #[.int .u64 id] 23)) := (Below.refl _ _).alloc (Nat.le_refl _) _
  have hsz : (w.alloc (.cells #[.int .u64 id] 23)).heap.size = w.heap.size + 1 := Array.size_push _
  have hcell : (w.alloc (.cells #[.int .u64 id] 23)).cell? ⟨w.heap.size, 0, none⟩ = some (.int .u64 id) := World.cell?_alloc_at _ _ w.heap.size 0 rfl
  have CC := VClone.clone_any A c l (w.alloc (.cells #[.int .u64 id] 23)) (Kd.C_alloc hr _) hl
  have HX := Aside0.mk (And.intro HB0 (And.intro hsz hcell))
  clear HB0 hsz hcell hr hl
  go_enter Try.func34, Try.ntmps34
  go_wp2_with fail
  refine CC.mono ?_
  rintro e w1 ⟨v0, rfl, hR, hb⟩
  obtain ⟨hB0, hsz, hcell⟩ := HX.out
  have hcell1 := (hb.cell (World.block_lt_of_cell? _ _ hcell)).trans hcell
  have D := delete_any 44 w.heap.size (.int .u64 id) (fun x => x.f0 == id) (asks_id _ id) (fun _ _ => rfl) (w.heap.size + 1) l w1 v0 (Kd.R_lower hR (by omega)) hcell1 (by omega) (by have := hb.size; omega)
  have HB1 := Aside0.mk (And.intro (below_step hB0 hb) hB0)
  clear hR hb hB0 hsz hcell hcell1 CC HX
  go_wp2_with fail
  refine D.mono ?_
  rintro e w2 ⟨v', rfl, hR, hb⟩
  have HE := Aside0.mk (And.intro (Kd.R_lower (base' := w.heap.size) hR (by omega)) (HB1.out.1.trans ⟨hb.os, hb.tape, hb.output, hb.size, fun k hk => hb.block k (by omega)⟩))
  clear hR hb D HB1
  go_wp2
  go_ret
  exact ⟨_, rfl, HE.out.1, HE.out.2⟩
end Go.Proofs.Ytldmidoemcdaaaa.VWithout
