/-
  chain.versions.ahead: a version ahead of all others.
-/
import Derived.Test.YtldmidoemcdaaaaVGrow
import Derived.Test.YtldmidoemcdaaaaVIns
import Derived.Test.YtldmidoemcdaaaaVClone
import Derived.Test.YtldmidoemcdaaaaVOver
import Derived.Test.YtldmidoemcdaaaaChSpec
import Derived.Deep.RegionWith
import Derived.BigRegion
set_option linter.unusedVariables false
namespace Go.Proofs.Ytldmidoemcdaaaa.VAhead
open Go.RowKit Go.Proofs.Ytldmidoemcdaaaa.P Go.Proofs.YtldmidoemcdaaaaW.PrintWords Go.Proofs.Ytldmidoemcdaaaa.PureKit Go.Proofs.Ytldmidoemcdaaaa.IdxV Go.Proofs.Ytldmidoemcdaaaa.VDel Go.Proofs.Ytldmidoemcdaaaa.ChSpec

set_option maxRecDepth 100000 in
set_option maxHeartbeats 1600000 in
theorem asks_ge (b : Nat) (id : Int) : Asks 38 b (.int .u64 id) (fun x => decide (x.f0 ≥ id)) := by
  intro W x hc
  have hu := Try.underlying25
  unfold ver
  have hb : Below W.heap.size W (W.alloc (.cells #[.int .u64 x.f0, .string x.f1, .bool x.f2, .int .i64 x.f3] 25)) := (Below.refl _ _).alloc (Nat.le_refl _) _
  have hc2 := (hb.cell (World.block_lt_of_cell? _ _ hc)).trans hc
  clear hb
  go_enter Try.func38, Try.ntmps38
  go_wp2
  go_ret
  exact ⟨rfl, (Below.refl _ _).alloc (Nat.le_refl _) _⟩

set_option maxRecDepth 100000 in
set_option maxHeartbeats 3200000 in
theorem ahead_any (A : Option Addr) (c : Nat) (l : List S25) (x : S25) (w : World) (hr : Kd.C k25 w A l.length l) (hl : l.length < 3518437208) :
    Calls Try.prog 27 #[.slice A l.length c, ver x] w fun e w' =>
      ∃ v', e = .returned (.tuple #[v', .int .i64 (aheadF l x).2]) ∧ Kd.R k25 25 w' w.heap.size (fun _ => True) v' (aheadF l x).1 ∧ Below w.heap.size w w' := by
  have hu := Try.underlying25
  unfold ver
  obtain ⟨W0, hW0⟩ : ∃ W0, W0 = w.alloc (.cells #[.int .u64 x.f0, .string x.f1, .bool x.f2, .int .i64 x.f3] 25) := ⟨_, rfl⟩
  have HB0 : Aside0 (Below w.heap.size w W0) := ⟨by rw [hW0]; exact below_alloc (Below.refl _ _) _⟩
  have HK0 : Aside0 (W0.heap[w.heap.size]? = some (.cells #[.int .u64 x.f0, .string x.f1, .bool x.f2, .int .i64 x.f3] 25 (0, 0))) := ⟨by rw [hW0]; exact Array.getElem?_push_size⟩
  have HC0 : Aside0 (Kd.C k25 W0 A l.length l) := ⟨Kd.C_below hr HB0.out⟩
  have h0 : W0.cell? ⟨w.heap.size, 0, none⟩ = some (.int .u64 x.f0) := (blk_cell HK0.out 0).trans rfl
  have CC : Calls Try.prog 37 #[.slice A l.length c, .func (.func 38) #[] #[.pointer (some ⟨w.heap.size, 0, none⟩)]] W0 _ := VerV.contains_any 38 #[.pointer (some ⟨w.heap.size, 0, none⟩)] (fun _ _ => rfl) (fun y => decide (y.f0 ≥ x.f0)) A c l W0 HC0.out (tells_of (asks_ge w.heap.size x.f0) h0 l)
  have HL := Aside0.mk hl
  clear hr hl
  by_cases hz : x.f0 = 0
  · have hz1 : (x.f0 == 0) = true := by simpa using hz
    have hf : aheadF l x = ([], 1) := by unfold aheadF; rw [if_pos hz]
    rw [hf]
    clear hf hz CC HC0 HK0 h0
    go_enter Try.func27, Try.ntmps27
    go_wp2_with fail
    rw [← hW0]
    go_ret2
    exact ⟨_, rfl, Kd.R_nil _ _ _ _ _, HB0.out⟩
  · have hz1 : (x.f0 == 0) = false := by simpa using hz
    generalize hq : l.any (fun y => decide (y.f0 ≥ x.f0)) = q at CC
    cases q with
    | true =>
      have hf : aheadF l x = ([], 9) := by unfold aheadF; rw [if_neg hz, if_pos hq]
      rw [hf]
      clear hf hq HC0 HK0 h0
      go_enter Try.func27, Try.ntmps27
      go_wp2_with fail
      rw [← hW0]
      refine CC.mono ?_
      rintro e w1 ⟨rfl, hb⟩
      have HB1 := Aside0.mk (below_step HB0.out hb)
      clear hb CC hW0
      go_wp2_with fail
      go_ret2
      exact ⟨_, rfl, Kd.R_nil _ _ _ _ _, HB1.out⟩
    | false =>
      have hf : aheadF l x = (x :: l, 0) := by unfold aheadF; rw [if_neg hz, if_neg (by rw [hq]; simp)]
      rw [hf]
      clear hf hq h0
      go_enter Try.func27, Try.ntmps27
      go_wp2_with fail
      rw [← hW0]
      refine CC.mono ?_
      rintro e W1 ⟨rfl, hb⟩
      have HB1 := Aside0.mk (below_step HB0.out hb)
      have HC1 := Aside0.mk (Kd.C_below HC0.out hb)
      have HK1 := Aside0.mk ((hb.block _ (World.block_lt_of_cell? _ _ (blk_cell HK0.out 0))).trans HK0.out)
      have HZ1 : Aside0 (w.heap.size ≤ W1.heap.size) := ⟨HB1.out.size⟩
      clear hb CC hW0 HB0 HK0 HC0
      have h0 : W1.cell? ⟨w.heap.size, 0, none⟩ = some (.int .u64 x.f0) := (blk_cell HK1.out 0).trans rfl
      have h1 : W1.cell? ⟨w.heap.size, 1, none⟩ = some (.string x.f1) := (blk_cell HK1.out 1).trans rfl
      have h2 : W1.cell? ⟨w.heap.size, 2, none⟩ = some (.bool x.f2) := (blk_cell HK1.out 2).trans rfl
      have h3 : W1.cell? ⟨w.heap.size, 3, none⟩ = some (.int .i64 x.f3) := (blk_cell HK1.out 3).trans rfl
      go_wp2_with fail
      go_region_with (first
        | (go_at_call 39; (with_reducible refine (VClone.clone_any A c l W1.drew ?_ ?_).mono ?_); (· exact Kd.C_below HC1.out (below_drew (Below.refl _ _))); (· have := HL.out; omega); rintro e w1 ⟨v0, rfl, hR, hb⟩
           have hbW := below_step (w := W1) (below_drew (Below.refl _ _)) hb
           have g0 := (hbW.cell (World.block_lt_of_cell? _ _ h0)).trans h0
           have g1 := (hbW.cell (World.block_lt_of_cell? _ _ h1)).trans h1
           have g2 := (hbW.cell (World.block_lt_of_cell? _ _ h2)).trans h2
           have g3 := (hbW.cell (World.block_lt_of_cell? _ _ h3)).trans h3
           have HA := Aside0.mk (VOver.ins_a x HL.out hR hb)
           clear hb hR hbW)
        | (go_at_call 39; (with_reducible refine (VClone.clone_any A c l (W1.alloc (.cells #[.int .u64 x.f0, .string x.f1, .bool x.f2, .int .i64 x.f3] 25)).drew ?_ ?_).mono ?_); (· exact Kd.C_below HC1.out (below_drew (below_alloc (Below.refl _ _) _))); (· have := HL.out; omega); rintro e w1 ⟨v0, rfl, hR, hb⟩
           have HA := Aside0.mk (VOver.ins_b x HL.out hR hb)
           clear hb hR)
        | (go_at_call 36
           refine HA.out.mono ?_
           rintro e w2 ⟨v', rfl, hR2, hb2⟩
           have HE := Aside0.mk (And.intro hR2 hb2)
           clear hR2 hb2))
      all_goals go_wp2
      all_goals go_ret2
      all_goals exact ⟨_, rfl, Kd.R_lower HE.out.1 HZ1.out, HB1.out.trans ⟨HE.out.2.os, HE.out.2.tape, HE.out.2.output, HE.out.2.size, fun i hi => HE.out.2.block i (Nat.lt_of_lt_of_le hi HZ1.out)⟩⟩
end Go.Proofs.Ytldmidoemcdaaaa.VAhead
