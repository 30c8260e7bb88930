/-
  chain.versions.over: a version in place of the one that is written over.
-/
import Derived.Test.YtldmidoemcdaaaaVInsAny
import Derived.Test.YtldmidoemcdaaaaVWithout
import Derived.Deep.RegionWith
import Derived.BigRegion
set_option linter.unusedVariables false
namespace Go.Proofs.Ytldmidoemcdaaaa.VOver
open Go.RowKit Go.Proofs.Ytldmidoemcdaaaa.P Go.Proofs.YtldmidoemcdaaaaW.PrintWords Go.Proofs.Ytldmidoemcdaaaa.PureKit Go.Proofs.Ytldmidoemcdaaaa.IdxV Go.Proofs.Ytldmidoemcdaaaa.VDel

/-- A block that holds one version reads as a row of one. -/
theorem C_blk {W : World} {b : Nat} {t : TypeId} (x : S25) (h : W.heap[b]? = some (.cells #[.int .u64 x.f0, .string x.f1, .bool x.f2, .int .i64 x.f3] t (0, 0))) : Kd.C k25 W (some ⟨b, 0, none⟩) 1 [x] := by
  refine ⟨rfl, by decide, fun _ => ⟨⟨b, 0, none⟩, rfl, fun j p hj => ?_⟩⟩
  rcases j with _ | j
  · obtain rfl : x = p := by simpa using hj
    refine ⟨[.int .u64 x.f0, .string x.f1, .bool x.f2, .int .i64 x.f3], rfl, ?_, fun i v hi => ?_⟩
    · exact k25_mk W x
    · rw [Nat.zero_mul, Nat.zero_add, Addr.add_lit, blk_cell h]
      simpa using hi
  · simp at hj

/-- Insert ahead of what 'without' gave, the version's own row laid behind it. -/
theorem ins_a {W0 w1 : World} {v0 : Value} {L : List S25} (x : S25) (hlen : L.length < 3518437208) (hR : Kd.R k25 25 w1 W0.drew.heap.size (fun _ => True) v0 L) (hb : Below W0.drew.heap.size W0.drew w1) :
    Calls Try.prog 36 #[v0, .int .i64 0, .slice (some ⟨w1.heap.size, 0, none⟩) 1 1] (w1.alloc (.cells #[.int .u64 x.f0, .string x.f1, .bool x.f2, .int .i64 x.f3] 25)) fun e w' =>
      ∃ v', e = .returned v' ∧ Kd.R k25 25 w' W0.heap.size (fun _ => True) v' (x :: L) ∧ Below W0.heap.size W0 w' := by
  have hd : W0.drew.heap.size = W0.heap.size := rfl
  have hz : (w1.alloc (.cells #[.int .u64 x.f0, .string x.f1, .bool x.f2, .int .i64 x.f3] 25)).heap.size = w1.heap.size + 1 := Array.size_push _
  have hk : (w1.alloc (.cells #[.int .u64 x.f0, .string x.f1, .bool x.f2, .int .i64 x.f3] 25)).heap[w1.heap.size]? = some (.cells #[.int .u64 x.f0, .string x.f1, .bool x.f2, .int .i64 x.f3] 25 (0, 0)) := Array.getElem?_push_size
  have hbW := below_step (w := W0) (below_drew (Below.refl _ _)) hb
  have hb1 := below_alloc hbW (.cells #[.int .u64 x.f0, .string x.f1, .bool x.f2, .int .i64 x.f3] 25)
  have hs := hb.size
  refine (VInsAny.insert_any W0.heap.size _ v0 w1.heap.size 1 _ _ x L hlen (Kd.R_alloc hR _) hk (C_blk x hk) (fun e => ?_) (Nat.le_refl 1) (by omega)).mono ?_
  · have := Kd.R_lt hR _ e
    omega
  · rintro e w2 ⟨v', rfl, hR2, hb2⟩
    exact ⟨v', rfl, hR2, hb1.trans hb2⟩
theorem ins_b {W0 w1 : World} {v0 : Value} {L : List S25} (x : S25) (hlen : L.length < 3518437208) (hR : Kd.R k25 25 w1 (W0.alloc (.cells #[.int .u64 x.f0, .string x.f1, .bool x.f2, .int .i64 x.f3] 25)).drew.heap.size (fun _ => True) v0 L) (hb : Below (W0.alloc (.cells #[.int .u64 x.f0, .string x.f1, .bool x.f2, .int .i64 x.f3] 25)).drew.heap.size (W0.alloc (.cells #[.int .u64 x.f0, .string x.f1, .bool x.f2, .int .i64 x.f3] 25)).drew w1) :
    Calls Try.prog 36 #[v0, .int .i64 0, .slice (some ⟨W0.heap.size, 0, none⟩) 1 1] w1 fun e w' =>
      ∃ v', e = .returned v' ∧ Kd.R k25 25 w' W0.heap.size (fun _ => True) v' (x :: L) ∧ Below W0.heap.size W0 w' := by
  have hz : (W0.alloc (.cells #[.int .u64 x.f0, .string x.f1, .bool x.f2, .int .i64 x.f3] 25)).drew.heap.size = W0.heap.size + 1 := Array.size_push _
  have hk0 : (W0.alloc (.cells #[.int .u64 x.f0, .string x.f1, .bool x.f2, .int .i64 x.f3] 25)).drew.heap[W0.heap.size]? = some (.cells #[.int .u64 x.f0, .string x.f1, .bool x.f2, .int .i64 x.f3] 25 (0, 0)) := Array.getElem?_push_size
  have hk := (hb.block W0.heap.size (by omega)).trans hk0
  have hbW := below_step (w := W0) (below_drew (below_alloc (Below.refl _ _) _)) hb
  have hs := hb.size
  have hR' := Kd.R_lower (base' := W0.heap.size + 1) hR (by omega)
  refine (VInsAny.insert_any (W0.heap.size + 1) _ v0 W0.heap.size 1 _ _ x L hlen hR' hk (C_blk x hk) (fun e => ?_) (Nat.le_refl 1) (by omega)).mono ?_
  · have := Kd.R_base hR' _ e
    omega
  · rintro e w2 ⟨v', rfl, hR2, hb2⟩
    exact ⟨v', rfl, Kd.R_lower hR2 (by omega), hbW.trans ⟨hb2.os, hb2.tape, hb2.output, hb2.size, fun i hi => hb2.block i (by omega)⟩⟩

set_option maxRecDepth 100000 in
set_option maxHeartbeats 3200000 in
theorem over_any (A : Option Addr) (c : Nat) (l : List S25) (x : S25) (w : World) (hr : Kd.C k25 w A l.length l) (hl : l.length < 3518437208) :
    Calls Try.prog 26 #[.slice A l.length c, ver x] w fun e w' =>
      ∃ v', e = .returned (.tuple #[v', .int .i64 0]) ∧ Kd.R k25 25 w' w.heap.size (fun _ => True) v' ({ x with f0 := 0 } :: l.filter fun x => !(x.f0 == 0)) ∧ Below w.heap.size w w' := by
  have hu := Try.underlying25
  unfold ver
  obtain ⟨W0, hW0⟩ : ∃ W0, W0 = w.alloc (.cells #[.int .u64 0, .string x.f1, .bool x.f2, .int .i64 x.f3] 25) := ⟨_, rfl⟩
  have HB0 : Aside0 (Below w.heap.size w W0) := ⟨by rw [hW0]; exact below_alloc (Below.refl _ _) _⟩
  have HK0 : Aside0 (W0.heap[w.heap.size]? = some (.cells #[.int .u64 0, .string x.f1, .bool x.f2, .int .i64 x.f3] 25 (0, 0))) := ⟨by rw [hW0]; exact Array.getElem?_push_size⟩
  have HZ0 : Aside0 (W0.heap.size = w.heap.size + 1) := ⟨by rw [hW0]; exact Array.size_push _⟩
  have HC0 : Aside0 (Kd.C k25 W0 A l.length l) := ⟨Kd.C_below hr HB0.out⟩
  clear hr
  have h0 : W0.cell? ⟨w.heap.size, 0, none⟩ = some (.int .u64 0) := (blk_cell HK0.out 0).trans rfl
  have h1 : W0.cell? ⟨w.heap.size, 1, none⟩ = some (.string x.f1) := (blk_cell HK0.out 1).trans rfl
  have h2 : W0.cell? ⟨w.heap.size, 2, none⟩ = some (.bool x.f2) := (blk_cell HK0.out 2).trans rfl
  have h3 : W0.cell? ⟨w.heap.size, 3, none⟩ = some (.int .i64 x.f3) := (blk_cell HK0.out 3).trans rfl
  have HL := Aside0.mk hl
  have HFL := Aside0.mk (Nat.lt_of_le_of_lt (List.length_filter_le (fun x => !(x.f0 == 0)) l) hl)
  clear hl
  go_enter Try.func26, Try.ntmps26
  go_wp2_with fail
  rw [← hW0]
  clear hW0
  go_region_with (first
    | (go_at_call 34; (with_reducible refine (VWithout.without_any A c l 0 W0.drew ?_ ?_).mono ?_); (· exact Kd.C_below HC0.out (below_drew (Below.refl _ _))); (· have := HL.out; omega); rintro e w1 ⟨v0, rfl, hR, hb⟩
       have hbW := below_step (w := W0) (below_drew (Below.refl _ _)) hb
       have g0 := (hbW.cell (World.block_lt_of_cell? _ _ h0)).trans h0
       have g1 := (hbW.cell (World.block_lt_of_cell? _ _ h1)).trans h1
       have g2 := (hbW.cell (World.block_lt_of_cell? _ _ h2)).trans h2
       have g3 := (hbW.cell (World.block_lt_of_cell? _ _ h3)).trans h3
       have HA := Aside0.mk (ins_a (⟨0, x.f1, x.f2, x.f3⟩ : S25) HFL.out hR hb)
       have HBW := Aside0.mk hbW
       clear hb hR hbW)
    | (go_at_call 34; (with_reducible refine (VWithout.without_any A c l 0 (W0.alloc (.cells #[.int .u64 0, .string x.f1, .bool x.f2, .int .i64 x.f3] 25)).drew ?_ ?_).mono ?_); (· exact Kd.C_below HC0.out (below_drew (below_alloc (Below.refl _ _) _))); (· have := HL.out; omega); rintro e w1 ⟨v0, rfl, hR, hb⟩
       have HA := Aside0.mk (ins_b (⟨0, x.f1, x.f2, x.f3⟩ : S25) HFL.out hR hb)
       have HBW := Aside0.mk (below_step (w := W0) (below_drew (below_alloc (Below.refl _ _) _)) hb)
       clear hb hR)
    | (go_at_call 36
       refine HA.out.mono ?_
       rintro e w2 ⟨v', rfl, hR2, hb2⟩
       have HE := Aside0.mk (And.intro hR2 hb2)
       clear hR2 hb2))
  all_goals go_wp2
  all_goals go_ret2
  all_goals exact ⟨_, rfl, Kd.R_lower HE.out.1 (by have := HZ0.out; omega), HB0.out.trans ⟨HE.out.2.os, HE.out.2.tape, HE.out.2.output, HE.out.2.size, fun i hi => HE.out.2.block i (by have := HZ0.out; omega)⟩⟩
end Go.Proofs.Ytldmidoemcdaaaa.VOver
