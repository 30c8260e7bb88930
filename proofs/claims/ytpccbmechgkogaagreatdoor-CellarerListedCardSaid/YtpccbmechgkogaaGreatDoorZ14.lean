/-
  Lemmas: VOver, VAhead, VMap.
-/
import Derived.Deep.RegionWith
import Derived.BigRegion
import Derived.Test.YtpccbmechgkogaaGreatDoorProg
import Derived.Maps.OwnSet
import Derived.Carry
import Derived.Test.YtpccbmechgkogaaGreatDoorV0
import Derived.Test.YtpccbmechgkogaaGreatDoorZ00
import Derived.Test.YtpccbmechgkogaaGreatDoorZ01
import Derived.Test.YtpccbmechgkogaaGreatDoorZ07
import Derived.Test.YtpccbmechgkogaaGreatDoorZ08
import Derived.Test.YtpccbmechgkogaaGreatDoorZ11
import Derived.Test.YtpccbmechgkogaaGreatDoorZ12
import Derived.Test.YtpccbmechgkogaaGreatDoorZ13
set_option linter.unusedVariables false
set_option linter.unusedSimpArgs false
namespace Go.Proofs.YtpccbmechgkogaaGreatDoor.VOver
open Go.RowKit Go.Proofs.YtpccbmechgkogaaGreatDoor.P Go.Proofs.YtpccbmechgkogaaGreatDoorW.PrintWords Go.Proofs.YtpccbmechgkogaaGreatDoor.IdxV Go.Proofs.YtpccbmechgkogaaGreatDoor.VDel
theorem C_blk {W : World} {b : Nat} {t : TypeId} (x : S63) (h : W.heap[b]? = some (.cells #[.int .u64 x.f0, .string x.f1, .bool x.f2, .int .i64 x.f3] t (0, 0))) : Kd.C k63 W (some ⟨b, 0, none⟩) 1 [x] := by
  refine ⟨rfl, by decide, fun _ => ⟨⟨b, 0, none⟩, rfl, fun j p hj => ?_⟩⟩
  rcases j with _ | j
  · obtain rfl : x = p := by simpa using hj
    refine ⟨[.int .u64 x.f0, .string x.f1, .bool x.f2, .int .i64 x.f3], rfl, ?_, fun i v hi => ?_⟩
    · exact k63_mk W x
    · rw [Nat.zero_mul, Nat.zero_add, Addr.add_lit, blk_cell h]
      simpa using hi
  · simp at hj
theorem ins_a {W0 w1 : World} {v0 : Value} {L : List S63} (x : S63) (hlen : L.length < 3518437208) (hR : Kd.R k63 63 w1 W0.drew.heap.size (fun _ => True) v0 L) (hb : Below W0.drew.heap.size W0.drew w1) :
    Calls Tryz.prog 175 #[v0, .int .i64 0, .slice (some ⟨w1.heap.size, 0, none⟩) 1 1] (w1.alloc (.cells #[.int .u64 x.f0, .string x.f1, .bool x.f2, .int .i64 x.f3] 63)) fun e w' =>
      ∃ v', e = .returned v' ∧ Kd.R k63 63 w' W0.heap.size (fun _ => True) v' (x :: L) ∧ Below W0.heap.size W0 w' := by
  have hd : W0.drew.heap.size = W0.heap.size := rfl
  have hz : (w1.alloc (.cells #[.int .u64 x.f0, .string x.f1, .bool x.f2, .int .i64 x.f3] 63)).heap.size = w1.heap.size + 1 := Array.size_push _
  have hk : (w1.alloc (.cells #[.int .u64 x.f0, .string x.f1, .bool x.f2, .int .i64 x.f3] 63)).heap[w1.heap.size]? = some (.cells #[.int .u64 x.f0, .string x.f1, .bool x.f2, .int .i64 x.f3] 63 (0, 0)) := Array.getElem?_push_size
  have hbW := below_step (w := W0) (below_drew (Below.refl _ _)) hb
  have hb1 := below_alloc hbW (.cells #[.int .u64 x.f0, .string x.f1, .bool x.f2, .int .i64 x.f3] 63)
  have hs := hb.size
  refine (VInsAny.insert_any W0.heap.size _ v0 w1.heap.size 1 _ _ x L hlen (Kd.R_alloc hR _) hk (C_blk x hk) (fun e => ?_) (Nat.le_refl 1) (by omega)).mono ?_
  · have := Kd.R_lt hR _ e
    omega
  · rintro e w2 ⟨v', rfl, hR2, hb2⟩
    exact ⟨v', rfl, hR2, hb1.trans hb2⟩
theorem ins_b {W0 w1 : World} {v0 : Value} {L : List S63} (x : S63) (hlen : L.length < 3518437208) (hR : Kd.R k63 63 w1 (W0.alloc (.cells #[.int .u64 x.f0, .string x.f1, .bool x.f2, .int .i64 x.f3] 63)).drew.heap.size (fun _ => True) v0 L) (hb : Below (W0.alloc (.cells #[.int .u64 x.f0, .string x.f1, .bool x.f2, .int .i64 x.f3] 63)).drew.heap.size (W0.alloc (.cells #[.int .u64 x.f0, .string x.f1, .bool x.f2, .int .i64 x.f3] 63)).drew w1) :
    Calls Tryz.prog 175 #[v0, .int .i64 0, .slice (some ⟨W0.heap.size, 0, none⟩) 1 1] w1 fun e w' =>
      ∃ v', e = .returned v' ∧ Kd.R k63 63 w' W0.heap.size (fun _ => True) v' (x :: L) ∧ Below W0.heap.size W0 w' := by
  have hz : (W0.alloc (.cells #[.int .u64 x.f0, .string x.f1, .bool x.f2, .int .i64 x.f3] 63)).drew.heap.size = W0.heap.size + 1 := Array.size_push _
  have hk0 : (W0.alloc (.cells #[.int .u64 x.f0, .string x.f1, .bool x.f2, .int .i64 x.f3] 63)).drew.heap[W0.heap.size]? = some (.cells #[.int .u64 x.f0, .string x.f1, .bool x.f2, .int .i64 x.f3] 63 (0, 0)) := Array.getElem?_push_size
  have hk := (hb.block W0.heap.size (by omega)).trans hk0
  have hbW := below_step (w := W0) (below_drew (below_alloc (Below.refl _ _) _)) hb
  have hs := hb.size
  have hR' := Kd.R_lower (base' := W0.heap.size + 1) hR (by omega)
  refine (VInsAny.insert_any (W0.heap.size + 1) _ v0 W0.heap.size 1 _ _ x L hlen hR' hk (C_blk x hk) (fun e => ?_) (Nat.le_refl 1) (by omega)).mono ?_
  · have := Kd.R_base hR' _ e
    omega
  · rintro e w2 ⟨v', rfl, hR2, hb2⟩
    exact ⟨v', rfl, Kd.R_lower hR2 (by omega), hbW.trans ⟨hb2.os, hb2.tape, hb2.output, hb2.size, fun i hi => hb2.block i (by omega)⟩⟩
set_option maxRecDepth 100000 in
set_option maxHeartbeats 3200000 in
theorem over_any (A : Option Addr) (c : Nat) (l : List S63) (x : S63) (w : World) (hr : Kd.C k63 w A l.length l) (hl : l.length < 3518437208) :
    Calls Tryz.prog 140 #[.slice A l.length c, ver x] w fun e w' =>
      ∃ v', e = .returned (.tuple #[v', .int .i64 0]) ∧ Kd.R k63 63 w' w.heap.size (fun _ => True) v' ({ x with f0 := 0 } :: l.filter fun x => !(x.f0 == 0)) ∧ Below w.heap.size w w' := by
  have hu := Tryz.underlying63
  unfold ver
  obtain ⟨W0, hW0⟩ : ∃ W0, W0 = w.alloc (.cells #[.int .u64 0, .string x.f1, .bool x.f2, .int .i64 x.f3] 63) := ⟨_, rfl⟩
  have HB0 : Aside0 (Below w.heap.size w W0) := ⟨by rw [hW0]; exact below_alloc (Below.refl _ _) _⟩
  have HK0 : Aside0 (W0.heap[w.heap.size]? = some (.cells #[.int .u64 0, .string x.f1, .bool x.f2, .int .i64 x.f3] 63 (0, 0))) := ⟨by rw [hW0]; exact Array.getElem?_push_size⟩
  have HZ0 : Aside0 (W0.heap.size = w.heap.size + 1) := ⟨by rw [hW0]; exact Array.size_push _⟩
  have HC0 : Aside0 (Kd.C k63 W0 A l.length l) := ⟨Kd.C_below hr HB0.out⟩
  clear hr
  have h0 : W0.cell? ⟨w.heap.size, 0, none⟩ = some (.int .u64 0) := (blk_cell HK0.out 0).trans rfl
  have h1 : W0.cell? ⟨w.heap.size, 1, none⟩ = some (.string x.f1) := (blk_cell HK0.out 1).trans rfl
  have h2 : W0.cell? ⟨w.heap.size, 2, none⟩ = some (.bool x.f2) := (blk_cell HK0.out 2).trans rfl
  have h3 : W0.cell? ⟨w.heap.size, 3, none⟩ = some (.int .i64 x.f3) := (blk_cell HK0.out 3).trans rfl
  have HL := Aside0.mk hl
  have HFL := Aside0.mk (Nat.lt_of_le_of_lt (List.length_filter_le (fun x => !(x.f0 == 0)) l) hl)
  clear hl
  go_enter Tryz.func140, Tryz.ntmps140
  go_wp2_with fail
  rw [← hW0]
  clear hW0
  go_region_with (first
    | (go_at_call 143; (with_reducible refine (VWithout.without_any A c l 0 W0.drew ?_ ?_).mono ?_); (· exact Kd.C_below HC0.out (below_drew (Below.refl _ _))); (· have := HL.out; omega); rintro e w1 ⟨v0, rfl, hR, hb⟩
       have hbW := below_step (w := W0) (below_drew (Below.refl _ _)) hb
       have g0 := (hbW.cell (World.block_lt_of_cell? _ _ h0)).trans h0
       have g1 := (hbW.cell (World.block_lt_of_cell? _ _ h1)).trans h1
       have g2 := (hbW.cell (World.block_lt_of_cell? _ _ h2)).trans h2
       have g3 := (hbW.cell (World.block_lt_of_cell? _ _ h3)).trans h3
       have HA := Aside0.mk (ins_a (⟨0, x.f1, x.f2, x.f3⟩ : S63) HFL.out hR hb)
       have HBW := Aside0.mk hbW
       clear hb hR hbW)
    | (go_at_call 143; (with_reducible refine (VWithout.without_any A c l 0 (W0.alloc (.cells #[.int .u64 0, .string x.f1, .bool x.f2, .int .i64 x.f3] 63)).drew ?_ ?_).mono ?_); (· exact Kd.C_below HC0.out (below_drew (below_alloc (Below.refl _ _) _))); (· have := HL.out; omega); rintro e w1 ⟨v0, rfl, hR, hb⟩
       have HA := Aside0.mk (ins_b (⟨0, x.f1, x.f2, x.f3⟩ : S63) HFL.out hR hb)
       have HBW := Aside0.mk (below_step (w := W0) (below_drew (below_alloc (Below.refl _ _) _)) hb)
       clear hb hR)
    | (go_at_call 175
       refine HA.out.mono ?_
       rintro e w2 ⟨v', rfl, hR2, hb2⟩
       have HE := Aside0.mk (And.intro hR2 hb2)
       clear hR2 hb2))
  all_goals go_wp2
  all_goals go_ret2
  all_goals exact ⟨_, rfl, Kd.R_lower HE.out.1 (by have := HZ0.out; omega), HB0.out.trans ⟨HE.out.2.os, HE.out.2.tape, HE.out.2.output, HE.out.2.size, fun i hi => HE.out.2.block i (by have := HZ0.out; omega)⟩⟩
end Go.Proofs.YtpccbmechgkogaaGreatDoor.VOver
namespace Go.Proofs.YtpccbmechgkogaaGreatDoor.VAhead
open Go.RowKit Go.Proofs.YtpccbmechgkogaaGreatDoor.P Go.Proofs.YtpccbmechgkogaaGreatDoorW.PrintWords Go.Proofs.YtpccbmechgkogaaGreatDoor.IdxV Go.Proofs.YtpccbmechgkogaaGreatDoor.VDel Go.Proofs.YtpccbmechgkogaaGreatDoor.ChSpec
set_option maxRecDepth 100000 in
set_option maxHeartbeats 1600000 in
theorem asks_ge (b : Nat) (id : Int) : Asks 177 b (.int .u64 id) (fun x => decide (x.f0 ≥ id)) := by
  intro W x hc
  have hu := Tryz.underlying63
  unfold ver
  have hb : Below W.heap.size W (W.alloc (.cells #[.int .u64 x.f0, .string x.f1, .bool x.f2, .int .i64 x.f3] 63)) := (Below.refl _ _).alloc (Nat.le_refl _) _
  have hc2 := (hb.cell (World.block_lt_of_cell? _ _ hc)).trans hc
  clear hb
  go_enter Tryz.func177, Tryz.ntmps177
  go_wp2
  go_ret
  exact ⟨rfl, (Below.refl _ _).alloc (Nat.le_refl _) _⟩
set_option maxRecDepth 100000 in
set_option maxHeartbeats 3200000 in
theorem ahead_any (A : Option Addr) (c : Nat) (l : List S63) (x : S63) (w : World) (hr : Kd.C k63 w A l.length l) (hl : l.length < 3518437208) :
    Calls Tryz.prog 141 #[.slice A l.length c, ver x] w fun e w' =>
      ∃ v', e = .returned (.tuple #[v', .int .i64 (aheadF l x).2]) ∧ Kd.R k63 63 w' w.heap.size (fun _ => True) v' (aheadF l x).1 ∧ Below w.heap.size w w' := by
  have hu := Tryz.underlying63
  unfold ver
  obtain ⟨W0, hW0⟩ : ∃ W0, W0 = w.alloc (.cells #[.int .u64 x.f0, .string x.f1, .bool x.f2, .int .i64 x.f3] 63) := ⟨_, rfl⟩
  have HB0 : Aside0 (Below w.heap.size w W0) := ⟨by rw [hW0]; exact below_alloc (Below.refl _ _) _⟩
  have HK0 : Aside0 (W0.heap[w.heap.size]? = some (.cells #[.int .u64 x.f0, .string x.f1, .bool x.f2, .int .i64 x.f3] 63 (0, 0))) := ⟨by rw [hW0]; exact Array.getElem?_push_size⟩
  have HC0 : Aside0 (Kd.C k63 W0 A l.length l) := ⟨Kd.C_below hr HB0.out⟩
  have h0 : W0.cell? ⟨w.heap.size, 0, none⟩ = some (.int .u64 x.f0) := (blk_cell HK0.out 0).trans rfl
  have CC : Calls Tryz.prog 176 #[.slice A l.length c, .func (.func 177) #[] #[.pointer (some ⟨w.heap.size, 0, none⟩)]] W0 _ := VerV.contains_any 177 #[.pointer (some ⟨w.heap.size, 0, none⟩)] (fun _ _ => rfl) (fun y => decide (y.f0 ≥ x.f0)) A c l W0 HC0.out (tells_of (asks_ge w.heap.size x.f0) h0 l)
  have HL := Aside0.mk hl
  clear hr hl
  by_cases hz : x.f0 = 0
  · have hz1 : (x.f0 == 0) = true := by simpa using hz
    have hf : aheadF l x = ([], 1) := by unfold aheadF; rw [if_pos hz]
    rw [hf]
    clear hf hz CC HC0 HK0 h0
    go_enter Tryz.func141, Tryz.ntmps141
    go_wp2_with fail
    rw [← hW0]
    go_ret2
    exact ⟨_, rfl, Kd.R_nil _ _ _ _ _, HB0.out⟩
  · have hz1 : (x.f0 == 0) = false := by simpa using hz
    generalize hq : l.any (fun y => decide (y.f0 ≥ x.f0)) = q at CC
    cases q with
    | true =>
      have hf : aheadF l x = ([], 9) := by unfold aheadF; rw [if_neg hz, if_pos hq]
      rw [hf]
      clear hf hq HC0 HK0 h0
      go_enter Tryz.func141, Tryz.ntmps141
      go_wp2_with fail
      rw [← hW0]
      refine CC.mono ?_
      rintro e w1 ⟨rfl, hb⟩
      have HB1 := Aside0.mk (below_step HB0.out hb)
      clear hb CC hW0
      go_wp2_with fail
      go_ret2
      exact ⟨_, rfl, Kd.R_nil _ _ _ _ _, HB1.out⟩
    | false =>
      have hf : aheadF l x = (x :: l, 0) := by unfold aheadF; rw [if_neg hz, if_neg (by rw [hq]; simp)]
      rw [hf]
      clear hf hq h0
      go_enter Tryz.func141, Tryz.ntmps141
      go_wp2_with fail
      rw [← hW0]
      refine CC.mono ?_
      rintro e W1 ⟨rfl, hb⟩
      have HB1 := Aside0.mk (below_step HB0.out hb)
      have HC1 := Aside0.mk (Kd.C_below HC0.out hb)
      have HK1 := Aside0.mk ((hb.block _ (World.block_lt_of_cell? _ _ (blk_cell HK0.out 0))).trans HK0.out)
      have HZ1 : Aside0 (w.heap.size ≤ W1.heap.size) := ⟨HB1.out.size⟩
      clear hb CC hW0 HB0 HK0 HC0
      have h0 : W1.cell? ⟨w.heap.size, 0, none⟩ = some (.int .u64 x.f0) := (blk_cell HK1.out 0).trans rfl
      have h1 : W1.cell? ⟨w.heap.size, 1, none⟩ = some (.string x.f1) := (blk_cell HK1.out 1).trans rfl
      have h2 : W1.cell? ⟨w.heap.size, 2, none⟩ = some (.bool x.f2) := (blk_cell HK1.out 2).trans rfl
      have h3 : W1.cell? ⟨w.heap.size, 3, none⟩ = some (.int .i64 x.f3) := (blk_cell HK1.out 3).trans rfl
      go_wp2_with fail
      go_region_with (first
        | (go_at_call 178; (with_reducible refine (VClone.clone_any A c l W1.drew ?_ ?_).mono ?_); (· exact Kd.C_below HC1.out (below_drew (Below.refl _ _))); (· have := HL.out; omega); rintro e w1 ⟨v0, rfl, hR, hb⟩
           have hbW := below_step (w := W1) (below_drew (Below.refl _ _)) hb
           have g0 := (hbW.cell (World.block_lt_of_cell? _ _ h0)).trans h0
           have g1 := (hbW.cell (World.block_lt_of_cell? _ _ h1)).trans h1
           have g2 := (hbW.cell (World.block_lt_of_cell? _ _ h2)).trans h2
           have g3 := (hbW.cell (World.block_lt_of_cell? _ _ h3)).trans h3
           have HA := Aside0.mk (VOver.ins_a x HL.out hR hb)
           clear hb hR hbW)
        | (go_at_call 178; (with_reducible refine (VClone.clone_any A c l (W1.alloc (.cells #[.int .u64 x.f0, .string x.f1, .bool x.f2, .int .i64 x.f3] 63)).drew ?_ ?_).mono ?_); (· exact Kd.C_below HC1.out (below_drew (below_alloc (Below.refl _ _) _))); (· have := HL.out; omega); rintro e w1 ⟨v0, rfl, hR, hb⟩
           have HA := Aside0.mk (VOver.ins_b x HL.out hR hb)
           clear hb hR)
        | (go_at_call 175
           refine HA.out.mono ?_
           rintro e w2 ⟨v', rfl, hR2, hb2⟩
           have HE := Aside0.mk (And.intro hR2 hb2)
           clear hR2 hb2))
      all_goals go_wp2
      all_goals go_ret2
      all_goals exact ⟨_, rfl, Kd.R_lower HE.out.1 HZ1.out, HB1.out.trans ⟨HE.out.2.os, HE.out.2.tape, HE.out.2.output, HE.out.2.size, fun i hi => HE.out.2.block i (Nat.lt_of_lt_of_le hi HZ1.out)⟩⟩
end Go.Proofs.YtpccbmechgkogaaGreatDoor.VAhead
namespace Go.Proofs.YtpccbmechgkogaaGreatDoor.VMap
open Go.RowKit Go.Maps Go.Proofs.YtpccbmechgkogaaGreatDoorW.PrintWords
abbrev D := DataW Unit
def fnElem : Value → Option (D × List MemPlace)
 | .func (.func g) a b => if a.size = 0 ∧ b.size = 0 then some (.lit (.int .i64 g), []) else some (.lit (.int .i64 (-1)), [])
 | _ => some (.lit (.int .i64 (-1)), [])
theorem fnElem_mk (g : Nat) : fnElem (.func (.func g) #[] #[]) = some (.lit (.int .i64 g), []) := rfl
theorem fnElem_inv {v : Value} {g : Nat} {ps : List MemPlace} (h : fnElem v = some (.lit (.int .i64 (g : Int)), ps)) : v = .func (.func g) #[] #[] := by
 unfold fnElem at h
 split at h
 ·rename_i q a b
  split at h
  ·rename_i hc
   obtain ⟨ha, hb⟩ := hc
   obtain rfl := Array.eq_empty_of_size_eq_zero ha
   obtain rfl := Array.eq_empty_of_size_eq_zero hb
   simp only [Option.some.injEq, Prod.mk.injEq, DataW.lit.injEq, Lit.int.injEq, true_and] at h
   have : q = g := Int.ofNat.inj h.1
   rw [this]
  ·simp only [Option.some.injEq, Prod.mk.injEq, DataW.lit.injEq, Lit.int.injEq, true_and] at h
   have := h.1
   omega
 ·simp only [Option.some.injEq, Prod.mk.injEq, DataW.lit.injEq, Lit.int.injEq, true_and] at h
  have := h.1
  omega
theorem law : Keyed Tryz.prog 3 := int_keyed Tryz.underlying3
abbrev F0 : Value := .func (.func 140) #[] #[]
abbrev F1 : Value := .func (.func 141) #[] #[]
abbrev MT : Nat := 209
abbrev FT : Nat := 207
theorem key_mk {a : Int} (h : (Lit.int .i64 a).wf = true) : keyOf Tryz.prog 3 (.int .i64 a) = some (.int .i64 a) := keyOf_int_mk Tryz.underlying3 h
theorem zero_fn (w : World) : (zeroValue FT).run Tryz.prog w = .ok .nilFunc w := by kernel_rfl
theorem made (w : World) (state : Int) (hs : (Lit.int .i64 state).wf = true) : ∃ M1 M2 M3 : World, ∃ v : Value, ∃ is : Bool,
  (Instr.mapUpdate 209 (.map (some w.heap.size)) (.int .i64 0) (.func (.func 140) #[] #[])).run Tryz.prog (w.alloc (.map #[] 0)) = .ok () M1 ∧
  (Instr.mapUpdate 209 (.map (some w.heap.size)) (.int .i64 1) (.func (.func 141) #[] #[])).run Tryz.prog M1 = .ok () M2 ∧
  (Instr.mapUpdate 209 (.map (some w.heap.size)) (.int .i64 2) (.func (.func 140) #[] #[])).run Tryz.prog M2 = .ok () M3 ∧
  (Instr.lookup 209 (.map (some w.heap.size)) (.int .i64 state) true).run Tryz.prog M3 = .ok (.tuple #[v, .bool is]) M3 ∧
  Below w.heap.size w M3 ∧ (is = decide (state = 0 ∨ state = 1 ∨ state = 2)) ∧ (state = 0 ∨ state = 2 → v = (.func (.func 140) #[] #[])) ∧ (state = 1 → v = (.func (.func 141) #[] #[])) := by
 have ht : Tryz.prog.underlying 209 = some (.map 3 207) := by kernel_rfl
 obtain ⟨M1, r1, o1, g1⟩ := (World.ownsMap_made (H := Unit) w Tryz.prog 3 fnElem).update law ht (by decide) (key_mk (a := 0) (by decide)) (fnElem_mk 140)
 obtain ⟨M2, r2, o2, g2⟩ := o1.update law ht (by decide) (key_mk (a := 1) (by decide)) (fnElem_mk 141)
 obtain ⟨M3, r3, o3, g3⟩ := o2.update law ht (by decide) (key_mk (a := 2) (by decide)) (fnElem_mk 140)
 obtain ⟨v, ps, r4, h4⟩ := o3.look_ok law ht (zero_fn M3) (zd := .lit (.int .i64 (-1))) (zp := []) (by rfl) (key_mk hs)
 have b0 : Below w.heap.size w (w.alloc (.map #[] 0)) := below_alloc (Below.refl _ _) _
 have b1 := b0.grown g1 b0.size (fun k e => by cases e; exact Nat.le_refl _)
 have b2 := b1.grown g2 b1.size (fun k e => by cases e; exact Nat.le_refl _)
 have b3 := b2.grown g3 b2.size (fun k e => by cases e; exact Nat.le_refl _)
 refine ⟨M1, M2, M3, v, _, r1, r2, r3, r4, b3, ?_, ?_, ?_⟩
 ·by_cases h : state = 0 ∨ state = 1 ∨ state = 2
  ·rw [decide_eq_true h]
   rcases h with rfl | rfl | rfl <;> rfl
  ·rw [decide_eq_false h]
   simp only [not_or] at h
   obtain ⟨n0, n1, n2⟩ := h
   show has (DataW.map [(Lit.int .i64 0, DataW.lit (Lit.int .i64 26)), (Lit.int .i64 1, DataW.lit (Lit.int .i64 27)), (Lit.int .i64 2, DataW.lit (Lit.int .i64 26))]) (Lit.int .i64 state) = false
   simp [has, Lit.sameKey]
   omega
 ·rintro (rfl | rfl)
  ·exact fnElem_inv h4
  ·exact fnElem_inv h4
 ·rintro rfl
  exact fnElem_inv h4
end Go.Proofs.YtpccbmechgkogaaGreatDoor.VMap
