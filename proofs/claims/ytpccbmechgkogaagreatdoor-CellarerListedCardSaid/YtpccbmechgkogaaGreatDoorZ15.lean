/-
  Lemmas: VPut.
-/
import Derived.BigRegion
import Derived.Outline
import Derived.Test.YtpccbmechgkogaaGreatDoorProg
import Derived.Test.YtpccbmechgkogaaGreatDoorV0
import Derived.Test.YtpccbmechgkogaaGreatDoorZ00
import Derived.Test.YtpccbmechgkogaaGreatDoorZ01
import Derived.Test.YtpccbmechgkogaaGreatDoorZ05
import Derived.Test.YtpccbmechgkogaaGreatDoorZ06
import Derived.Test.YtpccbmechgkogaaGreatDoorZ07
import Derived.Test.YtpccbmechgkogaaGreatDoorZ11
import Derived.Test.YtpccbmechgkogaaGreatDoorZ12
import Derived.Test.YtpccbmechgkogaaGreatDoorZ14
set_option linter.unusedVariables false
set_option linter.unusedSimpArgs false
namespace Go.Proofs.YtpccbmechgkogaaGreatDoor.VPut
open Go.RowKit Go.Proofs.YtpccbmechgkogaaGreatDoor.P Go.Proofs.YtpccbmechgkogaaGreatDoorW.PrintWords Go.Proofs.YtpccbmechgkogaaGreatDoorW.PrintLast Go.Proofs.YtpccbmechgkogaaGreatDoorW.PrintMore Go.Proofs.YtpccbmechgkogaaGreatDoor.IdxV Go.Proofs.YtpccbmechgkogaaGreatDoor.VDel Go.Proofs.YtpccbmechgkogaaGreatDoor.ChSpec Go.Proofs.YtpccbmechgkogaaGreatDoor.VMap
def Post (w : World) (r : List V × Int) (e : Ending) (w' : World) : Prop := ∃ v' : Value, e = .returned (.tuple #[v', .int .i64 r.2]) ∧ Kd.R k63 63 w' w.heap.size (fun _ => True) v' r.1 ∧ Below w.heap.size w w'
set_option maxRecDepth 100000 in
set_option maxHeartbeats 16000000 in
theorem put_any (A : Option Addr) (c : Nat) (l : List V) (state : Int) (x : V) (w : World) (hr : Kd.C k63 w A l.length l) (hc : l.length ≤ c) (hs : (Lit.int .i64 state).wf = true) (hq : chainB l = true) (hi : state = 0 ∨ state = 1 ∨ state = 2) (hel0 : elder l x = false) :
  Calls Tryz.prog 99 #[.slice A l.length c, .int .i64 state, ver x] w (Post w (putF l state x)) := by
 have hu := Tryz.underlying63
 have hmm := @run_makeMap Tryz.prog
 unfold ver
 have HEL := Aside0.mk hel0
 clear hel0
 obtain ⟨W0, hW0⟩ : ∃ W0, W0 = w.alloc (.cells #[.int .u64 x.f0, .string x.f1, .bool x.f2, .int .i64 x.f3] 63) := ⟨_, rfl⟩
 have HB0 : Aside0 (Below w.heap.size w W0) := ⟨by rw [hW0]; exact below_alloc (Below.refl _ _) _⟩
 have HK0 : Aside0 (W0.heap[w.heap.size]? = some (.cells #[.int .u64 x.f0, .string x.f1, .bool x.f2, .int .i64 x.f3] 63 (0, 0))) := ⟨by rw [hW0]; exact Array.getElem?_push_size⟩
 obtain ⟨M1, M2, M3, v, is, r1, r2, r3, r4, hb3, his, hv0, hv1⟩ := made W0 state hs
 have HB3 : Aside0 (Below w.heap.size w M3) := ⟨below_step HB0.out hb3⟩
 have HK3 := Aside0.mk ((hb3.block _ (World.block_lt_of_cell? _ _ (blk_cell HK0.out 0))).trans HK0.out)
 have HR3 : Aside0 (Kd.C k63 M3 A l.length l) := ⟨Kd.C_below hr HB3.out⟩
 have CK := Aside0.mk (ChkC.check_any A c l M3.drew (Kd.C_drew HR3.out) hq)
 clear hr hb3 HK0
 have hsz : W0.heap.size = w.heap.size + 1 := by rw [hW0]; exact Array.size_push _
 rw [hsz] at r1 r2 r3 r4
 rw [hW0] at r1
 clear hW0
 have HV0 := Aside0.mk hv0
 have HV1 := Aside0.mk hv1
 have HIS := Aside0.mk his
 have HC0 := Aside0.mk hc
 clear hv0 hv1 his hc
 go_enter Tryz.func99, Tryz.ntmps99
 go_wp2_with fail
 clear r1 r2 r3 r4 hmm
 cases is with
 | false => exact absurd hi (of_decide_eq_false HIS.out.symm)
 | true =>
   generalize hm : mayB x = m
   cases m with
   | false =>
    have HF : Aside0 (putF l state x = ([], 1)) := ⟨by unfold putF; rw [if_neg (fun h => by rw [hm] at h; cases h.2.2.1)]⟩
    have HM := Aside0.mk (fun W => ChkM.may_any x W)
    rw [hm] at HM
    clear hq hi hm
    refine start_ (n := 26) (S := fun w' => w'.cell? ⟨w.heap.size, 0, none⟩ = some (.int .u64 x.f0) ∧ w'.cell? ⟨w.heap.size, 1, none⟩ = some (.string x.f1) ∧ w'.cell? ⟨w.heap.size, 2, none⟩ = some (.bool x.f2) ∧ w'.cell? ⟨w.heap.size, 3, none⟩ = some (.int .i64 x.f3)) (ds := []) (bb 26 0) (by kernel_rfl) rfl rfl ⟨((blk_cell HK3.out 0).trans rfl), ((blk_cell HK3.out 1).trans rfl), ((blk_cell HK3.out 2).trans rfl), ((blk_cell HK3.out 3).trans rfl)⟩ (fun hHeld => ?_)
    refine pu 0 21 (h := on_ 1 22 (h := fun K hK => ?_))
    refine goes_ Tryz.func89 (by kernel_rfl) rfl #[.slice A l.length c] (by rfl) rfl rfl (by simp only [List.map_toArray, List.map_cons, List.map_nil]; rfl) ?_
    refine CK.out.mono ?_
    rintro e w4 ⟨rfl, hb⟩
    refine ⟨_, rfl, ?_⟩
    have HC4 := Aside0.mk (below_step (below_drew (Below.refl M3.heap.size M3)) hb)
    have HK4 := Aside0.mk ((hb.block _ (World.block_lt_of_cell? _ _ (blk_cell HK3.out 0))).trans HK3.out)
    clear hb CK
    refine hK.out _ _ ⟨((blk_cell HK4.out 0).trans rfl), ((blk_cell HK4.out 1).trans rfl), ((blk_cell HK4.out 2).trans rfl), ((blk_cell HK4.out 3).trans rfl)⟩ (fun hHeld => ?_)
    clear hK K
    refine nm (h := pu 2 23 (h := pu 3 24 (h := pu 4 25 (h := pu 5 26 (h := pu 6 27 (h := pu 7 28 (h := ta 8 29 hHeld (h := on_ 9 30 (h := fun K hK => ?_)))))))))
    refine goes_ Tryz.func137 (by kernel_rfl) rfl #[.agg #[.int .u64 x.f0, .string x.f1, .bool x.f2, .int .i64 x.f3]] (by rfl) rfl rfl (by simp only [List.map_toArray, List.map_cons, List.map_nil]; rfl) ?_
    refine (HM.out w4).mono ?_
    rintro e w5 ⟨rfl, hb⟩
    refine ⟨_, rfl, ?_⟩
    have HK5 := Aside0.mk ((hb.block _ (World.block_lt_of_cell? _ _ (blk_cell HK4.out 0))).trans HK4.out)
    have HC5 := Aside0.mk (below_step HC4.out hb)
    clear hb
    refine hK.out _ _ ⟨((blk_cell HK5.out 0).trans rfl), ((blk_cell HK5.out 1).trans rfl), ((blk_cell HK5.out 2).trans rfl), ((blk_cell HK5.out 3).trans rfl)⟩ (fun hHeld => ?_)
    clear hK K
    refine nm (h := pu 10 31 (h := pu 11 32 (h := pu 12 33 (h := po 13 34 (h := po 14 35 (h := po 15 36 (h := po 16 37 (h := po 17 38 (h := po 18 39 (h := po 19 40 (h := po 20 41 (h := po 21 42 (h := po 22 43 (h := po 23 44 (h := po 24 45 (h := pu 25 46 (h := dn (h := ?_))))))))))))))))))
    go_wp2_with fail
    go_ret2
    rw [HF.out]
    exact ⟨_, rfl, Kd.R_nil _ _ _ _ _, below_step HB3.out HC5.out⟩
   | true =>
    have HM := Aside0.mk (fun W => ChkM.may_any x W)
    rw [hm] at HM
    have hlen : l.length ≤ 20 := by unfold chainB at hq; simp at hq; exact hq.1.1
    obtain ⟨g, hg, eg, cg⟩ : ∃ g : Nat, v = .func (.func g) #[] #[] ∧ (∀ args w, (callFunc g args).run Tryz.prog w = .ok (.enter g args) w) ∧ ∀ W : World, Kd.C k63 W A l.length l → Calls Tryz.prog g #[.slice A l.length c, ver x] W fun e w' => ∃ v', e = .returned (.tuple #[v', .int .i64 (layF l state x).2]) ∧ Kd.R k63 63 w' W.heap.size (fun _ => True) v' (layF l state x).1 ∧ Below W.heap.size W w' := by
     by_cases h1 : state = 1
     ·exact ⟨141, HV1.out h1, fun _ _ => rfl, fun W hW => by unfold layF; rw [if_pos h1]; exact VAhead.ahead_any A c l x W hW (by omega)⟩
     ·exact ⟨140, HV0.out (by rcases hi with h | h | h; exact .inl h; exact absurd h h1; exact .inr h), fun _ _ => rfl, fun W hW => by unfold layF; rw [if_neg h1]; exact VOver.over_any A c l x W hW (by omega)⟩
    subst hg
    have hput : elder l x = false → putF l state x = if (layF l state x).2 ≠ 0 then ([], (layF l state x).2) else if (layF l state x).1.length > 20 then ([], 6) else ((layF l state x).1, 0) := fun he => by unfold putF; rw [if_pos ⟨hq, hi, hm, he⟩]
    obtain ⟨r, hr⟩ : ∃ r, r = layF l state x := ⟨_, rfl⟩
    rw [← hr] at hput cg
    have CG := Aside0.mk cg
    have HP := Aside0.mk hput
    unfold ver at CG
    clear cg hput hr HV0 HV1 HIS hq hi hm hlen
    by_cases hl : l = []
    ·have HF := Aside0.mk (HP.out (by rw [hl]; rfl))
     have hz : l.length = 0 := by rw [hl]; rfl
     have hz1 : decide (0 < l.length) = false := decide_eq_false (by omega)
     have hz2 : decide ((l.length : Int) > 0) = false := decide_eq_false (by omega)
     clear hl HP hz
     refine start_ (n := 26) (S := fun w' => w'.cell? ⟨w.heap.size, 0, none⟩ = some (.int .u64 x.f0) ∧ w'.cell? ⟨w.heap.size, 1, none⟩ = some (.string x.f1) ∧ w'.cell? ⟨w.heap.size, 2, none⟩ = some (.bool x.f2) ∧ w'.cell? ⟨w.heap.size, 3, none⟩ = some (.int .i64 x.f3)) (ds := []) (bb 26 0) (by kernel_rfl) rfl rfl ⟨((blk_cell HK3.out 0).trans rfl), ((blk_cell HK3.out 1).trans rfl), ((blk_cell HK3.out 2).trans rfl), ((blk_cell HK3.out 3).trans rfl)⟩ (fun hHeld => ?_)
     refine pu 0 21 (h := on_ 1 22 (h := fun K hK => ?_))
     refine goes_ Tryz.func89 (by kernel_rfl) rfl #[.slice A l.length c] (by rfl) rfl rfl (by simp only [List.map_toArray, List.map_cons, List.map_nil]; rfl) ?_
     refine CK.out.mono ?_
     rintro e w4 ⟨rfl, hb⟩
     refine ⟨_, rfl, ?_⟩
     have HC4 := Aside0.mk (below_step (below_drew (Below.refl M3.heap.size M3)) hb)
     have HK4 := Aside0.mk ((hb.block _ (World.block_lt_of_cell? _ _ (blk_cell HK3.out 0))).trans HK3.out)
     clear hb CK
     refine hK.out _ _ ⟨((blk_cell HK4.out 0).trans rfl), ((blk_cell HK4.out 1).trans rfl), ((blk_cell HK4.out 2).trans rfl), ((blk_cell HK4.out 3).trans rfl)⟩ (fun hHeld => ?_)
     clear hK K
     refine nm (h := pu 2 23 (h := pu 3 24 (h := pu 4 25 (h := pu 5 26 (h := pu 6 27 (h := pu 7 28 (h := ta 8 29 hHeld (h := on_ 9 30 (h := fun K hK => ?_)))))))))
     refine goes_ Tryz.func137 (by kernel_rfl) rfl #[.agg #[.int .u64 x.f0, .string x.f1, .bool x.f2, .int .i64 x.f3]] (by rfl) rfl rfl (by simp only [List.map_toArray, List.map_cons, List.map_nil]; rfl) ?_
     refine (HM.out w4).mono ?_
     rintro e w5 ⟨rfl, hb⟩
     refine ⟨_, rfl, ?_⟩
     have HK5 := Aside0.mk ((hb.block _ (World.block_lt_of_cell? _ _ (blk_cell HK4.out 0))).trans HK4.out)
     have HC5 := Aside0.mk (below_step HC4.out hb)
     clear hb
     refine hK.out _ _ ⟨((blk_cell HK5.out 0).trans rfl), ((blk_cell HK5.out 1).trans rfl), ((blk_cell HK5.out 2).trans rfl), ((blk_cell HK5.out 3).trans rfl)⟩ (fun hHeld => ?_)
     clear hK K
     refine nm (h := pu 10 31 (h := pu 11 32 (h := pu 12 33 (h := pu 13 34 (h := pu 14 35 (h := pu 15 36 (h := pu 16 37 (h := po 17 38 (h := po 18 39 (h := po 19 40 (h := po 20 41 (h := po 21 42 (h := po 22 43 (h := po 23 44 (h := pu 24 45 (h := pu 25 46 (h := dn (h := ?_))))))))))))))))))
     have HW5 : Aside0 (Below w.heap.size w w5) := ⟨below_step HB3.out HC5.out⟩
     have CL := CG.out w5 (Kd.C_below HR3.out HC5.out)
     have f0 : w5.cell? ⟨w.heap.size, 0, none⟩ = some (.int .u64 x.f0) := (blk_cell HK5.out 0).trans rfl
     have f1 : w5.cell? ⟨w.heap.size, 1, none⟩ = some (.string x.f1) := (blk_cell HK5.out 1).trans rfl
     have f2 : w5.cell? ⟨w.heap.size, 2, none⟩ = some (.bool x.f2) := (blk_cell HK5.out 2).trans rfl
     have f3 : w5.cell? ⟨w.heap.size, 3, none⟩ = some (.int .i64 x.f3) := (blk_cell HK5.out 3).trans rfl
     clear CG HC5 HK5 HC4 HK4 HK3 hHeld
     go_wp2_with fail
     refine CL.mono ?_
     rintro e w6 ⟨v6, rfl, hR, hb⟩
     obtain ⟨A6, c6, rfl⟩ := Kd.R_slice hR
     have HE := Aside0.mk (And.intro (Kd.R_lower (base' := w.heap.size) hR HW5.out.size) (HW5.out.trans ⟨hb.os, hb.tape, hb.output, hb.size, fun i hi => hb.block i (Nat.lt_of_lt_of_le hi HW5.out.size)⟩))
     clear hR hb CL f0 f1 f2 f3
     by_cases h2 : r.2 = 0
     ·have hb1 : (r.2 == 0) = true := by simpa using h2
      have hb2 : (r.2 != 0) = false := by simpa using h2
      by_cases h20 : r.1.length > 20
      ·have hl1 : decide (20 < r.1.length) = true := decide_eq_true h20
       have hl2 : decide ((r.1.length : Int) > 20) = true := decide_eq_true (by omega)
       have HG : Aside0 ((if r.2 ≠ 0 then (([] : List V), r.2) else if r.1.length > 20 then ([], 6) else (r.1, 0)) = ([], 6)) := ⟨by rw [if_neg (by simpa using h2), if_pos h20]⟩
       clear h2 h20
       go_wp2_with fail
       go_ret2
       rw [HF.out, HG.out]
       exact ⟨_, rfl, Kd.R_nil _ _ _ _ _, HE.out.2⟩
      ·have hl1 : decide (20 < r.1.length) = false := decide_eq_false h20
       have hl2 : decide ((r.1.length : Int) > 20) = false := decide_eq_false (by omega)
       have HG : Aside0 ((if r.2 ≠ 0 then (([] : List V), r.2) else if r.1.length > 20 then ([], 6) else (r.1, 0)) = (r.1, 0)) := ⟨by rw [if_neg (by simpa using h2), if_neg h20]⟩
       clear h2 h20
       go_wp2_with fail
       go_ret2
       rw [HF.out, HG.out]
       exact ⟨_, rfl, HE.out.1, HE.out.2⟩
     ·have hb1 : (r.2 == 0) = false := by simpa using h2
      have hb2 : (r.2 != 0) = true := by simpa using h2
      have HG : Aside0 ((if r.2 ≠ 0 then (([] : List V), r.2) else if r.1.length > 20 then ([], 6) else (r.1, 0)) = ([], r.2)) := ⟨by rw [if_pos h2]⟩
      clear h2
      go_wp2_with fail
      go_ret2
      rw [HF.out, HG.out]
      exact ⟨_, rfl, Kd.R_nil _ _ _ _ _, HE.out.2⟩
    ·obtain ⟨z, zs, hl⟩ := List.exists_cons_of_ne_nil hl
     have hrd : rd_T63 l 0 = z := by rw [hl]; rfl
     have hz : 0 < l.length := by rw [hl]; simp
     have hel : elder l x = decide (x.f3 < z.f3) := by rw [hl]; rfl
     obtain ⟨ad, hA, _, _, _, hy⟩ := at_T63 HR3.out (0 : Int) (by omega) (by omega)
     rw [hrd, show ad.add ((0 : Int).toNat * 4) = ad from rfl] at hy
     subst hA
     have HY := Aside0.mk hy
     have hz1 : decide (0 < l.length) = true := decide_eq_true hz
     have hz2 : decide ((l.length : Int) > 0) = true := decide_eq_true (by omega)
     have hz3 : (0 : Int) < (l.length : Int) := by omega
     have hz4 : (0 : Int) ≤ 0 := by omega
     clear hy hl hrd
     generalize z.f3 = y at HY hel
     clear z zs
     cases he : decide (x.f3 < y) with
     | true => exact absurd (HEL.out.symm.trans (hel.trans he)) (by decide)
     | false =>
      have HF := Aside0.mk (HP.out (hel.trans he))
      clear HP hel
      refine start_ (n := 26) (S := fun w' => w'.cell? ⟨w.heap.size, 0, none⟩ = some (.int .u64 x.f0) ∧ w'.cell? ⟨w.heap.size, 1, none⟩ = some (.string x.f1) ∧ w'.cell? ⟨w.heap.size, 2, none⟩ = some (.bool x.f2) ∧ w'.cell? ⟨w.heap.size, 3, none⟩ = some (.int .i64 x.f3) ∧ w'.cell? ⟨ad.block, ad.off + 3, none⟩ = some (.int .i64 y)) (ds := []) (bb 26 0) (by kernel_rfl) rfl rfl ⟨((blk_cell HK3.out 0).trans rfl), ((blk_cell HK3.out 1).trans rfl), ((blk_cell HK3.out 2).trans rfl), ((blk_cell HK3.out 3).trans rfl), HY.out⟩ (fun hHeld => ?_)
      refine pu 0 21 (h := on_ 1 22 (h := fun K hK => ?_))
      refine goes_ Tryz.func89 (by kernel_rfl) rfl #[.slice (some ad) l.length c] (by rfl) rfl rfl (by simp only [List.map_toArray, List.map_cons, List.map_nil]; rfl) ?_
      refine CK.out.mono ?_
      rintro e w4 ⟨rfl, hb⟩
      refine ⟨_, rfl, ?_⟩
      have HC4 := Aside0.mk (below_step (below_drew (Below.refl M3.heap.size M3)) hb)
      have HK4 := Aside0.mk ((hb.block _ (World.block_lt_of_cell? _ _ (blk_cell HK3.out 0))).trans HK3.out)
      clear hb CK
      refine hK.out _ _ ⟨((blk_cell HK4.out 0).trans rfl), ((blk_cell HK4.out 1).trans rfl), ((blk_cell HK4.out 2).trans rfl), ((blk_cell HK4.out 3).trans rfl), ((HC4.out.cell (World.block_lt_of_cell? _ _ HY.out)).trans HY.out)⟩ (fun hHeld => ?_)
      clear hK K
      refine nm (h := pu 2 23 (h := pu 3 24 (h := pu 4 25 (h := pu 5 26 (h := pu 6 27 (h := pu 7 28 (h := ta 8 29 hHeld (h := on_ 9 30 (h := fun K hK => ?_)))))))))
      refine goes_ Tryz.func137 (by kernel_rfl) rfl #[.agg #[.int .u64 x.f0, .string x.f1, .bool x.f2, .int .i64 x.f3]] (by rfl) rfl rfl (by simp only [List.map_toArray, List.map_cons, List.map_nil]; rfl) ?_
      refine (HM.out w4).mono ?_
      rintro e w5 ⟨rfl, hb⟩
      refine ⟨_, rfl, ?_⟩
      have HK5 := Aside0.mk ((hb.block _ (World.block_lt_of_cell? _ _ (blk_cell HK4.out 0))).trans HK4.out)
      have HC5 := Aside0.mk (below_step HC4.out hb)
      clear hb
      refine hK.out _ _ ⟨((blk_cell HK5.out 0).trans rfl), ((blk_cell HK5.out 1).trans rfl), ((blk_cell HK5.out 2).trans rfl), ((blk_cell HK5.out 3).trans rfl), ((HC5.out.cell (World.block_lt_of_cell? _ _ HY.out)).trans HY.out)⟩ (fun hHeld => ?_)
      clear hK K
      refine nm (h := pu 10 31 (h := pu 11 32 (h := pu 12 33 (h := pu 13 34 (h := pu 14 35 (h := pu 15 36 (h := pu 16 37 (h := pu 17 38 (h := pu 19 40 (h := pu 20 41 (h := pu 21 42 (h := ta 18 39 hHeld (h := ta 22 43 hHeld (h := pu 23 44 (h := pu 24 45 (h := pu 25 46 (h := dn (h := ?_))))))))))))))))))
      have HW5 : Aside0 (Below w.heap.size w w5) := ⟨below_step HB3.out HC5.out⟩
      have CL := CG.out w5 (Kd.C_below HR3.out HC5.out)
      have f0 : w5.cell? ⟨w.heap.size, 0, none⟩ = some (.int .u64 x.f0) := (blk_cell HK5.out 0).trans rfl
      have f1 : w5.cell? ⟨w.heap.size, 1, none⟩ = some (.string x.f1) := (blk_cell HK5.out 1).trans rfl
      have f2 : w5.cell? ⟨w.heap.size, 2, none⟩ = some (.bool x.f2) := (blk_cell HK5.out 2).trans rfl
      have f3 : w5.cell? ⟨w.heap.size, 3, none⟩ = some (.int .i64 x.f3) := (blk_cell HK5.out 3).trans rfl
      clear CG HC5 HK5 HC4 HK4 HK3 hHeld
      go_wp2_with fail
      refine CL.mono ?_
      rintro e w6 ⟨v6, rfl, hR, hb⟩
      obtain ⟨A6, c6, rfl⟩ := Kd.R_slice hR
      have HE := Aside0.mk (And.intro (Kd.R_lower (base' := w.heap.size) hR HW5.out.size) (HW5.out.trans ⟨hb.os, hb.tape, hb.output, hb.size, fun i hi => hb.block i (Nat.lt_of_lt_of_le hi HW5.out.size)⟩))
      clear hR hb CL f0 f1 f2 f3
      by_cases h2 : r.2 = 0
      ·have hb1 : (r.2 == 0) = true := by simpa using h2
       have hb2 : (r.2 != 0) = false := by simpa using h2
       by_cases h20 : r.1.length > 20
       ·have hl1 : decide (20 < r.1.length) = true := decide_eq_true h20
        have hl2 : decide ((r.1.length : Int) > 20) = true := decide_eq_true (by omega)
        have HG : Aside0 ((if r.2 ≠ 0 then (([] : List V), r.2) else if r.1.length > 20 then ([], 6) else (r.1, 0)) = ([], 6)) := ⟨by rw [if_neg (by simpa using h2), if_pos h20]⟩
        clear h2 h20
        go_wp2_with fail
        go_ret2
        rw [HF.out, HG.out]
        exact ⟨_, rfl, Kd.R_nil _ _ _ _ _, HE.out.2⟩
       ·have hl1 : decide (20 < r.1.length) = false := decide_eq_false h20
        have hl2 : decide ((r.1.length : Int) > 20) = false := decide_eq_false (by omega)
        have HG : Aside0 ((if r.2 ≠ 0 then (([] : List V), r.2) else if r.1.length > 20 then ([], 6) else (r.1, 0)) = (r.1, 0)) := ⟨by rw [if_neg (by simpa using h2), if_neg h20]⟩
        clear h2 h20
        go_wp2_with fail
        go_ret2
        rw [HF.out, HG.out]
        exact ⟨_, rfl, HE.out.1, HE.out.2⟩
      ·have hb1 : (r.2 == 0) = false := by simpa using h2
       have hb2 : (r.2 != 0) = true := by simpa using h2
       have HG : Aside0 ((if r.2 ≠ 0 then (([] : List V), r.2) else if r.1.length > 20 then ([], 6) else (r.1, 0)) = ([], r.2)) := ⟨by rw [if_pos h2]⟩
       clear h2
       go_wp2_with fail
       go_ret2
       rw [HF.out, HG.out]
       exact ⟨_, rfl, Kd.R_nil _ _ _ _ _, HE.out.2⟩
end Go.Proofs.YtpccbmechgkogaaGreatDoor.VPut
