/-
  Lemmas: DpChk, DpFind, IxI, IxP.
-/
import Derived.BigRegion
import Derived.LoopTactic
import Derived.Test.YtpccbmechgkogaaGreatDoorProg
import Derived.Outline
import Derived.Test.YtpccbmechgkogaaGreatDoorV0
import Derived.Test.YtpccbmechgkogaaGreatDoorZ00
import Derived.Test.YtpccbmechgkogaaGreatDoorZ01
import Derived.Test.YtpccbmechgkogaaGreatDoorZ02
import Derived.Test.YtpccbmechgkogaaGreatDoorZ04
import Derived.Test.YtpccbmechgkogaaGreatDoorZ05
import Derived.Test.YtpccbmechgkogaaGreatDoorZ06
import Derived.Test.YtpccbmechgkogaaGreatDoorZ07
import Derived.Test.YtpccbmechgkogaaGreatDoorZ08
import Derived.Test.YtpccbmechgkogaaGreatDoorZ11
import Derived.Test.YtpccbmechgkogaaGreatDoorZ16
import Derived.Test.YtpccbmechgkogaaGreatDoorZ17
set_option linter.unusedVariables false
set_option linter.unusedSimpArgs false
namespace Go.Proofs.YtpccbmechgkogaaGreatDoor.DpChk
open Go.RowKit Go.Proofs.YtpccbmechgkogaaGreatDoor.P Go.Proofs.YtpccbmechgkogaaGreatDoorW.PrintWords Go.Proofs.YtpccbmechgkogaaGreatDoorW.PrintLast Go.Proofs.YtpccbmechgkogaaGreatDoorW.PrintMore Go.Proofs.YtpccbmechgkogaaGreatDoor.PureKit Go.Proofs.YtpccbmechgkogaaGreatDoor.BkSpec Go.Proofs.YtpccbmechgkogaaGreatDoor.BkOk
abbrev kB := k40
structure DepOk (now : Int) (l : List B) : Prop where
 n0 : 0 ≤ now
 n1 : now ≤ 1099511627775
 len : l.length ≤ 6
 ok : ∀ b ∈ l, Ok now b
 rise : l.Pairwise (fun a b => Op.bytesLess a.f0.toList b.f0.toList = true)
set_option maxRecDepth 100000 in
set_option maxHeartbeats 6400000 in
theorem check_any (now : Int) (A : Option Addr) (c : Nat) (l : List B) (w : World) (h : DepOk now l) (hr : Kd.C kB w A l.length l) (hc : l.length ≤ c) :
  Calls Tryz.prog 28 #[.agg #[.int .i64 now, .slice A l.length c]] w fun e w' => e = .returned (.int .i64 0) ∧ Below w.heap.size w w' := by
 have hu := Tryz.underlying25
 have hub := Tryz.underlying40
 have H := Aside0.mk h
 have HR := Aside0.mk (fun W (hW : Below w.heap.size w W) => Kd.C_below hr hW)
 have HBX := Aside0.mk (blk_new w (.cells #[.int .i64 now, .slice A l.length c] 25))
 have HB0 := Aside0.mk (below_alloc (Below.refl w.heap.size w) (.cells #[.int .i64 now, .slice A l.length c] 25))
 have d1 : decide (now < 0) = false := by rw [decide_eq_false_iff_not]; have := h.n0; omega
 have d2 : decide (now > 1099511627775) = false := by rw [decide_eq_false_iff_not]; have := h.n1; omega
 have d3 : decide ((l.length : Int) > 6) = false := by rw [decide_eq_false_iff_not]; have := h.len; omega
 have hz := fun j => blk_cell HBX.out j
 clear h hr hc
 go_enter Tryz.func28, Tryz.ntmps28
 go_wp2
 clear d1 d2 d3 hz
 go_loopw [22] (fun v22 wr => ∃ k : Nat, v22 = .int .i64 k ∧ k ≤ l.length ∧ Aside0 (wr.heap[w.heap.size]? = some (.cells #[.int .i64 now, .slice A l.length c] 25 (0, 0))) ∧ Aside0 (Below w.heap.size w wr)) (fun v22 _ => l.length - (intOf v22).toNat)
 case atStart => exact ⟨0, rfl, Nat.zero_le _, HBX, HB0⟩
 case round =>
  clear HBX HB0
  obtain ⟨k, rfl, hk, HBX, HB0⟩ := hrel
  by_cases hlt : k < l.length
  ·have d4 : decide ((k : Int) < (l.length : Int)) = true := by rw [decide_eq_true_iff]; omega
   obtain ⟨ad, A2, c2, A3, c3, hA, x0, x1, x2, x3, x4, hc2, hr2, hc3, hr3⟩ := at_T40 (HR.out _ HB0.out) (k : Int) (by omega) (by omega)
   subst hA
   have hmem : rd_T40 l (k : Int) = l[k] := by unfold rd_T40; rw [Int.toNat_natCast, List.getD_eq_getElem?_getD, List.getElem?_eq_getElem hlt]; rfl
   rw [hmem] at x0 x1 x2 x3 x4 hr2 hr3 hc2 hc3
   rw [Int.toNat_natCast] at x0 x1 x2 x3 x4
   obtain ⟨x, hx⟩ : ∃ x, x = l[k] := ⟨_, rfl⟩
   rw [← hx] at x0 x1 x2 x3 x4 hr2 hr3 hc2 hc3
   have hok := H.out.ok x (by rw [hx]; exact List.getElem_mem hlt)
   have CK := Aside0.mk (fun (W : World) (hW : Below (wr.alloc (.cells #[.string x.f0, .int .i64 x.f1, .slice A2 x.f2.length c2, .slice A3 x.f3.length c3, .int .u64 x.f4] 40)).heap.size (wr.alloc (.cells #[.string x.f0, .int .i64 x.f1, .slice A2 x.f2.length c2, .slice A3 x.f3.length c3, .int .u64 x.f4] 40)) W) => BkG.check_any x A2 c2 A3 c3 W hok.bucket (Kd.C_below hr2 (below_step (below_alloc (Below.refl _ _) _) hW)) hc2 (Kd.C_below hr3 (below_step (below_alloc (Below.refl _ _) _) hW)) hc3)
   have hlate := hok.late
   have CL := Aside0.mk (fun (W : World) (hW : Below (wr.alloc (.cells #[.string x.f0, .int .i64 x.f1, .slice A2 x.f2.length c2, .slice A3 x.f3.length c3, .int .u64 x.f4] 40)).heap.size (wr.alloc (.cells #[.string x.f0, .int .i64 x.f1, .slice A2 x.f2.length c2, .slice A3 x.f3.length c3, .int .u64 x.f4] 40)) W) => DpLate.late_any now x A2 c2 A3 c3 W (Kd.C_below hr2 (below_step (below_alloc (Below.refl _ _) _) hW)))
   rw [hlate] at CL
   have j0 : (0 : Int) ≤ (k : Int) := by omega
   have j1 : (k : Int) < (l.length : Int) := by omega
   have HK := Aside0.mk hlt
   have KB := Aside0.mk (blk_new wr (.cells #[.string x.f0, .int .i64 x.f1, .slice A2 x.f2.length c2, .slice A3 x.f3.length c3, .int .u64 x.f4] 40))
   have HBN := Aside0.mk (below_alloc HB0.out (.cells #[.string x.f0, .int .i64 x.f1, .slice A2 x.f2.length c2, .slice A3 x.f3.length c3, .int .u64 x.f4] 40))
   have HBX2 := Aside0.mk (blk_alloc HBX.out (.cells #[.string x.f0, .int .i64 x.f1, .slice A2 x.f2.length c2, .slice A3 x.f3.length c3, .int .u64 x.f4] 40))
   have HS0 : Aside0 ((wr.alloc (.cells #[.string x.f0, .int .i64 x.f1, .slice A2 x.f2.length c2, .slice A3 x.f3.length c3, .int .u64 x.f4] 40)).cell? ⟨wr.heap.size, 0, none⟩ = some (.string x.f0)) := ⟨(blk_cell KB.out 0).trans rfl⟩
   have HS1 : Aside0 ((wr.alloc (.cells #[.string x.f0, .int .i64 x.f1, .slice A2 x.f2.length c2, .slice A3 x.f3.length c3, .int .u64 x.f4] 40)).cell? ⟨wr.heap.size, 1, none⟩ = some (.int .i64 x.f1)) := ⟨(blk_cell KB.out 1).trans rfl⟩
   have HS2 : Aside0 ((wr.alloc (.cells #[.string x.f0, .int .i64 x.f1, .slice A2 x.f2.length c2, .slice A3 x.f3.length c3, .int .u64 x.f4] 40)).cell? ⟨wr.heap.size, 2, none⟩ = some (.slice A2 x.f2.length c2)) := ⟨(blk_cell KB.out 2).trans rfl⟩
   have HS3 : Aside0 ((wr.alloc (.cells #[.string x.f0, .int .i64 x.f1, .slice A2 x.f2.length c2, .slice A3 x.f3.length c3, .int .u64 x.f4] 40)).cell? ⟨wr.heap.size, 3, none⟩ = some (.slice A3 x.f3.length c3)) := ⟨(blk_cell KB.out 3).trans rfl⟩
   have HS4 : Aside0 ((wr.alloc (.cells #[.string x.f0, .int .i64 x.f1, .slice A2 x.f2.length c2, .slice A3 x.f3.length c3, .int .u64 x.f4] 40)).cell? ⟨wr.heap.size, 4, none⟩ = some (.int .u64 x.f4)) := ⟨(blk_cell KB.out 4).trans rfl⟩
   have HS5 : Aside0 ((wr.alloc (.cells #[.string x.f0, .int .i64 x.f1, .slice A2 x.f2.length c2, .slice A3 x.f3.length c3, .int .u64 x.f4] 40)).cell? ⟨w.heap.size, 0, none⟩ = some (.int .i64 now)) := ⟨(blk_cell HBX2.out 0).trans rfl⟩
   have HS6 : Aside0 ((wr.alloc (.cells #[.string x.f0, .int .i64 x.f1, .slice A2 x.f2.length c2, .slice A3 x.f3.length c3, .int .u64 x.f4] 40)).cell? ⟨w.heap.size, 1, none⟩ = some (.slice (some ad) l.length c)) := ⟨(blk_cell HBX2.out 1).trans rfl⟩
   have HX := Aside0.mk (show ∃ h : k < l.length, x = l[k] from ⟨hlt, hx⟩)
   have hw2 : IntKind.i64.wrap ((k : Int) + 1) = ((k + 1 : Nat) : Int) := by rw [IntKind.wrap_i64]; have := H.out.len; omega
   clear hmem hx hok hlate hr2 hr3 hc2 hc3 hk
   by_cases hk0 : k = 0
   ·have d5 : decide (0 < k) = false := by rw [decide_eq_false_iff_not]; omega
    clear hk0 hlt
    go_wp2_with fail
    refine start_ (n := 25) (S := fun w' => w'.cell? ⟨wr.heap.size, 0, none⟩ = some (.string x.f0) ∧ w'.cell? ⟨wr.heap.size, 1, none⟩ = some (.int .i64 x.f1) ∧ w'.cell? ⟨wr.heap.size, 2, none⟩ = some (.slice A2 x.f2.length c2) ∧ w'.cell? ⟨wr.heap.size, 3, none⟩ = some (.slice A3 x.f3.length c3) ∧ w'.cell? ⟨wr.heap.size, 4, none⟩ = some (.int .u64 x.f4) ∧ w'.cell? ⟨w.heap.size, 0, none⟩ = some (.int .i64 now) ∧ w'.cell? ⟨w.heap.size, 1, none⟩ = some (.slice (some ad) l.length c)) (ds := []) (bb 25 0) (by kernel_rfl) rfl rfl ⟨HS0.out, HS1.out, HS2.out, HS3.out, HS4.out, HS5.out, HS6.out⟩ (fun hHeld => ?_)
    refine ta 0 27 hHeld (h := on_ 1 28 (h := fun K hK => ?_))
    refine goes_ Tryz.func67 (by kernel_rfl) rfl #[.agg #[.string x.f0, .int .i64 x.f1, .slice A2 x.f2.length c2, .slice A3 x.f3.length c3, .int .u64 x.f4]] (by rfl) rfl rfl (by simp only [List.map_toArray, List.map_cons, List.map_nil]; rfl) ?_
    refine (CK.out _ (below_drew (Below.refl (wr.alloc (.cells #[.string x.f0, .int .i64 x.f1, .slice A2 x.f2.length c2, .slice A3 x.f3.length c3, .int .u64 x.f4] 40)).heap.size (wr.alloc (.cells #[.string x.f0, .int .i64 x.f1, .slice A2 x.f2.length c2, .slice A3 x.f3.length c3, .int .u64 x.f4] 40))))).mono ?_
    rintro e w3 ⟨rfl, hb⟩
    refine ⟨_, rfl, ?_⟩
    have HD3 := Aside0.mk (below_step (below_drew (Below.refl (wr.alloc (.cells #[.string x.f0, .int .i64 x.f1, .slice A2 x.f2.length c2, .slice A3 x.f3.length c3, .int .u64 x.f4] 40)).heap.size (wr.alloc (.cells #[.string x.f0, .int .i64 x.f1, .slice A2 x.f2.length c2, .slice A3 x.f3.length c3, .int .u64 x.f4] 40)))) hb)
    clear hb
    refine hK.out _ _ ⟨(pw_cell_below HD3.out HS0.out), (pw_cell_below HD3.out HS1.out), (pw_cell_below HD3.out HS2.out), (pw_cell_below HD3.out HS3.out), (pw_cell_below HD3.out HS4.out), (pw_cell_below HD3.out HS5.out), (pw_cell_below HD3.out HS6.out)⟩ (fun hHeld => ?_)
    clear hK K
    refine nm (h := pu 2 29 (h := pu 3 30 (h := pu 5 32 (h := ta 4 31 hHeld (h := ta 6 33 hHeld (h := on_ 7 34 (h := fun K hK => ?_)))))))
    refine goes_ Tryz.func68 (by kernel_rfl) rfl #[.agg #[.string x.f0, .int .i64 x.f1, .slice A2 x.f2.length c2, .slice A3 x.f3.length c3, .int .u64 x.f4], .int .i64 now] (by rfl) rfl rfl (by simp only [List.map_toArray, List.map_cons, List.map_nil]; rfl) ?_
    refine (CL.out _ HD3.out).mono ?_
    rintro e w4 ⟨rfl, hb⟩
    refine ⟨_, rfl, ?_⟩
    have HD4 := Aside0.mk (below_step HD3.out hb)
    clear hb
    refine hK.out _ _ ⟨(pw_cell_below HD4.out HS0.out), (pw_cell_below HD4.out HS1.out), (pw_cell_below HD4.out HS2.out), (pw_cell_below HD4.out HS3.out), (pw_cell_below HD4.out HS4.out), (pw_cell_below HD4.out HS5.out), (pw_cell_below HD4.out HS6.out)⟩ (fun hHeld => ?_)
    clear hK K
    refine nm (h := pu 8 35 (h := pu 9 36 (h := pu 10 37 (h := pu 11 38 (h := pu 12 39 (h := po 13 40 (h := po 14 41 (h := po 15 42 (h := po 16 43 (h := po 17 44 (h := po 18 45 (h := po 19 46 (h := po 20 47 (h := po 21 48 (h := po 22 49 (h := pu 23 50 (h := pu 24 51 (h := dn (h := ?_)))))))))))))))))))
    clear hHeld x0 x1 x2 x3 x4 d4 d5
    go_wp2
    exact ⟨⟨k + 1, by go_num, by have := HK.out; omega, ⟨blk_below HBX2.out HD4.out⟩, ⟨below_step HBN.out HD4.out⟩⟩, by simp [intOf]; have := HK.out; omega⟩
   ·have d5 : decide (0 < k) = true := by rw [decide_eq_true_iff]; omega
    obtain ⟨m, hm⟩ : ∃ m, k = m + 1 := ⟨k - 1, by omega⟩
    obtain ⟨ad', _, _, _, _, hA', y0, -⟩ := at_T40 (HR.out _ HB0.out) (m : Int) (by omega) (by omega)
    cases hA'
    have hmem : rd_T40 l (m : Int) = l[m] := by unfold rd_T40; rw [Int.toNat_natCast, List.getD_eq_getElem?_getD, List.getElem?_eq_getElem (by omega)]; rfl
    rw [hmem, Int.toNat_natCast] at y0
    obtain ⟨n0, hn0⟩ : ∃ n0, n0 = l[m].f0 := ⟨_, rfl⟩
    rw [← hn0] at y0
    have hless : Op.bytesLess n0.toList x.f0.toList = true := by
     have := List.pairwise_iff_getElem.1 H.out.rise m k (by omega) hlt (by omega)
     obtain ⟨_, hx⟩ := HX.out
     rwa [← hn0, ← hx] at this
    have HS7 : Aside0 ((wr.alloc (.cells #[.string x.f0, .int .i64 x.f1, .slice A2 x.f2.length c2, .slice A3 x.f3.length c3, .int .u64 x.f4] 40)).cell? (ad.add (m * 5)) = some (.string n0)) := ⟨pw_cell_below (below_alloc (Below.refl _ _) _) y0⟩
    have i0 : (0 : Int) ≤ (m : Int) := by omega
    have i1 : (m : Int) < (l.length : Int) := by omega
    have hw1 : IntKind.i64.wrap ((k : Int) - 1) = (m : Int) := by rw [IntKind.wrap_i64]; have := H.out.len; omega
    clear hk0 hlt hm hmem hn0 y0
    go_wp2_with fail
    refine start_ (n := 25) (S := fun w' => w'.cell? ⟨wr.heap.size, 0, none⟩ = some (.string x.f0) ∧ w'.cell? ⟨wr.heap.size, 1, none⟩ = some (.int .i64 x.f1) ∧ w'.cell? ⟨wr.heap.size, 2, none⟩ = some (.slice A2 x.f2.length c2) ∧ w'.cell? ⟨wr.heap.size, 3, none⟩ = some (.slice A3 x.f3.length c3) ∧ w'.cell? ⟨wr.heap.size, 4, none⟩ = some (.int .u64 x.f4) ∧ w'.cell? ⟨w.heap.size, 0, none⟩ = some (.int .i64 now) ∧ w'.cell? ⟨w.heap.size, 1, none⟩ = some (.slice (some ad) l.length c) ∧ w'.cell? (ad.add (m * 5)) = some (.string n0)) (ds := []) (bb 25 0) (by kernel_rfl) rfl rfl ⟨HS0.out, HS1.out, HS2.out, HS3.out, HS4.out, HS5.out, HS6.out, HS7.out⟩ (fun hHeld => ?_)
    refine ta 0 27 hHeld (h := on_ 1 28 (h := fun K hK => ?_))
    refine goes_ Tryz.func67 (by kernel_rfl) rfl #[.agg #[.string x.f0, .int .i64 x.f1, .slice A2 x.f2.length c2, .slice A3 x.f3.length c3, .int .u64 x.f4]] (by rfl) rfl rfl (by simp only [List.map_toArray, List.map_cons, List.map_nil]; rfl) ?_
    refine (CK.out _ (below_drew (Below.refl (wr.alloc (.cells #[.string x.f0, .int .i64 x.f1, .slice A2 x.f2.length c2, .slice A3 x.f3.length c3, .int .u64 x.f4] 40)).heap.size (wr.alloc (.cells #[.string x.f0, .int .i64 x.f1, .slice A2 x.f2.length c2, .slice A3 x.f3.length c3, .int .u64 x.f4] 40))))).mono ?_
    rintro e w3 ⟨rfl, hb⟩
    refine ⟨_, rfl, ?_⟩
    have HD3 := Aside0.mk (below_step (below_drew (Below.refl (wr.alloc (.cells #[.string x.f0, .int .i64 x.f1, .slice A2 x.f2.length c2, .slice A3 x.f3.length c3, .int .u64 x.f4] 40)).heap.size (wr.alloc (.cells #[.string x.f0, .int .i64 x.f1, .slice A2 x.f2.length c2, .slice A3 x.f3.length c3, .int .u64 x.f4] 40)))) hb)
    clear hb
    refine hK.out _ _ ⟨(pw_cell_below HD3.out HS0.out), (pw_cell_below HD3.out HS1.out), (pw_cell_below HD3.out HS2.out), (pw_cell_below HD3.out HS3.out), (pw_cell_below HD3.out HS4.out), (pw_cell_below HD3.out HS5.out), (pw_cell_below HD3.out HS6.out), (pw_cell_below HD3.out HS7.out)⟩ (fun hHeld => ?_)
    clear hK K
    refine nm (h := pu 2 29 (h := pu 3 30 (h := pu 5 32 (h := ta 4 31 hHeld (h := ta 6 33 hHeld (h := on_ 7 34 (h := fun K hK => ?_)))))))
    refine goes_ Tryz.func68 (by kernel_rfl) rfl #[.agg #[.string x.f0, .int .i64 x.f1, .slice A2 x.f2.length c2, .slice A3 x.f3.length c3, .int .u64 x.f4], .int .i64 now] (by rfl) rfl rfl (by simp only [List.map_toArray, List.map_cons, List.map_nil]; rfl) ?_
    refine (CL.out _ HD3.out).mono ?_
    rintro e w4 ⟨rfl, hb⟩
    refine ⟨_, rfl, ?_⟩
    have HD4 := Aside0.mk (below_step HD3.out hb)
    clear hb
    refine hK.out _ _ ⟨(pw_cell_below HD4.out HS0.out), (pw_cell_below HD4.out HS1.out), (pw_cell_below HD4.out HS2.out), (pw_cell_below HD4.out HS3.out), (pw_cell_below HD4.out HS4.out), (pw_cell_below HD4.out HS5.out), (pw_cell_below HD4.out HS6.out), (pw_cell_below HD4.out HS7.out)⟩ (fun hHeld => ?_)
    clear hK K
    refine nm (h := pu 8 35 (h := pu 9 36 (h := pu 10 37 (h := pu 11 38 (h := pu 12 39 (h := pu 13 40 (h := pu 15 42 (h := pu 16 43 (h := pu 20 47 (h := ta 14 41 hHeld (h := pu 17 44 (h := pu 18 45 (h := ta 19 46 hHeld (h := ta 21 48 hHeld (h := pu 22 49 (h := pu 23 50 (h := pu 24 51 (h := dn (h := ?_)))))))))))))))))))
    clear hHeld x0 x1 x2 x3 x4 d4 d5
    go_wp2
    exact ⟨⟨k + 1, by go_num, by have := HK.out; omega, ⟨blk_below HBX2.out HD4.out⟩, ⟨below_step HBN.out HD4.out⟩⟩, by simp [intOf]; have := HK.out; omega⟩
  ·have hk2 : k = l.length := by omega
   subst hk2
   clear hlt hk
   go_wp2
   go_ret
   exact ⟨rfl, HB0.out⟩
end Go.Proofs.YtpccbmechgkogaaGreatDoor.DpChk
namespace Go.Proofs.YtpccbmechgkogaaGreatDoor.DpFind
open Go.RowKit Go.Proofs.YtpccbmechgkogaaGreatDoor.P Go.Proofs.YtpccbmechgkogaaGreatDoorW.PrintWords Go.Proofs.YtpccbmechgkogaaGreatDoor.PureKit Go.Proofs.YtpccbmechgkogaaGreatDoor.BkSpec Go.Proofs.YtpccbmechgkogaaGreatDoor.Wk Go.Proofs.YtpccbmechgkogaaGreatDoor.Close Go.Proofs.YtpccbmechgkogaaGreatDoor.BkOk Go.Proofs.YtpccbmechgkogaaGreatDoor.DpChk Go.Proofs.YtpccbmechgkogaaGreatDoor.IdxG
def zB : B := ⟨⟨#[]⟩, 0, [], [], 0⟩
theorem toList_inj {s t : ByteArray} (h : s.toList = t.toList) : s = t := by
 have h2 : s.data.toList = t.data.toList := by rw [← ByteArray.toList_eq, ← ByteArray.toList_eq]; exact h
 cases s; cases t
 exact congrArg ByteArray.mk (Array.toList_inj.1 h2)
theorem named_iff {s : ByteArray} {x : B} : DpLate.named s x = true ↔ x.f0 = s := by
 unfold DpLate.named
 rw [beq_iff_eq]
 exact ⟨fun h => toList_inj h, fun h => by rw [h]⟩
def Found (w : World) (ok : Nat → Prop) (l : List B) (s : ByteArray) (en : Ending) (w' : World) : Prop :=
 ∃ (b : B) (v2 v3 : Value) (er : Int), en = .returned (.tuple #[.agg #[.string b.f0, .int .i64 b.f1, v2, v3, .int .u64 b.f4], .int .i64 er]) ∧ Sl w' ok b v2 v3 ∧ (er = 0 → b ∈ l ∧ b.f0 = s) ∧ (er ≠ 0 → b = zB ∧ ∀ x ∈ l, x.f0 ≠ s) ∧ Below w.heap.size w w'
theorem sl_zero (w : World) (ok : Nat → Prop) : Sl w ok zB (.slice none 0 0) (.slice none 0 0) := ⟨Kd.V_nil _ _ _ _ _, Kd.V_nil _ _ _ _ _⟩
set_option maxRecDepth 100000 in
set_option maxHeartbeats 3200000 in
theorem find_any (now : Int) (w : World) (ok : Nat → Prop) (v : Value) (l : List B) (s : ByteArray) (hd : DepOk now l) (h : Rd kB w ok v l) :
  Calls Tryz.prog 69 #[.agg #[.int .i64 now, v], .string s] w (Found w ok l s) := by
 have hb := Kd.V_bound h
 obtain ⟨A, c, rfl, hc, hF⟩ := hb
 clear h
 have hu := Tryz.underlying40
 have hud := Tryz.underlying25
 have HF := Aside0.mk hF
 have HC := Aside0.mk hc
 have HD := Aside0.mk hd
 have HB0 := Aside0.mk (below_alloc (below_alloc (Below.refl w.heap.size w) (.cells #[.int .i64 now, .slice A l.length c] 25)) (.cells #[.string ⟨#[]⟩, .int .i64 0, .slice none 0 0, .slice none 0 0, .int .u64 0] tB))
 have KA := Aside0.mk (BkTurn.blk2a w (.cells #[.int .i64 now, .slice A l.length c] 25) (.cells #[.string ⟨#[]⟩, .int .i64 0, .slice none 0 0, .slice none 0 0, .int .u64 0] tB))
 have KZ := Aside0.mk (blk_push w (.cells #[.int .i64 now, .slice A l.length c] 25) (.cells #[.string ⟨#[]⟩, .int .i64 0, .slice none 0 0, .slice none 0 0, .int .u64 0] tB))
 have hz := fun j => blk_cell KA.out j
 clear hF hc hd
 go_enter Tryz.func69, Tryz.ntmps69
 go_wp2_with fail
 refine (DpLate.place_any now A c l s _ (Kd.C_below (Kd.F_now HF.out) HB0.out)).mono ?_
 rintro en w1 ⟨rfl, hb1⟩
 have HB1 := Aside0.mk (below_step HB0.out hb1)
 have KA1 := Aside0.mk (blk_below KA.out hb1)
 have KZ1 := Aside0.mk (blk_below KZ.out hb1)
 clear hb1 hz KA KZ HB0
 have hz := fun j => blk_cell KA1.out j
 obtain ⟨q, hq⟩ : ∃ q, q = idx (DpLate.named s) l := ⟨_, rfl⟩
 rw [← hq]
 have HQ := Aside0.mk hq
 clear hq
 go_wp2_with fail
 refine (check_any now A c l _ HD.out (Kd.C_below (Kd.F_now HF.out) HB1.out) HC.out).mono ?_
 rintro en w2 ⟨rfl, hb2⟩
 have HB2 := Aside0.mk (below_step HB1.out hb2)
 have KA2 := Aside0.mk (blk_below KA1.out hb2)
 have KZ2 := Aside0.mk (blk_below KZ1.out hb2)
 clear hb2 hz KA1 KZ1 HB1
 have hz := fun j => blk_cell KA2.out j
 have hzz := fun j => blk_cell KZ2.out j
 have hf := fun j => blk_frozen KZ2.out j
 rcases hfi : l.findIdx? (DpLate.named s) with _ | k
 ·have hi : q = -1 := by rw [HQ.out]; unfold idx; rw [hfi]
  have HNO : Aside0 (∀ x ∈ l, x.f0 ≠ s) := ⟨fun x hx e => by
   have := List.findIdx?_eq_none_iff.1 hfi x hx
   rw [named_iff.2 e] at this
   cases this⟩
  subst hi
  clear hfi HQ
  go_wp2
  have gS := set5_grown (w2) (w.heap.size + 1) (.string ⟨#[]⟩) (.int .i64 0) (.slice none 0 0) (.slice none 0 0) (.int .u64 0)
  have z := fun j => blk_cell (set5_blk (KZ2.out) (.string ⟨#[]⟩) (.int .i64 0) (.slice none 0 0) (.slice none 0 0) (.int .u64 0)) j
  refine bodyPost_ret (v := .tuple #[.agg #[.string ⟨#[]⟩, .int .i64 0, (.slice none 0 0), (.slice none 0 0), .int .u64 0], .int .i64 4]) (by simp [results, Tryz.results69, go_sem, z]) rfl ?_
  exact ⟨zB, _, _, 4, rfl, sl_zero _ _, (fun h => absurd h (by decide)), (fun _ => ⟨rfl, HNO.out⟩), HB2.out.grown gS HB2.out.size (fun k e => by cases e; omega)⟩
 ·have hi : q = (k : Int) := by rw [HQ.out]; unfold idx; rw [hfi]
  obtain ⟨hk, hpk, -⟩ := List.findIdx?_eq_some_iff_getElem.1 hfi
  have hnm := named_iff.1 hpk
  subst hi
  obtain ⟨ad, c', e0, hcl, hM, hcc, -⟩ := Kd.F_get (Kd.F_below HF.out HB2.out) z40 (k : Int) (by omega) (by omega)
  have hx : l.getD (k : Int).toNat z40 = l[k] := by rw [Int.toNat_natCast, List.getD_eq_getElem?_getD, List.getElem?_eq_getElem hk]; rfl
  rw [hx] at hM
  have hmem : l[k] ∈ l := List.getElem_mem hk
  generalize l[k] = b at hM hmem hnm
  obtain ⟨A2, c2, A3, c3, rfl, hl2, hF2, hl3, hF3⟩ := k40_openF hM
  subst e0
  rw [Int.toNat_natCast] at hcc
  have h0 : w2.cell? (ad.add (k * 5)) = some (.string b.f0) := hcc 0 _ rfl
  have h1 : w2.cell? ⟨(ad.add (k * 5)).block, (ad.add (k * 5)).off + 1, none⟩ = some (.int .i64 b.f1) := by rw [← add_field _ _ 1 (by omega)]; exact hcc 1 _ rfl
  have h2 : w2.cell? ⟨(ad.add (k * 5)).block, (ad.add (k * 5)).off + 2, none⟩ = some (.slice A2 b.f2.length c2) := by rw [← add_field _ _ 2 (by omega)]; exact hcc 2 _ rfl
  have h3 : w2.cell? ⟨(ad.add (k * 5)).block, (ad.add (k * 5)).off + 3, none⟩ = some (.slice A3 b.f3.length c3) := by rw [← add_field _ _ 3 (by omega)]; exact hcc 3 _ rfl
  have h4 : w2.cell? ⟨(ad.add (k * 5)).block, (ad.add (k * 5)).off + 4, none⟩ = some (.int .u64 b.f4) := by rw [← add_field _ _ 4 (by omega)]; exact hcc 4 _ rfl
  have HM := Aside0.mk (And.intro hmem hnm)
  have HS := Aside0.mk (show Sl w2 _ b (.slice A2 b.f2.length c2) (.slice A3 b.f3.length c3) from ⟨⟨A2, c2, rfl, hl2, hF2⟩, ⟨A3, c3, rfl, hl3, hF3⟩⟩)
  have i0 : (0 : Int) ≤ (k : Int) := by omega
  have i1 : (k : Int) < (l.length : Int) := by omega
  have i2 : decide ((k : Int) < 0) = false := by rw [decide_eq_false_iff_not]; omega
  clear hx hcl hM hcc hmem hnm hpk hfi hF2 hF3 hl2 hl3 hk HQ
  go_wp2_with fail
  have gS := set5_grown (w2) (w.heap.size + 1) (.string b.f0) (.int .i64 b.f1) (.slice A2 b.f2.length c2) (.slice A3 b.f3.length c3) (.int .u64 b.f4)
  have z := fun j => blk_cell (set5_blk (KZ2.out) (.string b.f0) (.int .i64 b.f1) (.slice A2 b.f2.length c2) (.slice A3 b.f3.length c3) (.int .u64 b.f4)) j
  refine bodyPost_ret (v := .tuple #[.agg #[.string b.f0, .int .i64 b.f1, (.slice A2 b.f2.length c2), (.slice A3 b.f3.length c3), .int .u64 b.f4], .int .i64 0]) (by simp [results, Tryz.results69, go_sem, z]) rfl ?_
  exact ⟨b, _, _, 0, rfl, (HS.out.grown gS (fun k hk => by have := hk.2; omega)).mono (fun _ hk => hk.1), fun _ => HM.out, (fun h => absurd rfl h), HB2.out.grown gS HB2.out.size (fun k e => by cases e; omega)⟩
end Go.Proofs.YtpccbmechgkogaaGreatDoor.DpFind
namespace Go.Proofs.YtpccbmechgkogaaGreatDoor.IxI
open Go.RowKit Go.Proofs.YtpccbmechgkogaaGreatDoor.P Go.Proofs.YtpccbmechgkogaaGreatDoorW.PrintWords Go.Proofs.YtpccbmechgkogaaGreatDoor.IdxG
abbrev T := S228
def Tells (g : Nat) (lb : Array Value) (p : T → Bool) (w : World) (l : List T) : Prop :=
 ∀ (W : World) (x : T), x ∈ l → Below w.heap.size w W →
  Calls Tryz.prog g (#[.agg #[.int .i64 x.f0, .int .u32 x.f1]] ++ lb) W fun e w' => e = .returned (.bool (p x)) ∧ Below W.heap.size W w'
set_option maxRecDepth 100000 in
set_option maxHeartbeats 1600000 in
theorem index_any (g : Nat) (lb : Array Value) (eg : ∀ args w, (callFunc g args).run Tryz.prog w = .ok (.enter g args) w) (p : T → Bool) (A : Option Addr) (c : Nat) (l : List T) (w : World)
  (hr : Kd.C k228 w A l.length l) (hg : Tells g lb p w l) :
  Calls Tryz.prog 185 #[.slice A l.length c, .func (.func g) #[] lb] w (IdxPost w (idx p l)) := by
 have HR := Aside0.mk hr
 have HG := Aside0.mk hg
 have hm : l.length ≤ 9223372036854775807 := hr.2.1
 clear hr hg
 have hu := Tryz.underlying228
 go_enter Tryz.func185, Tryz.ntmps185
 go_wp2
 go_loopw [8] (fun i wr => ∃ k : Nat, k ≤ l.length ∧ i = .int .i64 k ∧ Aside0 (∀ j (h : j < l.length), j < k → p l[j] = false) ∧ Aside0 (Below w.heap.size w wr)) (fun i _ => l.length - (intOf i).toNat)
 case atStart => exact ⟨0, by omega, rfl, ⟨fun j _ h => absurd h (Nat.not_lt_zero _)⟩, ⟨Below.refl _ _⟩⟩
 case round =>
  obtain ⟨k, hk, rfl, HA, HB⟩ := hrel
  by_cases hlt : k < l.length
  ·obtain ⟨ad, e0, h0, h1⟩ := at_T228 (Kd.C_below HR.out HB.out) (k : Int) (by omega) (by omega)
   have hx : rd_T228 l (k : Int) = l[k] := by unfold rd_T228; rw [Int.toNat_natCast, List.getD_eq_getElem?_getD, List.getElem?_eq_getElem hlt]; rfl
   rw [hx] at h0 h1
   rw [Int.toNat_natCast] at h0 h1
   cases e0
   have hcall := HG.out wr l[k] (List.getElem_mem hlt) HB.out
   have HX := Aside0.mk hx
   clear hx
   generalize hq : p l[k] = q at hcall
   have HQ := Aside0.mk hq
   clear hq
   cases q with
   | true =>
    go_wp2_with fail
    refine hcall.mono ?_
    rintro e w2 ⟨rfl, hb'⟩
    have HB2 := Aside0.mk hb'
    clear hb'
    go_wp2
    go_ret
    exact ⟨congrArg (fun z => Ending.returned (Value.int .i64 z)) (idx_hit p l k hlt HQ.out HA.out).symm, below_step HB.out HB2.out⟩
   | false =>
    go_wp2_with fail
    refine hcall.mono ?_
    rintro e w2 ⟨rfl, hb'⟩
    have HB2 := Aside0.mk hb'
    clear hb'
    go_wp2
    refine ⟨⟨k + 1, by omega, by go_num, ⟨fun j h hj => ?_⟩, ⟨below_step HB.out HB2.out⟩⟩, by simp [intOf]; omega⟩
    by_cases e : j = k
    ·subst e; exact HQ.out
    ·exact HA.out j h (by omega)
  ·have hk2 : k = l.length := by omega
   subst hk2
   go_wp2
   go_ret
   exact ⟨congrArg (fun z => Ending.returned (Value.int .i64 z)) (idx_miss p l (fun j h => HA.out j h h)).symm, HB.out⟩
set_option maxRecDepth 100000 in
set_option maxHeartbeats 1600000 in
theorem contains_any (g : Nat) (lb : Array Value) (eg : ∀ args w, (callFunc g args).run Tryz.prog w = .ok (.enter g args) w) (p : T → Bool) (A : Option Addr) (c : Nat) (l : List T) (w : World)
  (hr : Kd.C k228 w A l.length l) (hg : Tells g lb p w l) :
  Calls Tryz.prog 155 #[.slice A l.length c, .func (.func g) #[] lb] w fun e w' => e = .returned (.bool (l.any p)) ∧ Below w.heap.size w w' := by
 have C := index_any g lb eg p A c l w hr hg
 rw [← idx_any]
 clear hr hg eg
 go_enter Tryz.func155, Tryz.ntmps155
 go_wp2_with fail
 refine C.mono ?_
 rintro e w1 ⟨rfl, hb⟩
 have HB := Aside0.mk hb
 clear hb C
 go_wp2
 go_ret
 exact ⟨rfl, HB.out⟩
end Go.Proofs.YtpccbmechgkogaaGreatDoor.IxI
namespace Go.Proofs.YtpccbmechgkogaaGreatDoor.IxP
open Go.RowKit Go.Proofs.YtpccbmechgkogaaGreatDoor.P Go.Proofs.YtpccbmechgkogaaGreatDoorW.PrintWords Go.Proofs.YtpccbmechgkogaaGreatDoor.IdxG
abbrev T := S119
def Tells (g : Nat) (lb : Array Value) (p : T → Bool) (w : World) (l : List T) : Prop :=
 ∀ (W : World) (x : T), x ∈ l → Below w.heap.size w W →
  Calls Tryz.prog g (#[.agg #[.int .i64 x.f0, .string x.f1]] ++ lb) W fun e w' => e = .returned (.bool (p x)) ∧ Below W.heap.size W w'
set_option maxRecDepth 100000 in
set_option maxHeartbeats 1600000 in
theorem index_any (g : Nat) (lb : Array Value) (eg : ∀ args w, (callFunc g args).run Tryz.prog w = .ok (.enter g args) w) (p : T → Bool) (A : Option Addr) (c : Nat) (l : List T) (w : World)
  (hr : Kd.C k119 w A l.length l) (hg : Tells g lb p w l) :
  Calls Tryz.prog 202 #[.slice A l.length c, .func (.func g) #[] lb] w (IdxPost w (idx p l)) := by
 have HR := Aside0.mk hr
 have HG := Aside0.mk hg
 have hm : l.length ≤ 9223372036854775807 := hr.2.1
 clear hr hg
 have hu := Tryz.underlying119
 go_enter Tryz.func202, Tryz.ntmps202
 go_wp2
 go_loopw [8] (fun i wr => ∃ k : Nat, k ≤ l.length ∧ i = .int .i64 k ∧ Aside0 (∀ j (h : j < l.length), j < k → p l[j] = false) ∧ Aside0 (Below w.heap.size w wr)) (fun i _ => l.length - (intOf i).toNat)
 case atStart => exact ⟨0, by omega, rfl, ⟨fun j _ h => absurd h (Nat.not_lt_zero _)⟩, ⟨Below.refl _ _⟩⟩
 case round =>
  obtain ⟨k, hk, rfl, HA, HB⟩ := hrel
  by_cases hlt : k < l.length
  ·obtain ⟨ad, e0, h0, h1⟩ := at_T119 (Kd.C_below HR.out HB.out) (k : Int) (by omega) (by omega)
   have hx : rd_T119 l (k : Int) = l[k] := by unfold rd_T119; rw [Int.toNat_natCast, List.getD_eq_getElem?_getD, List.getElem?_eq_getElem hlt]; rfl
   rw [hx] at h0 h1
   rw [Int.toNat_natCast] at h0 h1
   cases e0
   have hcall := HG.out wr l[k] (List.getElem_mem hlt) HB.out
   have HX := Aside0.mk hx
   clear hx
   generalize hq : p l[k] = q at hcall
   have HQ := Aside0.mk hq
   clear hq
   cases q with
   | true =>
    go_wp2_with fail
    refine hcall.mono ?_
    rintro e w2 ⟨rfl, hb'⟩
    have HB2 := Aside0.mk hb'
    clear hb'
    go_wp2
    go_ret
    exact ⟨congrArg (fun z => Ending.returned (Value.int .i64 z)) (idx_hit p l k hlt HQ.out HA.out).symm, below_step HB.out HB2.out⟩
   | false =>
    go_wp2_with fail
    refine hcall.mono ?_
    rintro e w2 ⟨rfl, hb'⟩
    have HB2 := Aside0.mk hb'
    clear hb'
    go_wp2
    refine ⟨⟨k + 1, by omega, by go_num, ⟨fun j h hj => ?_⟩, ⟨below_step HB.out HB2.out⟩⟩, by simp [intOf]; omega⟩
    by_cases e : j = k
    ·subst e; exact HQ.out
    ·exact HA.out j h (by omega)
  ·have hk2 : k = l.length := by omega
   subst hk2
   go_wp2
   go_ret
   exact ⟨congrArg (fun z => Ending.returned (Value.int .i64 z)) (idx_miss p l (fun j h => HA.out j h h)).symm, HB.out⟩
set_option maxRecDepth 100000 in
set_option maxHeartbeats 1600000 in
theorem contains_any (g : Nat) (lb : Array Value) (eg : ∀ args w, (callFunc g args).run Tryz.prog w = .ok (.enter g args) w) (p : T → Bool) (A : Option Addr) (c : Nat) (l : List T) (w : World)
  (hr : Kd.C k119 w A l.length l) (hg : Tells g lb p w l) :
  Calls Tryz.prog 186 #[.slice A l.length c, .func (.func g) #[] lb] w fun e w' => e = .returned (.bool (l.any p)) ∧ Below w.heap.size w w' := by
 have C := index_any g lb eg p A c l w hr hg
 rw [← idx_any]
 clear hr hg eg
 go_enter Tryz.func186, Tryz.ntmps186
 go_wp2_with fail
 refine C.mono ?_
 rintro e w1 ⟨rfl, hb⟩
 have HB := Aside0.mk hb
 clear hb C
 go_wp2
 go_ret
 exact ⟨rfl, HB.out⟩
end Go.Proofs.YtpccbmechgkogaaGreatDoor.IxP
