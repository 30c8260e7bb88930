/-
  Lemmas: RefF, Works.
-/
import Derived.Test.YtpccbmechgkogaaGreatDoorProg
import Derived.Test.YtpccbmechgkogaaGreatDoorV0
import Derived.Test.YtpccbmechgkogaaGreatDoorZ00
import Derived.Test.YtpccbmechgkogaaGreatDoorZ01
import Derived.Test.YtpccbmechgkogaaGreatDoorZ02
import Derived.Test.YtpccbmechgkogaaGreatDoorZ06
import Derived.Test.YtpccbmechgkogaaGreatDoorZ20
import Derived.Test.YtpccbmechgkogaaGreatDoorZ21
import Derived.Test.YtpccbmechgkogaaGreatDoorZ22
import Derived.Test.YtpccbmechgkogaaGreatDoorZ44
set_option linter.unusedVariables false
set_option linter.unusedSimpArgs false
namespace Go.Proofs.YtpccbmechgkogaaGreatDoor.RefF
open Go.RowKit Go.Proofs.YtpccbmechgkogaaGreatDoor.P Go.Proofs.YtpccbmechgkogaaGreatDoorW.PrintWords Go.Proofs.YtpccbmechgkogaaGreatDoorW.PrintLast Go.Proofs.YtpccbmechgkogaaGreatDoorW.PrintMore Go.Proofs.YtpccbmechgkogaaGreatDoor.PureKit Go.Proofs.YtpccbmechgkogaaGreatDoor.BkSpec Go.Proofs.YtpccbmechgkogaaGreatDoor.BkOk Go.Proofs.YtpccbmechgkogaaGreatDoor.DpChk
set_option maxRecDepth 100000 in
set_option maxHeartbeats 12800000 in
theorem may10 (now : Int) (A : Option Addr) (c : Nat) (l : List B) (w : World) (h : DepOk now l) (hr : Kd.C kB w A l.length l) :
  Calls Tryz.prog 6 #[.agg #[.int .i64 now, .slice A l.length c]] w fun e w' => e = .returned (.bool true) ∧ Below w.heap.size w w' := by
 have hu := Tryz.underlying25
 have hub := Tryz.underlying40
 have hue := Tryz.underlying79
 have huv := Tryz.underlying63
 have H := Aside0.mk h
 have HR := Aside0.mk (fun W (hW : Below w.heap.size w W) => Kd.C_below hr hW)
 have HBX := Aside0.mk (blk_new w (.cells #[.int .i64 now, .slice A l.length c] 25))
 have HB0 := Aside0.mk (below_alloc (Below.refl w.heap.size w) (.cells #[.int .i64 now, .slice A l.length c] 25))
 have d1 : decide (now < 0) = false := by rw [decide_eq_false_iff_not]; have := h.n0; omega
 have d2 : decide (now > 1099511627775) = false := by rw [decide_eq_false_iff_not]; have := h.n1; omega
 have d3 : decide ((l.length : Int) > 6) = false := by rw [decide_eq_false_iff_not]; have := h.len; omega
 have hz := fun j => blk_cell HBX.out j
 clear h hr
 go_enter Tryz.func6, Tryz.ntmps6
 go_wp2
 clear d1 d2 d3 hz
 go_loopw [3] (fun v22 wk => ∃ k : Nat, v22 = .int .i64 k ∧ k ≤ l.length ∧ Aside0 (wk.heap[w.heap.size]? = some (.cells #[.int .i64 now, .slice A l.length c] 25 (0, 0))) ∧ Aside0 (Below w.heap.size w wk)) (fun v22 _ => l.length - (intOf v22).toNat)
 case atStart => exact ⟨0, rfl, Nat.zero_le _, HBX, HB0⟩
 case round =>
  clear HBX HB0
  obtain ⟨k, rfl, hk, HBX, HB0⟩ := hrel
  rename World => wk
  have hz := fun j => blk_cell HBX.out j
  by_cases hlt : k < l.length
  ·have d4 : decide ((k : Int) < (l.length : Int)) = true := by rw [decide_eq_true_iff]; omega
   obtain ⟨ad, A2, c2, A3, c3, hA, x0, x1, x2, x3, x4, hc2, hr2, hc3, hr3⟩ := at_T40 (HR.out _ HB0.out) (k : Int) (by omega) (by omega)
   subst hA
   have hmem : rd_T40 l (k : Int) = l[k] := rd_here _ l k hlt
   rw [hmem] at x0 x1 x2 x3 x4 hr2 hr3 hc2 hc3
   rw [Int.toNat_natCast] at x0 x1 x2 x3 x4
   obtain ⟨x, hx⟩ : ∃ x, x = l[k] := ⟨_, rfl⟩
   rw [← hx] at x0 x1 x2 x3 x4 hr2 hr3 hc2 hc3
   have hok := H.out.ok x (by rw [hx]; exact List.getElem_mem hlt)
   have CK := Aside0.mk (fun (W : World) (hW : Below (wk.alloc (.cells #[.string x.f0, .int .i64 x.f1, .slice A2 x.f2.length c2, .slice A3 x.f3.length c3, .int .u64 x.f4] 40)).heap.size (wk.alloc (.cells #[.string x.f0, .int .i64 x.f1, .slice A2 x.f2.length c2, .slice A3 x.f3.length c3, .int .u64 x.f4] 40)) W) => RefE.may9 now x A2 c2 A3 c3 W hok (Kd.C_below hr2 (below_step (below_alloc (Below.refl _ _) _) hW)) (Kd.C_below hr3 (below_step (below_alloc (Below.refl _ _) _) hW)))
   have HVX := Aside0.mk hok.vs
   have HFX := Aside0.mk (RefE.few_of hok)
   have HR2 := Aside0.mk (fun (W : World) (hW : Below wk.heap.size wk W) => Kd.C_below hr2 hW)
   have j0 : (0 : Int) ≤ (k : Int) := by omega
   have j1 : (k : Int) < (l.length : Int) := by omega
   have HK := Aside0.mk hlt
   have KB := Aside0.mk (blk_new wk (.cells #[.string x.f0, .int .i64 x.f1, .slice A2 x.f2.length c2, .slice A3 x.f3.length c3, .int .u64 x.f4] 40))
   have HBN := Aside0.mk (below_alloc HB0.out (.cells #[.string x.f0, .int .i64 x.f1, .slice A2 x.f2.length c2, .slice A3 x.f3.length c3, .int .u64 x.f4] 40))
   have HBX2 := Aside0.mk (blk_alloc HBX.out (.cells #[.string x.f0, .int .i64 x.f1, .slice A2 x.f2.length c2, .slice A3 x.f3.length c3, .int .u64 x.f4] 40))
   have HS0 : Aside0 ((wk.alloc (.cells #[.string x.f0, .int .i64 x.f1, .slice A2 x.f2.length c2, .slice A3 x.f3.length c3, .int .u64 x.f4] 40)).cell? ⟨wk.heap.size, 0, none⟩ = some (.string x.f0)) := ⟨(blk_cell KB.out 0).trans rfl⟩
   have HS1 : Aside0 ((wk.alloc (.cells #[.string x.f0, .int .i64 x.f1, .slice A2 x.f2.length c2, .slice A3 x.f3.length c3, .int .u64 x.f4] 40)).cell? ⟨wk.heap.size, 1, none⟩ = some (.int .i64 x.f1)) := ⟨(blk_cell KB.out 1).trans rfl⟩
   have HS2 : Aside0 ((wk.alloc (.cells #[.string x.f0, .int .i64 x.f1, .slice A2 x.f2.length c2, .slice A3 x.f3.length c3, .int .u64 x.f4] 40)).cell? ⟨wk.heap.size, 2, none⟩ = some (.slice A2 x.f2.length c2)) := ⟨(blk_cell KB.out 2).trans rfl⟩
   have HS3 : Aside0 ((wk.alloc (.cells #[.string x.f0, .int .i64 x.f1, .slice A2 x.f2.length c2, .slice A3 x.f3.length c3, .int .u64 x.f4] 40)).cell? ⟨wk.heap.size, 3, none⟩ = some (.slice A3 x.f3.length c3)) := ⟨(blk_cell KB.out 3).trans rfl⟩
   have HS4 : Aside0 ((wk.alloc (.cells #[.string x.f0, .int .i64 x.f1, .slice A2 x.f2.length c2, .slice A3 x.f3.length c3, .int .u64 x.f4] 40)).cell? ⟨wk.heap.size, 4, none⟩ = some (.int .u64 x.f4)) := ⟨(blk_cell KB.out 4).trans rfl⟩
   have HS5 : Aside0 ((wk.alloc (.cells #[.string x.f0, .int .i64 x.f1, .slice A2 x.f2.length c2, .slice A3 x.f3.length c3, .int .u64 x.f4] 40)).cell? ⟨w.heap.size, 1, none⟩ = some (.slice (some ad) l.length c)) := ⟨(blk_cell HBX2.out 1).trans rfl⟩
   have HX := Aside0.mk (show ∃ h : k < l.length, x = l[k] from ⟨hlt, hx⟩)
   have hw2 : IntKind.i64.wrap ((k : Int) + 1) = ((k + 1 : Nat) : Int) := by rw [IntKind.wrap_i64]; have := H.out.len; omega
   obtain ⟨g0, hg0⟩ : ∃ g0, g0 = wk.heap.size := ⟨_, rfl⟩
   have HWR := Aside0.mk (show ∀ W, Below (wk.alloc (.cells #[.string x.f0, .int .i64 x.f1, .slice A2 x.f2.length c2, .slice A3 x.f3.length c3, .int .u64 x.f4] 40)).heap.size (wk.alloc (.cells #[.string x.f0, .int .i64 x.f1, .slice A2 x.f2.length c2, .slice A3 x.f3.length c3, .int .u64 x.f4] 40)) W → Below wk.heap.size wk W from fun W hW => below_step (below_alloc (Below.refl _ _) _) hW)
   clear hmem hx hok hr2 hr3 hc2 hc3 hk hg0 g0
   by_cases hk0 : k = 0
   ·have d5 : decide (0 < k) = false := by rw [decide_eq_false_iff_not]; omega
    clear hk0 hlt
    go_wp2_with fail
    refine start_ (n := 19) (S := fun w' => w'.cell? ⟨wk.heap.size, 0, none⟩ = some (.string x.f0) ∧ w'.cell? ⟨wk.heap.size, 1, none⟩ = some (.int .i64 x.f1) ∧ w'.cell? ⟨wk.heap.size, 2, none⟩ = some (.slice A2 x.f2.length c2) ∧ w'.cell? ⟨wk.heap.size, 3, none⟩ = some (.slice A3 x.f3.length c3) ∧ w'.cell? ⟨wk.heap.size, 4, none⟩ = some (.int .u64 x.f4) ∧ w'.cell? ⟨w.heap.size, 1, none⟩ = some (.slice (some ad) l.length c)) (ds := []) (bb 19 0) (by kernel_rfl) rfl rfl ⟨HS0.out, HS1.out, HS2.out, HS3.out, HS4.out, HS5.out⟩ (fun hHeld => ?_)
    refine ta 0 33 hHeld (h := on_ 1 34 (h := fun K hK => ?_))
    refine goes_ Tryz.func33 (by kernel_rfl) rfl #[.agg #[.string x.f0, .int .i64 x.f1, .slice A2 x.f2.length c2, .slice A3 x.f3.length c3, .int .u64 x.f4]] (by rfl) rfl rfl (by simp only [List.map_toArray, List.map_cons, List.map_nil]; rfl) ?_
    refine (CK.out _ (below_drew (Below.refl (wk.alloc (.cells #[.string x.f0, .int .i64 x.f1, .slice A2 x.f2.length c2, .slice A3 x.f3.length c3, .int .u64 x.f4] 40)).heap.size (wk.alloc (.cells #[.string x.f0, .int .i64 x.f1, .slice A2 x.f2.length c2, .slice A3 x.f3.length c3, .int .u64 x.f4] 40))))).mono ?_
    rintro e w3 ⟨rfl, hb⟩
    refine ⟨_, rfl, ?_⟩
    have HD3 := Aside0.mk (below_step (below_drew (Below.refl (wk.alloc (.cells #[.string x.f0, .int .i64 x.f1, .slice A2 x.f2.length c2, .slice A3 x.f3.length c3, .int .u64 x.f4] 40)).heap.size (wk.alloc (.cells #[.string x.f0, .int .i64 x.f1, .slice A2 x.f2.length c2, .slice A3 x.f3.length c3, .int .u64 x.f4] 40)))) hb)
    clear hb
    refine hK.out _ _ ⟨(pw_cell_below HD3.out HS0.out), (pw_cell_below HD3.out HS1.out), (pw_cell_below HD3.out HS2.out), (pw_cell_below HD3.out HS3.out), (pw_cell_below HD3.out HS4.out), (pw_cell_below HD3.out HS5.out)⟩ (fun hHeld => ?_)
    clear hK K
    refine nm (h := pu 2 35 (h := pu 3 36 (h := pu 4 37 (h := pu 5 38 (h := pu 6 39 (h := po 7 40 (h := po 8 41 (h := po 9 42 (h := po 10 43 (h := po 11 44 (h := po 12 45 (h := po 13 46 (h := po 14 47 (h := po 15 48 (h := po 16 49 (h := pu 17 50 (h := pu 18 51 (h := dn (h := ?_)))))))))))))))))))
    clear hHeld x0 x1 x2 x3 x4 d4 d5
    have BD4 := Aside0.mk (blk_below HBX2.out HD3.out)
    have BX4 := Aside0.mk (blk_below KB.out HD3.out)
    have HB4 := Aside0.mk (below_step HBN.out HD3.out)
    have HW4 := Aside0.mk (HWR.out _ HD3.out)
    clear HS0 HS1 HS2 HS3 HS4 HS5 CK hz HD3 KB HBN HBX2 HWR
    go_wp2
    go_loopw [5] (fun v wz => ∃ i : Nat, v = .int .i64 i ∧ i ≤ x.f2.length ∧ Aside0 (wz.heap[w.heap.size]? = some (.cells #[.int .i64 now, .slice (some ad) l.length c] 25 (0, 0))) ∧ Aside0 (wz.heap[wk.heap.size]? = some (.cells #[.string x.f0, .int .i64 x.f1, .slice A2 x.f2.length c2, .slice A3 x.f3.length c3, .int .u64 x.f4] 40 (0, 0))) ∧ Aside0 (Below w.heap.size w wz) ∧ Aside0 (Below wk.heap.size wk wz)) (fun v _ => x.f2.length - (intOf v).toNat)
    case atStart => exact ⟨0, rfl, Nat.zero_le _, BD4, BX4, HB4, HW4⟩
    case round =>
     clear BD4 BX4 HB4 HW4
     obtain ⟨i, rfl, hi, BD, BX, HB, HW⟩ := hrel
     have hz := fun j => blk_cell BX.out j
     by_cases hlt : i < x.f2.length
     ·have d4 : decide ((i : Int) < (x.f2.length : Int)) = true := by rw [decide_eq_true_iff]; omega
      have HL := Aside0.mk hlt
      have hw3 : IntKind.i64.wrap ((i : Int) + 1) = ((i + 1 : Nat) : Int) := by rw [IntKind.wrap_i64]; have := HFX.out.l; omega
      have i0 : (0 : Int) ≤ (i : Int) := by omega
      have i1 : (i : Int) < (x.f2.length : Int) := by omega
      have BD1 := BD
      have BX1 := BX
      have HB1 := HB
      have HW1 := HW
      clear hlt hi
      go_wp2
      clear hz d4
      go_loopw [6] (fun v wz => ∃ m : Nat, v = .int .i64 m ∧ m ≤ (x.f2[i]'HL.out).f1.length ∧ Aside0 (wz.heap[w.heap.size]? = some (.cells #[.int .i64 now, .slice (some ad) l.length c] 25 (0, 0))) ∧ Aside0 (wz.heap[wk.heap.size]? = some (.cells #[.string x.f0, .int .i64 x.f1, .slice A2 x.f2.length c2, .slice A3 x.f3.length c3, .int .u64 x.f4] 40 (0, 0))) ∧ Aside0 (Below w.heap.size w wz) ∧ Aside0 (Below wk.heap.size wk wz)) (fun v _ => (x.f2[i]'HL.out).f1.length - (intOf v).toNat)
      case atStart => exact ⟨0, rfl, Nat.zero_le _, BD1, BX1, HB1, HW1⟩
      case round =>
       clear BD BX HB HW BD1 BX1 HB1 HW1
       obtain ⟨m, rfl, hm, BD, BX, HB, HW⟩ := hrel
       have hz := fun j => blk_cell BX.out j
       have hy := fun j => blk_cell BD.out j
       obtain ⟨ad3, A1, c1, e0, h0, h1, hl1, hC⟩ := at_T79 (HR2.out _ HW.out) (i : Int) (by omega) (by omega)
       cases e0
       have hx : rd_T79 x.f2 (i : Int) = x.f2[i] := rd_here _ x.f2 i HL.out
       rw [hx] at h0 h1 hl1 hC
       rw [Int.toNat_natCast] at h0 h1
       have hvx := HVX.out _ (List.getElem_mem HL.out)
       have h60 := HFX.out.xs _ (List.getElem_mem HL.out)
       obtain ⟨y, hyy⟩ : ∃ y, y = x.f2[i] := ⟨_, rfl⟩
       simp only [← hyy] at h0 h1 hl1 hC hm hvx h60 ⊢
       have HYY := Aside0.mk hyy
       clear hx hyy
       by_cases hlt2 : m < y.f1.length
       ·obtain ⟨ad2, e1, -, -, -, y3⟩ := at_T63 hC (m : Int) (by omega) (by omega)
        cases e1
        have hq : rd_T63 y.f1 (m : Int) = y.f1[m] := rd_here _ y.f1 m hlt2
        rw [hq, Int.toNat_natCast] at y3
        have hv := (hvx _ (List.getElem_mem hlt2)).2.2.2
        obtain ⟨z, hzz⟩ : ∃ z, z = y.f1[m].f3 := ⟨_, rfl⟩
        rw [← hzz] at y3 hv
        have d5 : decide (z > now) = false := by rw [decide_eq_false_iff_not]; omega
        have e0 : (0 : Int) ≤ (m : Int) := by omega
        have e1 : (m : Int) < (y.f1.length : Int) := by omega
        have d6 : decide ((m : Int) < (y.f1.length : Int)) = true := by rw [decide_eq_true_iff]; omega
        have hw4 : IntKind.i64.wrap ((m : Int) + 1) = ((m + 1 : Nat) : Int) := by rw [IntKind.wrap_i64]; omega
        have HM := Aside0.mk hlt2
        clear hvx h60 hq hzz hlt2 hm hv
        go_wp2_with fail
        go_region
        go_wp2
        exact ⟨⟨m + 1, by go_num, by (try rw [← HYY.out]); have := HM.out; omega, (by first | exact BD | exact ⟨blk_below BD.out (below_drew (Below.refl _ _))⟩), (by first | exact BX | exact ⟨blk_below BX.out (below_drew (Below.refl _ _))⟩), (by first | exact HB | exact ⟨below_drew HB.out⟩), (by first | exact HW | exact ⟨below_drew HW.out⟩)⟩, by (try rw [← HYY.out]); simp [intOf]; have := HM.out; omega⟩
       ·have d5 : decide ((m : Int) < (y.f1.length : Int)) = false := by rw [decide_eq_false_iff_not]; omega
        have d5' : decide (m < y.f1.length) = false := decide_eq_false hlt2
        clear hvx h60 hm hlt2
        go_wp2
        exact ⟨⟨i + 1, by go_num, by have := HL.out; omega, BD, BX, HB, HW⟩, by simp [intOf]; have := HL.out; omega⟩
     ·have hk2 : i = x.f2.length := by omega
      subst hk2
      have d5 : decide ((x.f2.length : Int) < (x.f2.length : Int)) = false := by rw [decide_eq_false_iff_not]; omega
      clear hlt hi
      go_wp2
      exact ⟨⟨k + 1, by go_num, by have := HK.out; omega, BD, HB⟩, by simp [intOf]; have := HK.out; omega⟩
   ·have d5 : decide (0 < k) = true := by rw [decide_eq_true_iff]; omega
    obtain ⟨m, hm⟩ : ∃ m, k = m + 1 := ⟨k - 1, by omega⟩
    obtain ⟨ad', _, _, _, _, hA', y0, -⟩ := at_T40 (HR.out _ HB0.out) (m : Int) (by omega) (by omega)
    cases hA'
    have hmem : rd_T40 l (m : Int) = l[m] := rd_here _ l m (by omega)
    rw [hmem, Int.toNat_natCast] at y0
    obtain ⟨n0, hn0⟩ : ∃ n0, n0 = l[m].f0 := ⟨_, rfl⟩
    rw [← hn0] at y0
    have hless : Op.bytesLess n0.toList x.f0.toList = true := by
     have := List.pairwise_iff_getElem.1 H.out.rise m k (by omega) hlt (by omega)
     obtain ⟨_, hx⟩ := HX.out
     rwa [← hn0, ← hx] at this
    have HS6 : Aside0 ((wk.alloc (.cells #[.string x.f0, .int .i64 x.f1, .slice A2 x.f2.length c2, .slice A3 x.f3.length c3, .int .u64 x.f4] 40)).cell? (ad.add (m * 5)) = some (.string n0)) := ⟨pw_cell_below (below_alloc (Below.refl _ _) _) y0⟩
    have i0 : (0 : Int) ≤ (m : Int) := by omega
    have i1 : (m : Int) < (l.length : Int) := by omega
    have hw1 : IntKind.i64.wrap ((k : Int) - 1) = (m : Int) := by rw [IntKind.wrap_i64]; have := H.out.len; omega
    clear hk0 hlt hm hmem hn0 y0
    go_wp2_with fail
    refine start_ (n := 19) (S := fun w' => w'.cell? ⟨wk.heap.size, 0, none⟩ = some (.string x.f0) ∧ w'.cell? ⟨wk.heap.size, 1, none⟩ = some (.int .i64 x.f1) ∧ w'.cell? ⟨wk.heap.size, 2, none⟩ = some (.slice A2 x.f2.length c2) ∧ w'.cell? ⟨wk.heap.size, 3, none⟩ = some (.slice A3 x.f3.length c3) ∧ w'.cell? ⟨wk.heap.size, 4, none⟩ = some (.int .u64 x.f4) ∧ w'.cell? ⟨w.heap.size, 1, none⟩ = some (.slice (some ad) l.length c) ∧ w'.cell? (ad.add (m * 5)) = some (.string n0)) (ds := []) (bb 19 0) (by kernel_rfl) rfl rfl ⟨HS0.out, HS1.out, HS2.out, HS3.out, HS4.out, HS5.out, HS6.out⟩ (fun hHeld => ?_)
    refine ta 0 33 hHeld (h := on_ 1 34 (h := fun K hK => ?_))
    refine goes_ Tryz.func33 (by kernel_rfl) rfl #[.agg #[.string x.f0, .int .i64 x.f1, .slice A2 x.f2.length c2, .slice A3 x.f3.length c3, .int .u64 x.f4]] (by rfl) rfl rfl (by simp only [List.map_toArray, List.map_cons, List.map_nil]; rfl) ?_
    refine (CK.out _ (below_drew (Below.refl (wk.alloc (.cells #[.string x.f0, .int .i64 x.f1, .slice A2 x.f2.length c2, .slice A3 x.f3.length c3, .int .u64 x.f4] 40)).heap.size (wk.alloc (.cells #[.string x.f0, .int .i64 x.f1, .slice A2 x.f2.length c2, .slice A3 x.f3.length c3, .int .u64 x.f4] 40))))).mono ?_
    rintro e w3 ⟨rfl, hb⟩
    refine ⟨_, rfl, ?_⟩
    have HD3 := Aside0.mk (below_step (below_drew (Below.refl (wk.alloc (.cells #[.string x.f0, .int .i64 x.f1, .slice A2 x.f2.length c2, .slice A3 x.f3.length c3, .int .u64 x.f4] 40)).heap.size (wk.alloc (.cells #[.string x.f0, .int .i64 x.f1, .slice A2 x.f2.length c2, .slice A3 x.f3.length c3, .int .u64 x.f4] 40)))) hb)
    clear hb
    refine hK.out _ _ ⟨(pw_cell_below HD3.out HS0.out), (pw_cell_below HD3.out HS1.out), (pw_cell_below HD3.out HS2.out), (pw_cell_below HD3.out HS3.out), (pw_cell_below HD3.out HS4.out), (pw_cell_below HD3.out HS5.out), (pw_cell_below HD3.out HS6.out)⟩ (fun hHeld => ?_)
    clear hK K
    refine nm (h := pu 2 35 (h := pu 3 36 (h := pu 4 37 (h := pu 5 38 (h := pu 6 39 (h := pu 7 40 (h := pu 9 42 (h := pu 10 43 (h := pu 14 47 (h := ta 8 41 hHeld (h := pu 11 44 (h := pu 12 45 (h := ta 13 46 hHeld (h := ta 15 48 hHeld (h := pu 16 49 (h := pu 17 50 (h := pu 18 51 (h := dn (h := ?_)))))))))))))))))))
    clear hHeld x0 x1 x2 x3 x4 d4 d5 hless i0 i1 hw1
    clear HS6
    have BD4 := Aside0.mk (blk_below HBX2.out HD3.out)
    have BX4 := Aside0.mk (blk_below KB.out HD3.out)
    have HB4 := Aside0.mk (below_step HBN.out HD3.out)
    have HW4 := Aside0.mk (HWR.out _ HD3.out)
    clear HS0 HS1 HS2 HS3 HS4 HS5 CK hz HD3 KB HBN HBX2 HWR
    go_wp2
    go_loopw [5] (fun v wz => ∃ i : Nat, v = .int .i64 i ∧ i ≤ x.f2.length ∧ Aside0 (wz.heap[w.heap.size]? = some (.cells #[.int .i64 now, .slice (some ad) l.length c] 25 (0, 0))) ∧ Aside0 (wz.heap[wk.heap.size]? = some (.cells #[.string x.f0, .int .i64 x.f1, .slice A2 x.f2.length c2, .slice A3 x.f3.length c3, .int .u64 x.f4] 40 (0, 0))) ∧ Aside0 (Below w.heap.size w wz) ∧ Aside0 (Below wk.heap.size wk wz)) (fun v _ => x.f2.length - (intOf v).toNat)
    case atStart => exact ⟨0, rfl, Nat.zero_le _, BD4, BX4, HB4, HW4⟩
    case round =>
     clear BD4 BX4 HB4 HW4
     obtain ⟨i, rfl, hi, BD, BX, HB, HW⟩ := hrel
     have hz := fun j => blk_cell BX.out j
     by_cases hlt : i < x.f2.length
     ·have d4 : decide ((i : Int) < (x.f2.length : Int)) = true := by rw [decide_eq_true_iff]; omega
      have HL := Aside0.mk hlt
      have hw3 : IntKind.i64.wrap ((i : Int) + 1) = ((i + 1 : Nat) : Int) := by rw [IntKind.wrap_i64]; have := HFX.out.l; omega
      have i0 : (0 : Int) ≤ (i : Int) := by omega
      have i1 : (i : Int) < (x.f2.length : Int) := by omega
      have BD1 := BD
      have BX1 := BX
      have HB1 := HB
      have HW1 := HW
      clear hlt hi
      go_wp2
      clear hz d4
      go_loopw [6] (fun v wz => ∃ m : Nat, v = .int .i64 m ∧ m ≤ (x.f2[i]'HL.out).f1.length ∧ Aside0 (wz.heap[w.heap.size]? = some (.cells #[.int .i64 now, .slice (some ad) l.length c] 25 (0, 0))) ∧ Aside0 (wz.heap[wk.heap.size]? = some (.cells #[.string x.f0, .int .i64 x.f1, .slice A2 x.f2.length c2, .slice A3 x.f3.length c3, .int .u64 x.f4] 40 (0, 0))) ∧ Aside0 (Below w.heap.size w wz) ∧ Aside0 (Below wk.heap.size wk wz)) (fun v _ => (x.f2[i]'HL.out).f1.length - (intOf v).toNat)
      case atStart => exact ⟨0, rfl, Nat.zero_le _, BD1, BX1, HB1, HW1⟩
      case round =>
       clear BD BX HB HW BD1 BX1 HB1 HW1
       obtain ⟨m, rfl, hm, BD, BX, HB, HW⟩ := hrel
       have hz := fun j => blk_cell BX.out j
       have hy := fun j => blk_cell BD.out j
       obtain ⟨ad3, A1, c1, e0, h0, h1, hl1, hC⟩ := at_T79 (HR2.out _ HW.out) (i : Int) (by omega) (by omega)
       cases e0
       have hx : rd_T79 x.f2 (i : Int) = x.f2[i] := rd_here _ x.f2 i HL.out
       rw [hx] at h0 h1 hl1 hC
       rw [Int.toNat_natCast] at h0 h1
       have hvx := HVX.out _ (List.getElem_mem HL.out)
       have h60 := HFX.out.xs _ (List.getElem_mem HL.out)
       obtain ⟨y, hyy⟩ : ∃ y, y = x.f2[i] := ⟨_, rfl⟩
       simp only [← hyy] at h0 h1 hl1 hC hm hvx h60 ⊢
       have HYY := Aside0.mk hyy
       clear hx hyy
       by_cases hlt2 : m < y.f1.length
       ·obtain ⟨ad2, e1, -, -, -, y3⟩ := at_T63 hC (m : Int) (by omega) (by omega)
        cases e1
        have hq : rd_T63 y.f1 (m : Int) = y.f1[m] := rd_here _ y.f1 m hlt2
        rw [hq, Int.toNat_natCast] at y3
        have hv := (hvx _ (List.getElem_mem hlt2)).2.2.2
        obtain ⟨z, hzz⟩ : ∃ z, z = y.f1[m].f3 := ⟨_, rfl⟩
        rw [← hzz] at y3 hv
        have d5 : decide (z > now) = false := by rw [decide_eq_false_iff_not]; omega
        have e0 : (0 : Int) ≤ (m : Int) := by omega
        have e1 : (m : Int) < (y.f1.length : Int) := by omega
        have d6 : decide ((m : Int) < (y.f1.length : Int)) = true := by rw [decide_eq_true_iff]; omega
        have hw4 : IntKind.i64.wrap ((m : Int) + 1) = ((m + 1 : Nat) : Int) := by rw [IntKind.wrap_i64]; omega
        have HM := Aside0.mk hlt2
        clear hvx h60 hq hzz hlt2 hm hv
        go_wp2_with fail
        go_region
        go_wp2
        exact ⟨⟨m + 1, by go_num, by (try rw [← HYY.out]); have := HM.out; omega, (by first | exact BD | exact ⟨blk_below BD.out (below_drew (Below.refl _ _))⟩), (by first | exact BX | exact ⟨blk_below BX.out (below_drew (Below.refl _ _))⟩), (by first | exact HB | exact ⟨below_drew HB.out⟩), (by first | exact HW | exact ⟨below_drew HW.out⟩)⟩, by (try rw [← HYY.out]); simp [intOf]; have := HM.out; omega⟩
       ·have d5 : decide ((m : Int) < (y.f1.length : Int)) = false := by rw [decide_eq_false_iff_not]; omega
        have d5' : decide (m < y.f1.length) = false := decide_eq_false hlt2
        clear hvx h60 hm hlt2
        go_wp2
        exact ⟨⟨i + 1, by go_num, by have := HL.out; omega, BD, BX, HB, HW⟩, by simp [intOf]; have := HL.out; omega⟩
     ·have hk2 : i = x.f2.length := by omega
      subst hk2
      have d5 : decide ((x.f2.length : Int) < (x.f2.length : Int)) = false := by rw [decide_eq_false_iff_not]; omega
      clear hlt hi
      go_wp2
      exact ⟨⟨k + 1, by go_num, by have := HK.out; omega, BD, HB⟩, by simp [intOf]; have := HK.out; omega⟩
  ·have hk2 : k = l.length := by omega
   subst hk2
   clear hlt hk
   go_wp2
   go_ret
   exact ⟨rfl, HB0.out⟩
end Go.Proofs.YtpccbmechgkogaaGreatDoor.RefF
namespace Go.Proofs.YtpccbmechgkogaaGreatDoor.Works
open Go.RowKit Go.Proofs.YtpccbmechgkogaaGreatDoor.P Go.Proofs.YtpccbmechgkogaaGreatDoorW.PrintWords Go.Proofs.YtpccbmechgkogaaGreatDoor.PureKit
theorem place_any (n : Int) (w : World) (h0 : decide (0 ≤ n) = true) (h1 : decide (n ≤ 1099511627775) = true) : Calls Tryz.prog 171 #[.int .i64 n] w fun e w' => e = .returned (.bool true) ∧ w' = w := by
 go_enter Tryz.func171, Tryz.ntmps171
 go_wp2
 go_ret
 exact ⟨rfl, rfl⟩
abbrev sp : Value := .agg #[.int .i64 0, .int .i64 1, .bool false, .bool false]
abbrev so : Obj := .cells #[.int .i64 0, .int .i64 1, .bool false, .bool false] 58
set_option maxRecDepth 100000 in
theorem may_any (w : World) : Calls Tryz.prog 132 #[sp] w fun e w' => e = .returned (.bool true) ∧ Below w.heap.size w w' := by
 have hu := Tryz.underlying58
 have C := fun n W h0 h1 => Aside0.mk (place_any n W h0 h1)
 go_enter Tryz.func132, Tryz.ntmps132
 go_wp2_with fail
 refine (C 0 _ rfl rfl).out.mono ?_
 rintro e w1 ⟨rfl, rfl⟩
 go_wp2_with fail
 refine (C 1 _ rfl rfl).out.mono ?_
 rintro e w1 ⟨rfl, rfl⟩
 clear C
 go_wp2
 go_ret
 exact ⟨rfl, below_alloc (Below.refl _ _) _⟩
set_option maxRecDepth 100000 in
theorem of_any (w : World) : Calls Tryz.prog 82 #[sp, .int .i64 3] w fun e w' => e = .returned (.tuple #[.int .i64 0, .int .i64 2, .int .i64 0]) ∧ Below w.heap.size w w' := by
 have hu := Tryz.underlying58
 have C := fun W => Aside0.mk (may_any W)
 go_enter Tryz.func82, Tryz.ntmps82
 go_wp2_with fail
 refine (C _).out.mono ?_
 rintro e w1 ⟨rfl, hb⟩
 have hz := fun j => blk_cell (blk_below (blk_new w so) hb) j
 have HB := Aside0.mk (below_step (below_alloc (Below.refl w.heap.size w) so) hb)
 clear hb C
 go_wp2
 go_ret3
 exact ⟨rfl, HB.out⟩
set_option maxRecDepth 100000 in
theorem cut_any (w : World) : Calls Tryz.prog 40 #[sp, .string ⟨#[97, 98, 99]⟩] w fun e w' => e = .returned (.tuple #[.string ⟨#[97, 98]⟩, .int .i64 0]) ∧ Below w.heap.size w w' := by
 have hu := Tryz.underlying58
 have C := fun W => Aside0.mk (of_any W)
 go_enter Tryz.func40, Tryz.ntmps40
 go_wp2_with fail
 refine (C _).out.mono ?_
 rintro e w1 ⟨rfl, hb⟩
 have HB := Aside0.mk (below_step (below_alloc (Below.refl w.heap.size w) so) hb)
 clear hb C
 go_wp2
 go_ret2
 exact ⟨rfl, HB.out⟩
set_option maxRecDepth 100000 in
theorem works_any (w : World) : Calls Tryz.prog 9 #[] w fun e w' => e = .returned (.bool true) ∧ Below w.heap.size w w' := by
 have hu := Tryz.underlying58
 have C0 := Aside0.mk (cut_any w)
 have C1 := fun W => Aside0.mk (TagOf.of_any ⟨#[49, 50, 51, 52, 53, 54, 55, 56, 57]⟩ W (by decide))
 rw [show TagOf.tagOf ⟨#[49, 50, 51, 52, 53, 54, 55, 56, 57]⟩ = 3808858755 by kernel_rfl] at C1
 have C2 := fun W => Aside0.mk (NameW.bucket_any ⟨#[98, 111, 120]⟩ W)
 have C3 := fun W => Aside0.mk (NameW.bucket_any ⟨#[98]⟩ W)
 rw [show NameW.bucketB ⟨#[98, 111, 120]⟩ = true by kernel_rfl] at C2
 rw [show NameW.bucketB ⟨#[98]⟩ = false by kernel_rfl] at C3
 go_enter Tryz.func9, Tryz.ntmps9
 go_wp2_with fail
 refine C0.out.mono ?_
 rintro e w1 ⟨rfl, hb⟩
 have HB := Aside0.mk hb
 clear hb C0
 go_wp2_with fail
 refine (C1 _).out.mono ?_
 rintro e w2 ⟨rfl, hb⟩
 have HB2 := Aside0.mk (below_step HB.out hb)
 clear hb C1 HB
 go_wp2_with fail
 refine (C2 _).out.mono ?_
 rintro e w3 ⟨rfl, hb⟩
 have HB3 := Aside0.mk (below_step HB2.out hb)
 clear hb C2 HB2
 go_wp2_with fail
 refine (C3 _).out.mono ?_
 rintro e w4 ⟨rfl, hb⟩
 have HB4 := Aside0.mk (below_step HB3.out hb)
 clear hb C3 HB3
 go_wp2
 go_ret
 exact ⟨rfl, HB4.out⟩
end Go.Proofs.YtpccbmechgkogaaGreatDoor.Works
