/-
  Lemmas: ChkP, BkG, Open, IdxV.
-/
import Derived.BigRegion
import Derived.LoopTactic
import Derived.Test.YtpccbmechgkogaaGreatDoorProg
import Derived.Outline
import Derived.Test.YtpccbmechgkogaaGreatDoorV0
import Derived.Test.YtpccbmechgkogaaGreatDoorZ00
import Derived.Test.YtpccbmechgkogaaGreatDoorZ01
import Derived.Test.YtpccbmechgkogaaGreatDoorZ02
import Derived.Test.YtpccbmechgkogaaGreatDoorZ03
import Derived.Test.YtpccbmechgkogaaGreatDoorZ04
import Derived.Test.YtpccbmechgkogaaGreatDoorZ06
set_option linter.unusedVariables false
set_option linter.unusedSimpArgs false
namespace Go.Proofs.YtpccbmechgkogaaGreatDoor.ChkP
open Go.RowKit Go.Proofs.YtpccbmechgkogaaGreatDoor.P Go.Proofs.YtpccbmechgkogaaGreatDoorW.PrintWords Go.Proofs.YtpccbmechgkogaaGreatDoorW.PrintLast Go.Proofs.YtpccbmechgkogaaGreatDoorW.PrintMore Go.Proofs.YtpccbmechgkogaaGreatDoor.PureKit Go.Proofs.YtpccbmechgkogaaGreatDoor.BkSpec
theorem numbered_any (id : Int) (w : World) : Calls Tryz.prog 145 #[.int .u64 id] w fun e w' => e = .returned (.bool (decide (1 ≤ id) && decide (id ≤ 281474976710655))) ∧ Below w.heap.size w w' := by
 cases d1 : decide (1 ≤ id) <;> cases d2 : decide (id ≤ 281474976710655) <;>
 ·go_enter Tryz.func145, Tryz.ntmps145
  go_wp2
  go_ret
  exact ⟨rfl, Below.refl _ _⟩
set_option maxRecDepth 100000 in
theorem may_any (p : P) (w : World) : Calls Tryz.prog 148 #[.agg #[.int .i64 p.f0, .string p.f1]] w fun e w' => e = .returned (.bool (partB p)) ∧ Below w.heap.size w w' := by
 have hu := Tryz.underlying119
 unfold partB
 cases d1 : decide (1 ≤ p.f0) <;> cases d2 : decide (p.f0 ≤ 1000) <;> cases d3 : decide ((p.f1.size : Int) ≤ 2000) <;>
 ·go_enter Tryz.func148, Tryz.ntmps148
  go_wp2
  go_ret
  exact ⟨rfl, (Below.refl _ _).alloc (Nat.le_refl _) _⟩
set_option maxRecDepth 100000 in
set_option maxHeartbeats 6400000 in
theorem fine_any (u : U) (A : Option Addr) (c : Nat) (w : World) (hr : Kd.C k119 w A u.f2.length u.f2) (h : upB u = true) :
  Calls Tryz.prog 154 #[.agg #[.int .u64 u.f0, .string u.f1, .slice A u.f2.length c]] w fun e w' => e = .returned (.bool true) ∧ Below w.heap.size w w' := by
 unfold upB at h
 simp only [Bool.and_eq_true, decide_eq_true_eq, List.all_eq_true] at h
 obtain ⟨⟨⟨⟨⟨h1, h2⟩, h3⟩, hl⟩, hf⟩, h6⟩ := h
 have hp := next_rise (fun p : P => p.f0) h6
 have CN := Aside0.mk (fun W => numbered_any u.f0 W)
 rw [decide_eq_true h1, decide_eq_true h2] at CN
 have CK := Aside0.mk (fun (W : World) => name_Key.calls u.f1 true W (congrArg some h3))
 have hu2 := Tryz.underlying226
 clear h1 h2 h3 h6
 have HB0 := Aside0.mk (below_alloc (Below.refl w.heap.size w) (.cells #[.int .u64 u.f0, .string u.f1, .slice A u.f2.length c] 226))
 have HP := Aside0.mk hp
 have H20 := Aside0.mk hl
 have HF := Aside0.mk hf
 have HR := Aside0.mk (fun W (hW : Below w.heap.size w W) => Kd.C_below hr hW)
 have dl : decide ((u.f2.length : Int) > 30) = false := decide_eq_false (by omega)
 have hu := Tryz.underlying119
 clear hr hf hp hl
 go_enter Tryz.func154, Tryz.ntmps154
 go_wp2_with fail
 refine (CN.out _).mono ?_
 rintro e w1 ⟨rfl, hb⟩
 have HBX1 := Aside0.mk (blk_below (blk_new w (.cells #[.int .u64 u.f0, .string u.f1, .slice A u.f2.length c] 226)) hb)
 have HB1 := Aside0.mk (below_step HB0.out hb)
 clear hb CN
 have hz1 := (blk_cell HBX1.out 1).trans rfl
 go_wp2_with fail
 refine (CK.out _).mono ?_
 rintro e w2 ⟨rfl, hb⟩
 have HBX2 := Aside0.mk (blk_below HBX1.out hb)
 have HB2 := Aside0.mk (below_step HB1.out hb)
 clear hb CK hz1
 have hz2 := (blk_cell HBX2.out 2).trans rfl
 go_wp2
 clear hz2 HBX1 HB1
 go_loopw [24] (fun v wr => ∃ k : Nat, v = .int .i64 k ∧ k ≤ u.f2.length ∧ Aside0 (wr.heap[w.heap.size]? = some (.cells #[.int .u64 u.f0, .string u.f1, .slice A u.f2.length c] 226 (0, 0))) ∧ Aside0 (Below w.heap.size w wr)) (fun v _ => u.f2.length - (intOf v).toNat)
 case atStart => exact ⟨0, rfl, Nat.zero_le _, HBX2, HB2⟩
 case round =>
  clear HB2 HBX2 HB0
  obtain ⟨k, rfl, hk, HBX0, HB0⟩ := hrel
  by_cases hlt : k < u.f2.length
  ·have d4 : decide ((k : Int) < (u.f2.length : Int)) = true := decide_eq_true (by omega)
   obtain ⟨ad, hA, x0, x1⟩ := at_T119 (HR.out _ HB0.out) (k : Int) (by omega) (by omega)
   subst hA
   have hmem : rd_T119 u.f2 (k : Int) = u.f2[k] := rd_here _ u.f2 k hlt
   rw [hmem] at x0 x1
   rw [Int.toNat_natCast] at x0 x1
   obtain ⟨x, hx⟩ : ∃ x, x = u.f2[k] := ⟨_, rfl⟩
   rw [← hx] at x0 x1
   have hfx := HF.out x (by rw [hx]; exact List.getElem_mem hlt)
   have hbx := below_alloc (Below.refl wr.heap.size wr) (.cells #[.int .i64 x.f0, .string x.f1] 119)
   have HBX := Aside0.mk hbx
   have CC := Aside0.mk (fun (W : World) => may_any x W)
   rw [hfx] at CC
   have hl1 := 0
   have hC := 0
   have HX := Aside0.mk (show ∃ h : k < u.f2.length, x = u.f2[k] from ⟨hlt, hx⟩)
   have j0 : (0 : Int) ≤ (k : Int) := by omega
   have j1 : (k : Int) < (u.f2.length : Int) := by omega
   have hw2 : IntKind.i64.wrap ((k : Int) + 1) = ((k + 1 : Nat) : Int) := by rw [IntKind.wrap_i64]; have := H20.out; omega
   have HS0 := Aside0.mk (show (wr.alloc (.cells #[.int .i64 x.f0, .string x.f1] 119)).cell? ⟨wr.heap.size, 0, none⟩ = _ from (blk_cell (blk_new wr _) 0).trans rfl)
   have HS1 := Aside0.mk (show (wr.alloc (.cells #[.int .i64 x.f0, .string x.f1] 119)).cell? ⟨wr.heap.size, 1, none⟩ = _ from (blk_cell (blk_new wr _) 1).trans rfl)
   have HS2 := Aside0.mk (show (wr.alloc (.cells #[.int .i64 x.f0, .string x.f1] 119)).cell? ⟨w.heap.size, 2, none⟩ = some (.slice (some ad) u.f2.length c) from (blk_cell (blk_below HBX0.out hbx) 2).trans rfl)
   have HK := Aside0.mk hlt
   clear hmem hx hk hfx hl1 hC hbx
   by_cases hk0 : k = 0
   ·have d5 : decide (0 < k) = false := decide_eq_false (by omega)
    clear hk0 hlt
    go_wp2_with fail
    refine start_ (n := 19) (S := fun w' => w'.cell? ⟨wr.heap.size, 0, none⟩ = some (.int .i64 x.f0) ∧ w'.cell? ⟨wr.heap.size, 1, none⟩ = some (.string x.f1) ∧ w'.cell? ⟨w.heap.size, 2, none⟩ = some (.slice (some ad) u.f2.length c)) (ds := []) (bb 19 0) (by kernel_rfl) rfl rfl ⟨HS0.out, HS1.out, HS2.out⟩ (fun hHeld => ?_)
    refine ta 0 29 hHeld (h := on_ 1 30 (h := fun K hK => ?_))
    refine goes_ Tryz.func148 (by kernel_rfl) rfl #[.agg #[.int .i64 x.f0, .string x.f1]] (by rfl) rfl rfl (by (try simp only [List.map_toArray, List.map_cons, List.map_nil]); first | done | rfl) ?_
    refine (CC.out _).mono ?_
    rintro e w3 ⟨rfl, hb⟩
    refine ⟨_, rfl, ?_⟩
    have HD3 := Aside0.mk (below_step (below_drew (Below.refl _ _)) hb)
    clear hb
    refine hK.out _ _ ⟨(pw_cell_below HD3.out HS0.out), (pw_cell_below HD3.out HS1.out), (pw_cell_below HD3.out HS2.out)⟩ (fun hHeld => ?_)
    clear hK K
    refine nm (h := pu 2 31 (h := pu 3 32 (h := pu 4 33 (h := pu 5 34 (h := pu 6 35 (h := po 7 36 (h := po 8 37 (h := po 9 38 (h := po 10 39 (h := po 11 40 (h := po 12 41 (h := po 13 42 (h := po 14 43 (h := po 15 44 (h := po 16 45 (h := pu 17 46 (h := pu 18 47 (h := dn (h := ?_)))))))))))))))))))
    clear hHeld x0 x1 d4 d5
    go_wp2
    exact ⟨⟨k + 1, by go_num, by have := HK.out; omega, ⟨blk_below HBX0.out (below_step HBX.out HD3.out)⟩, ⟨below_step HB0.out (below_step HBX.out HD3.out)⟩⟩, by simp [intOf]; have := HK.out; omega⟩
   ·have d5 : decide (0 < k) = true := decide_eq_true (by omega)
    obtain ⟨m, hm⟩ : ∃ m, k = m + 1 := ⟨k - 1, by omega⟩
    obtain ⟨ad', hA', y0, -⟩ := at_T119 (HR.out _ HB0.out) (m : Int) (by omega) (by omega)
    cases hA'
    have hmem : rd_T119 u.f2 (m : Int) = u.f2[m] := rd_here _ u.f2 m (by omega)
    rw [hmem, Int.toNat_natCast] at y0
    obtain ⟨y, hy⟩ : ∃ y, y = u.f2[m].f0 := ⟨_, rfl⟩
    rw [← hy] at y0
    have d6 : decide (x.f0 ≤ y) = false := by
     obtain ⟨hq, hx⟩ := HX.out
     have := HP.out m k (by omega) hq (by omega)
     dsimp only at this
     rw [← hy, ← hx] at this
     rw [decide_eq_false_iff_not]; omega
    have i0 : (0 : Int) ≤ (m : Int) := by omega
    have i1 : (m : Int) < (u.f2.length : Int) := by omega
    have hw1 : IntKind.i64.wrap ((k : Int) - 1) = (m : Int) := by rw [IntKind.wrap_i64]; have := H20.out; omega
    have HSY := Aside0.mk (pw_cell_below HBX.out y0)
    clear hk0 hlt hm hmem hy y0
    go_wp2_with fail
    refine start_ (n := 19) (S := fun w' => w'.cell? ⟨wr.heap.size, 0, none⟩ = some (.int .i64 x.f0) ∧ w'.cell? ⟨wr.heap.size, 1, none⟩ = some (.string x.f1) ∧ w'.cell? ⟨w.heap.size, 2, none⟩ = some (.slice (some ad) u.f2.length c) ∧ w'.cell? (ad.add (m * 2)) = some (.int .i64 y)) (ds := []) (bb 19 0) (by kernel_rfl) rfl rfl ⟨HS0.out, HS1.out, HS2.out, HSY.out⟩ (fun hHeld => ?_)
    refine ta 0 29 hHeld (h := on_ 1 30 (h := fun K hK => ?_))
    refine goes_ Tryz.func148 (by kernel_rfl) rfl #[.agg #[.int .i64 x.f0, .string x.f1]] (by rfl) rfl rfl (by (try simp only [List.map_toArray, List.map_cons, List.map_nil]); first | done | rfl) ?_
    refine (CC.out _).mono ?_
    rintro e w3 ⟨rfl, hb⟩
    refine ⟨_, rfl, ?_⟩
    have HD3 := Aside0.mk (below_step (below_drew (Below.refl _ _)) hb)
    clear hb
    refine hK.out _ _ ⟨(pw_cell_below HD3.out HS0.out), (pw_cell_below HD3.out HS1.out), (pw_cell_below HD3.out HS2.out), (pw_cell_below HD3.out HSY.out)⟩ (fun hHeld => ?_)
    clear hK K
    refine nm (h := pu 2 31 (h := pu 3 32 (h := pu 4 33 (h := pu 5 34 (h := pu 6 35 (h := pu 7 36 (h := pu 9 38 (h := pu 10 39 (h := pu 14 43 (h := ta 8 37 hHeld (h := pu 11 40 (h := pu 12 41 (h := ta 13 42 hHeld (h := ta 15 44 hHeld (h := pu 16 45 (h := pu 17 46 (h := pu 18 47 (h := dn (h := ?_)))))))))))))))))))
    clear hHeld x0 x1 d4 d5 d6 i0 i1 hw1
    go_wp2
    exact ⟨⟨k + 1, by go_num, by have := HK.out; omega, ⟨blk_below HBX0.out (below_step HBX.out HD3.out)⟩, ⟨below_step HB0.out (below_step HBX.out HD3.out)⟩⟩, by simp [intOf]; have := HK.out; omega⟩
  ·have hk2 : k = u.f2.length := by omega
   subst hk2
   go_wp2
   go_ret
   exact ⟨rfl, HB0.out⟩
set_option maxRecDepth 100000 in
theorem fine_zero (A : Option Addr) (c : Nat) (w : World) : Calls Tryz.prog 154 #[.agg #[.int .u64 0, .string ⟨#[]⟩, .slice A 0 c]] w fun e w' => e = .returned (.bool false) ∧ Below w.heap.size w w' := by
 have hu := Tryz.underlying226
 have CN := fun W => Aside0.mk (numbered_any 0 W)
 go_enter Tryz.func154, Tryz.ntmps154
 go_wp2_with fail
 refine (CN _).out.mono ?_
 rintro e w1 ⟨rfl, hb⟩
 have HB := Aside0.mk (below_step ((Below.refl _ _).alloc (Nat.le_refl _) _) hb)
 clear hb CN
 go_wp2
 go_ret
 exact ⟨rfl, HB.out⟩
set_option maxRecDepth 100000 in
set_option maxHeartbeats 6400000 in
theorem check_any (A : Option Addr) (c : Nat) (l : List U) (w : World) (hr : Kd.C k131 w A l.length l) (h : partsB l = true) :
  Calls Tryz.prog 115 #[.slice A l.length c] w fun e w' => e = .returned (.int .i64 0) ∧ Below w.heap.size w w' := by
 unfold partsB at h
 simp only [Bool.and_eq_true, decide_eq_true_eq, List.all_eq_true] at h
 obtain ⟨⟨hl, hf⟩, h6⟩ := h
 have hp := next_rise (fun p : U => p.f0) h6
 clear h6
 have HB0 := Aside0.mk (Below.refl w.heap.size w)
 have HP := Aside0.mk hp
 have H20 := Aside0.mk hl
 have HF := Aside0.mk hf
 have HR := Aside0.mk (fun W (hW : Below w.heap.size w W) => Kd.C_below hr hW)
 have dl : decide ((l.length : Int) > 10) = false := decide_eq_false (by omega)
 have hu := Tryz.underlying131
 clear hr hf hp hl
 go_enter Tryz.func115, Tryz.ntmps115
 go_wp2
 go_loopw [10] (fun v wr => ∃ k : Nat, v = .int .i64 k ∧ k ≤ l.length ∧ Aside0 (Below w.heap.size w wr)) (fun v _ => l.length - (intOf v).toNat)
 case atStart => exact ⟨0, rfl, Nat.zero_le _, HB0⟩
 case round =>
  clear HB0
  obtain ⟨k, rfl, hk, HB0⟩ := hrel
  by_cases hlt : k < l.length
  ·have d4 : decide ((k : Int) < (l.length : Int)) = true := decide_eq_true (by omega)
   obtain ⟨ad, A2, c2, hA, x0, x1, x2, hl1, hC⟩ := at_T131 (HR.out _ HB0.out) (k : Int) (by omega) (by omega)
   subst hA
   have hmem : rd_T131 l (k : Int) = l[k] := rd_here _ l k hlt
   rw [hmem] at x0 x1 x2 hl1 hC
   rw [Int.toNat_natCast] at x0 x1 x2
   obtain ⟨x, hx⟩ : ∃ x, x = l[k] := ⟨_, rfl⟩
   rw [← hx] at x0 x1 x2 hl1 hC
   have hfx := HF.out x (by rw [hx]; exact List.getElem_mem hlt)
   have hbx := below_alloc (Below.refl wr.heap.size wr) (.cells #[.int .u64 x.f0, .string x.f1, .slice A2 x.f2.length c2] 131)
   have HBX := Aside0.mk hbx
   have CC := Aside0.mk (fun (W : World) (hW : Below (wr.alloc (.cells #[.int .u64 x.f0, .string x.f1, .slice A2 x.f2.length c2] 131)).heap.size (wr.alloc (.cells #[.int .u64 x.f0, .string x.f1, .slice A2 x.f2.length c2] 131)) W) => fine_any x A2 c2 W (Kd.C_below hC (below_step hbx hW)) hfx)
   have HX := Aside0.mk (show ∃ h : k < l.length, x = l[k] from ⟨hlt, hx⟩)
   have j0 : (0 : Int) ≤ (k : Int) := by omega
   have j1 : (k : Int) < (l.length : Int) := by omega
   have hw2 : IntKind.i64.wrap ((k : Int) + 1) = ((k + 1 : Nat) : Int) := by rw [IntKind.wrap_i64]; have := H20.out; omega
   have HS0 := Aside0.mk (show (wr.alloc (.cells #[.int .u64 x.f0, .string x.f1, .slice A2 x.f2.length c2] 131)).cell? ⟨wr.heap.size, 0, none⟩ = _ from (blk_cell (blk_new wr _) 0).trans rfl)
   have HS1 := Aside0.mk (show (wr.alloc (.cells #[.int .u64 x.f0, .string x.f1, .slice A2 x.f2.length c2] 131)).cell? ⟨wr.heap.size, 1, none⟩ = _ from (blk_cell (blk_new wr _) 1).trans rfl)
   have HS2 := Aside0.mk (show (wr.alloc (.cells #[.int .u64 x.f0, .string x.f1, .slice A2 x.f2.length c2] 131)).cell? ⟨wr.heap.size, 2, none⟩ = _ from (blk_cell (blk_new wr _) 2).trans rfl)
   have HK := Aside0.mk hlt
   clear hmem hx hk hfx hl1 hC hbx
   by_cases hk0 : k = 0
   ·have d5 : decide (0 < k) = false := decide_eq_false (by omega)
    clear hk0 hlt
    go_wp2_with fail
    refine start_ (n := 18) (S := fun w' => w'.cell? ⟨wr.heap.size, 0, none⟩ = some (.int .u64 x.f0) ∧ w'.cell? ⟨wr.heap.size, 1, none⟩ = some (.string x.f1) ∧ w'.cell? ⟨wr.heap.size, 2, none⟩ = some (.slice A2 x.f2.length c2)) (ds := []) (bb 18 0) (by kernel_rfl) rfl rfl ⟨HS0.out, HS1.out, HS2.out⟩ (fun hHeld => ?_)
    refine ta 0 15 hHeld (h := on_ 1 16 (h := fun K hK => ?_))
    refine goes_ Tryz.func154 (by kernel_rfl) rfl #[.agg #[.int .u64 x.f0, .string x.f1, .slice A2 x.f2.length c2]] (by rfl) rfl rfl (by (try simp only [List.map_toArray, List.map_cons, List.map_nil]); first | done | rfl) ?_
    refine (CC.out _ (below_drew (Below.refl _ _))).mono ?_
    rintro e w3 ⟨rfl, hb⟩
    refine ⟨_, rfl, ?_⟩
    have HD3 := Aside0.mk (below_step (below_drew (Below.refl _ _)) hb)
    clear hb
    refine hK.out _ _ ⟨(pw_cell_below HD3.out HS0.out), (pw_cell_below HD3.out HS1.out), (pw_cell_below HD3.out HS2.out)⟩ (fun hHeld => ?_)
    clear hK K
    refine nm (h := pu 2 17 (h := pu 3 18 (h := pu 4 19 (h := pu 5 20 (h := pu 6 21 (h := po 7 22 (h := po 8 23 (h := po 9 24 (h := po 10 25 (h := po 11 26 (h := po 12 27 (h := po 13 28 (h := po 14 29 (h := po 15 30 (h := pu 16 31 (h := pu 17 32 (h := dn (h := ?_))))))))))))))))))
    clear hHeld x0 x1 x2 d4 d5
    go_wp2
    exact ⟨⟨k + 1, by go_num, by have := HK.out; omega, ⟨below_step HB0.out (below_step HBX.out HD3.out)⟩⟩, by simp [intOf]; have := HK.out; omega⟩
   ·have d5 : decide (0 < k) = true := decide_eq_true (by omega)
    obtain ⟨m, hm⟩ : ∃ m, k = m + 1 := ⟨k - 1, by omega⟩
    obtain ⟨ad', _, _, hA', y0, -⟩ := at_T131 (HR.out _ HB0.out) (m : Int) (by omega) (by omega)
    cases hA'
    have hmem : rd_T131 l (m : Int) = l[m] := rd_here _ l m (by omega)
    rw [hmem, Int.toNat_natCast] at y0
    obtain ⟨y, hy⟩ : ∃ y, y = l[m].f0 := ⟨_, rfl⟩
    rw [← hy] at y0
    have d6 : decide (x.f0 ≤ y) = false := by
     obtain ⟨hq, hx⟩ := HX.out
     have := HP.out m k (by omega) hq (by omega)
     dsimp only at this
     rw [← hy, ← hx] at this
     rw [decide_eq_false_iff_not]; omega
    have i0 : (0 : Int) ≤ (m : Int) := by omega
    have i1 : (m : Int) < (l.length : Int) := by omega
    have hw1 : IntKind.i64.wrap ((k : Int) - 1) = (m : Int) := by rw [IntKind.wrap_i64]; have := H20.out; omega
    have HSY := Aside0.mk (pw_cell_below HBX.out y0)
    clear hk0 hlt hm hmem hy y0
    go_wp2_with fail
    refine start_ (n := 18) (S := fun w' => w'.cell? ⟨wr.heap.size, 0, none⟩ = some (.int .u64 x.f0) ∧ w'.cell? ⟨wr.heap.size, 1, none⟩ = some (.string x.f1) ∧ w'.cell? ⟨wr.heap.size, 2, none⟩ = some (.slice A2 x.f2.length c2) ∧ w'.cell? (ad.add (m * 3)) = some (.int .u64 y)) (ds := []) (bb 18 0) (by kernel_rfl) rfl rfl ⟨HS0.out, HS1.out, HS2.out, HSY.out⟩ (fun hHeld => ?_)
    refine ta 0 15 hHeld (h := on_ 1 16 (h := fun K hK => ?_))
    refine goes_ Tryz.func154 (by kernel_rfl) rfl #[.agg #[.int .u64 x.f0, .string x.f1, .slice A2 x.f2.length c2]] (by rfl) rfl rfl (by (try simp only [List.map_toArray, List.map_cons, List.map_nil]); first | done | rfl) ?_
    refine (CC.out _ (below_drew (Below.refl _ _))).mono ?_
    rintro e w3 ⟨rfl, hb⟩
    refine ⟨_, rfl, ?_⟩
    have HD3 := Aside0.mk (below_step (below_drew (Below.refl _ _)) hb)
    clear hb
    refine hK.out _ _ ⟨(pw_cell_below HD3.out HS0.out), (pw_cell_below HD3.out HS1.out), (pw_cell_below HD3.out HS2.out), (pw_cell_below HD3.out HSY.out)⟩ (fun hHeld => ?_)
    clear hK K
    refine nm (h := pu 2 17 (h := pu 3 18 (h := pu 4 19 (h := pu 5 20 (h := pu 6 21 (h := pu 7 22 (h := pu 8 23 (h := pu 9 24 (h := pu 10 25 (h := pu 11 26 (h := pu 13 28 (h := ta 12 27 hHeld (h := ta 14 29 hHeld (h := pu 15 30 (h := pu 16 31 (h := pu 17 32 (h := dn (h := ?_))))))))))))))))))
    clear hHeld x0 x1 x2 d4 d5 d6 i0 i1 hw1
    go_wp2
    exact ⟨⟨k + 1, by go_num, by have := HK.out; omega, ⟨below_step HB0.out (below_step HBX.out HD3.out)⟩⟩, by simp [intOf]; have := HK.out; omega⟩
  ·have hk2 : k = l.length := by omega
   subst hk2
   go_wp2
   go_ret
   exact ⟨rfl, HB0.out⟩
end Go.Proofs.YtpccbmechgkogaaGreatDoor.ChkP
namespace Go.Proofs.YtpccbmechgkogaaGreatDoor.BkG
open Go.RowKit Go.Proofs.YtpccbmechgkogaaGreatDoor.P Go.Proofs.YtpccbmechgkogaaGreatDoorW.PrintWords Go.Proofs.YtpccbmechgkogaaGreatDoorW.PrintLast Go.Proofs.YtpccbmechgkogaaGreatDoorW.PrintMore Go.Proofs.YtpccbmechgkogaaGreatDoor.PureKit Go.Proofs.YtpccbmechgkogaaGreatDoor.BkSpec Go.Proofs.YtpccbmechgkogaaGreatDoor.BkChk
theorem check_any (bk : B) (A2 : Option Addr) (c2 : Nat) (A3 : Option Addr) (c3 : Nat) (w : World) (h : bucketB bk = true) (hr2 : Kd.C k79 w A2 bk.f2.length bk.f2) (hc2 : bk.f2.length ≤ c2) (hr3 : Kd.C k131 w A3 bk.f3.length bk.f3) (hc3 : bk.f3.length ≤ c3) :
  Calls Tryz.prog 67 #[.agg #[.string bk.f0, .int .i64 bk.f1, .slice A2 bk.f2.length c2, .slice A3 bk.f3.length c3, .int .u64 bk.f4]] w fun e w' => e = .returned (.int .i64 0) ∧ Below w.heap.size w w' := by
 have hF := facts h
 unfold bucketB at h
 simp only [Bool.and_eq_true, decide_eq_true_eq] at h
 have hI : IdxSpec.indexB bk.f2 = true := h.1.1.1.1.2
 have hP : partsB bk.f3 = true := h.1.1.1.2
 have hO := h.1.1.2
 exact check_ok bk A2 c2 A3 c3 _ w hF hr2 hr3 (fun W hW => ChkI.check_any A2 c2 bk.f2 W (Kd.C_below hr2 hW) hI) (fun W hW => ChkP.check_any A3 c3 bk.f3 W (Kd.C_below hr3 hW) hP)
  (fun W hW => Cnt.bucket_any bk A2 c2 A3 c3 W hI hP (Kd.C_below hr2 hW) (Kd.C_below hr3 hW)) (decide_eq_true hO)
end Go.Proofs.YtpccbmechgkogaaGreatDoor.BkG
namespace Go.Proofs.YtpccbmechgkogaaGreatDoor.Open
open Go.RowKit Go.Proofs.YtpccbmechgkogaaGreatDoor.P Go.Proofs.YtpccbmechgkogaaGreatDoorW.PrintWords Go.Proofs.YtpccbmechgkogaaGreatDoor.PureKit Go.Proofs.YtpccbmechgkogaaGreatDoor.BkSpec Go.Proofs.YtpccbmechgkogaaGreatDoor.Wk
def openE (key : ByteArray) : Int := if Name.keyB key = true then 0 else 1
def Opened (w : World) (ok : Nat → Prop) (b : B) (v2 v3 : Value) (key : ByteArray) (en : Ending) (w' : World) : Prop :=
 ∃ g, en = .returned (.pointer (some ⟨g, 0, none⟩)) ∧ w.heap.size ≤ g ∧ At w' g (fun k => ok k ∧ k < w.heap.size) b v2 v3 (openE key) ∧ Below w.heap.size w w'
set_option maxRecDepth 100000 in
set_option maxHeartbeats 3200000 in
theorem open_any (w : World) (ok : Nat → Prop) (b : B) (v2 v3 : Value) (key : ByteArray) (h : Sl w ok b v2 v3) (hb : bucketB b = true) :
  Calls Tryz.prog 102 #[.agg #[.string b.f0, .int .i64 b.f1, v2, v3, .int .u64 b.f4], .string key] w (Opened w ok b v2 v3 key) := by
 have HS := Aside0.mk h.bound
 obtain ⟨⟨A2, c2, rfl, hc2, hF2⟩, ⟨A3, c3, rfl, hc3, hF3⟩⟩ := h
 have hu := Tryz.underlying40
 have huw := Tryz.underlying181
 have CK := fun (W : World) (hW : Below w.heap.size w W) => BkG.check_any b A2 c2 A3 c3 W hb (Kd.C_below (Kd.F_now hF2) hW) hc2 (Kd.C_below (Kd.F_now hF3) hW) hc3
 have KY := fun (W : World) => Name.key_any key W
 have HCK := Aside0.mk CK
 have HKY := Aside0.mk KY
 clear CK KY hF2 hF3 hc2 hc3 hb
 go_enter Tryz.func102, Tryz.ntmps102
 go_wp2_with fail
 refine (HCK.out _ (below_alloc (below_alloc (Below.refl _ _) _) _)).mono ?_
 rintro e w1 ⟨rfl, hb1⟩
 have BK := Aside0.mk (blk_below (blk_push w (.cells #[.string b.f0, .int .i64 b.f1, .slice A2 b.f2.length c2, .slice A3 b.f3.length c3, .int .u64 b.f4] 40) (.cells #[.string b.f0, .int .i64 b.f1, .slice A2 b.f2.length c2, .slice A3 b.f3.length c3, .int .u64 b.f4, .int .i64 0] 181)) hb1)
 have HB := Aside0.mk (below_step (below_alloc (below_alloc (Below.refl w.heap.size w) _) _) hb1)
 clear hb1 HCK
 go_wp2_with fail
 refine (HKY.out _).mono ?_
 rintro e w2 ⟨rfl, hb2⟩
 have AT : Aside0 (At w2 (w.heap.size + 1) (fun k => ok k ∧ k < w.heap.size) b (.slice A2 b.f2.length c2) (.slice A3 b.f3.length c3) 0) := ⟨⟨blk_below BK.out hb2, HS.out.below (below_step HB.out hb2), fun k hk => by omega⟩⟩
 have HB2 := Aside0.mk (below_step HB.out hb2)
 clear hb2 HKY BK HS HB
 have hz := fun j => blk_cell AT.out.blk j
 have hf := fun j => blk_frozen AT.out.blk j
 cases hk : Name.keyB key with
 | true =>
  have HE : Aside0 (openE key = 0) := ⟨by unfold openE; rw [hk]; rfl⟩
  clear hk
  go_wp2
  (first | go_end0 | ((try simp only [Exit.inBlock, Exit.then]); refine bodyPost_ret (results_none rfl _ _ _) rfl ?_))
  go_wp2
  go_ret
  exact ⟨_, rfl, by omega, by rw [HE.out]; exact AT.out, HB2.out⟩
 | false =>
  have HE : Aside0 (openE key = 1) := ⟨by unfold openE; rw [hk]; rfl⟩
  clear hk
  go_wp2
  (first | go_end0 | ((try simp only [Exit.inBlock, Exit.then]); refine bodyPost_ret (results_none rfl _ _ _) rfl ?_))
  go_wp2
  go_ret
  exact ⟨_, rfl, by omega, by rw [HE.out]; exact AT.out.setE 1, below_set HB2.out (by omega)⟩
end Go.Proofs.YtpccbmechgkogaaGreatDoor.Open
namespace Go.Proofs.YtpccbmechgkogaaGreatDoor.IdxV
open Go.RowKit Go.Proofs.YtpccbmechgkogaaGreatDoor.P Go.Proofs.YtpccbmechgkogaaGreatDoorW.PrintWords
def ver (x : S63) : Value := .agg #[.int .u64 x.f0, .string x.f1, .bool x.f2, .int .i64 x.f3]
def Tells (g : Nat) (lb : Array Value) (p : S63 → Bool) (w : World) (l : List S63) : Prop :=
 ∀ (W : World) (x : S63), x ∈ l → Below w.heap.size w W → Calls Tryz.prog g (#[ver x] ++ lb) W fun e w' => e = .returned (.bool (p x)) ∧ Below W.heap.size W w'
def idx (p : S63 → Bool) (l : List S63) : Int := match l.findIdx? p with
 | some i => (i : Int)
 | none => -1
theorem idx_any (p : S63 → Bool) (l : List S63) : decide (idx p l ≥ 0) = l.any p := by
 unfold idx
 cases h : l.findIdx? p with
 | none =>
  rw [List.findIdx?_eq_none_iff] at h
  have : l.any p = false := by
   rw [List.any_eq_false]
   intro x hx
   simpa using h x hx
  rw [this]
  decide
 | some i =>
  have := List.findIdx?_eq_some_iff_getElem.1 h
  obtain ⟨hi, hp, _⟩ := this
  have : l.any p = true := List.any_eq_true.2 ⟨_, List.getElem_mem hi, hp⟩
  rw [this]
  simp
theorem idx_hit (p : S63 → Bool) (l : List S63) (k : Nat) (hk : k < l.length) (hp : p l[k] = true) (hn : ∀ j (h : j < l.length), j < k → p l[j] = false) : idx p l = (k : Int) := by
 unfold idx
 have : l.findIdx? p = some k := List.findIdx?_eq_some_iff_getElem.2 ⟨hk, hp, fun j hj => by simpa using hn j (by omega) hj⟩
 rw [this]
theorem idx_miss (p : S63 → Bool) (l : List S63) (hn : ∀ j (h : j < l.length), p l[j] = false) : idx p l = -1 := by
 unfold idx
 have : l.findIdx? p = none := by
  rw [List.findIdx?_eq_none_iff]
  intro x hx
  obtain ⟨j, hj, rfl⟩ := List.getElem_of_mem hx
  exact hn j hj
 rw [this]
def IdxPost (w : World) (r : Int) (e : Ending) (w' : World) : Prop := e = .returned (.int .i64 r) ∧ Below w.heap.size w w'
set_option maxRecDepth 100000 in
set_option maxHeartbeats 1600000 in
theorem index_any (g : Nat) (lb : Array Value) (eg : ∀ args w, (callFunc g args).run Tryz.prog w = .ok (.enter g args) w) (p : S63 → Bool) (A : Option Addr) (c : Nat) (l : List S63) (w : World)
  (hr : Kd.C k63 w A l.length l) (hg : Tells g lb p w l) :
  Calls Tryz.prog 163 #[.slice A l.length c, .func (.func g) #[] lb] w (IdxPost w (idx p l)) := by
 have HR := Aside0.mk hr
 have HG := Aside0.mk hg
 have hm : l.length ≤ 9223372036854775807 := hr.2.1
 clear hr hg
 have hu := Tryz.underlying63
 go_enter Tryz.func163, Tryz.ntmps163
 go_wp2
 go_loopw [8] (fun i wr => ∃ k : Nat, k ≤ l.length ∧ i = .int .i64 k ∧ Aside0 (∀ j (h : j < l.length), j < k → p l[j] = false) ∧ Aside0 (Below w.heap.size w wr)) (fun i _ => l.length - (intOf i).toNat)
 case atStart => exact ⟨0, by omega, rfl, ⟨fun j _ h => absurd h (Nat.not_lt_zero _)⟩, ⟨Below.refl _ _⟩⟩
 case round =>
  obtain ⟨k, hk, rfl, HA, HB⟩ := hrel
  by_cases hlt : k < l.length
  ·obtain ⟨ad, e0, h0, h1, h2, h3⟩ := at_T63 (Kd.C_below HR.out HB.out) (k : Int) (by omega) (by omega)
   have hx : rd_T63 l (k : Int) = l[k] := by unfold rd_T63; rw [Int.toNat_natCast, List.getD_eq_getElem?_getD, List.getElem?_eq_getElem hlt]; rfl
   rw [hx] at h0 h1 h2 h3
   rw [Int.toNat_natCast] at h0 h1 h2 h3
   cases e0
   have hcall := HG.out wr l[k] (List.getElem_mem hlt) HB.out
   have HX := Aside0.mk hx
   clear hx
   generalize hq : p l[k] = q at hcall
   have HQ := Aside0.mk hq
   clear hq
   cases q with
   | true =>
    go_wp2_with fail
    refine hcall.mono ?_
    rintro e w2 ⟨rfl, hb'⟩
    have HB2 := Aside0.mk hb'
    clear hb'
    go_wp2
    go_ret
    exact ⟨congrArg (fun z => Ending.returned (Value.int .i64 z)) (idx_hit p l k hlt HQ.out HA.out).symm, below_step HB.out HB2.out⟩
   | false =>
    go_wp2_with fail
    refine hcall.mono ?_
    rintro e w2 ⟨rfl, hb'⟩
    have HB2 := Aside0.mk hb'
    clear hb'
    go_wp2
    refine ⟨⟨k + 1, by omega, by go_num, ⟨fun j h hj => ?_⟩, ⟨below_step HB.out HB2.out⟩⟩, by simp [intOf]; omega⟩
    by_cases e : j = k
    ·subst e; exact HQ.out
    ·exact HA.out j h (by omega)
  ·have hk2 : k = l.length := by omega
   subst hk2
   go_wp2
   go_ret
   exact ⟨congrArg (fun z => Ending.returned (Value.int .i64 z)) (idx_miss p l (fun j h => HA.out j h h)).symm, HB.out⟩
set_option maxRecDepth 100000 in
set_option maxHeartbeats 1600000 in
theorem contains_any (g : Nat) (lb : Array Value) (eg : ∀ args w, (callFunc g args).run Tryz.prog w = .ok (.enter g args) w) (p : S63 → Bool) (A : Option Addr) (c : Nat) (l : List S63) (w : World)
  (hr : Kd.C k63 w A l.length l) (hg : Tells g lb p w l) :
  Calls Tryz.prog 118 #[.slice A l.length c, .func (.func g) #[] lb] w fun e w' => e = .returned (.bool (l.any p)) ∧ Below w.heap.size w w' := by
 have C := index_any g lb eg p A c l w hr hg
 rw [← idx_any]
 clear hr hg eg
 go_enter Tryz.func118, Tryz.ntmps118
 go_wp2_with fail
 refine C.mono ?_
 rintro e w1 ⟨rfl, hb⟩
 have HB := Aside0.mk hb
 clear hb C
 go_wp2
 go_ret
 exact ⟨rfl, HB.out⟩
end Go.Proofs.YtpccbmechgkogaaGreatDoor.IdxV
