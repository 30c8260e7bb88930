/-
  Lemmas: RefD.
-/
import Derived.BigRegion
import Derived.LoopTactic
import Derived.Test.YtpccbmechgkogaaGreatDoorProg
import Derived.Test.YtpccbmechgkogaaGreatDoorV0
import Derived.Test.YtpccbmechgkogaaGreatDoorZ00
import Derived.Test.YtpccbmechgkogaaGreatDoorZ01
import Derived.Test.YtpccbmechgkogaaGreatDoorZ02
import Derived.Test.YtpccbmechgkogaaGreatDoorZ06
import Derived.Test.YtpccbmechgkogaaGreatDoorZ11
import Derived.Test.YtpccbmechgkogaaGreatDoorZ41
import Derived.Test.YtpccbmechgkogaaGreatDoorZ42
set_option linter.unusedVariables false
set_option linter.unusedSimpArgs false
namespace Go.Proofs.YtpccbmechgkogaaGreatDoor.RefD
open Go.RowKit Go.Proofs.YtpccbmechgkogaaGreatDoor.P Go.Proofs.YtpccbmechgkogaaGreatDoorW.PrintWords Go.Proofs.YtpccbmechgkogaaGreatDoorW.PrintLast Go.Proofs.YtpccbmechgkogaaGreatDoorW.PrintMore Go.Proofs.YtpccbmechgkogaaGreatDoor.PureKit Go.Proofs.YtpccbmechgkogaaGreatDoor.BkSpec
set_option maxRecDepth 100000 in
set_option maxHeartbeats 6400000 in
theorem may6 (A : Option Addr) (c : Nat) (l : List E) (w : World) (hr : Kd.C k79 w A l.length l) (hl : l.length ≤ 60) (hf : ∀ x ∈ l, Name.keyB x.f0 = true ∧ x.f1 ≠ [] ∧ x.f1.length ≤ 20 ∧ (∀ v ∈ x.f1, ChSpec.mayB v = true) ∧ x.f1.Pairwise ChOrd.Ord) (hp : BkSpec.Next (fun a b : E => Op.bytesLess a.f0.toList b.f0.toList = true) l) :
  Calls Tryz.prog 71 #[.slice A l.length c] w fun e w' => e = .returned (.bool true) ∧ Below w.heap.size w w' := by
 have HR := Aside0.mk (fun W (hW : Below w.heap.size w W) => Kd.C_below hr hW)
 have HF := Aside0.mk hf
 have HP := Aside0.mk hp
 have hu := Tryz.underlying79
 have HB0 := Aside0.mk (Below.refl w.heap.size w)
 have H20 := Aside0.mk hl
 clear hr hf hp hl
 go_enter Tryz.func71, Tryz.ntmps71
 go_wp2
 go_loopw [3] (fun v wr => ∃ k : Nat, v = .int .i64 k ∧ k ≤ l.length ∧ Aside0 (Below w.heap.size w wr)) (fun v _ => l.length - (intOf v).toNat)
 case atStart => exact ⟨0, rfl, Nat.zero_le _, HB0⟩
 case round =>
  clear HB0
  obtain ⟨k, rfl, hk, HB0⟩ := hrel
  by_cases hlt : k < l.length
  ·have d4 : decide ((k : Int) < (l.length : Int)) = true := by rw [decide_eq_true_iff]; omega
   obtain ⟨ad, A1, c1, hA, x0, x1, hl1, hC⟩ := at_T79 (HR.out _ HB0.out) (k : Int) (by omega) (by omega)
   subst hA
   have hmem : rd_T79 l (k : Int) = l[k] := rd_here _ l k hlt
   rw [hmem] at x0 x1 hl1 hC
   rw [Int.toNat_natCast] at x0 x1
   obtain ⟨x, hx⟩ : ∃ x, x = l[k] := ⟨_, rfl⟩
   rw [← hx] at x0 x1 hl1 hC
   have hfx := HF.out x (by rw [hx]; exact List.getElem_mem hlt)
   have CK := Aside0.mk (fun (W : World) => RefA.key_ok x.f0 W hfx.1)
   have CC := Aside0.mk (fun (W : World) (hW : Below wr.heap.size wr W) => RefC.check5 A1 c1 x.f1 W (Kd.C_below hC hW) hfx.2.2.1 hfx.2.2.2.1 hfx.2.2.2.2)
   have d8 : ((x.f1.length : Int) == 0) = false := by rw [beq_eq_false_iff_ne]; have := List.length_pos_iff.2 hfx.2.1; omega
   have d9 : (x.f1.length == 0) = false := by rw [beq_eq_false_iff_ne]; have := List.length_pos_iff.2 hfx.2.1; omega
   have HX := Aside0.mk (show ∃ h : k < l.length, x = l[k] from ⟨hlt, hx⟩)
   have j0 : (0 : Int) ≤ (k : Int) := by omega
   have j1 : (k : Int) < (l.length : Int) := by omega
   have hw2 : IntKind.i64.wrap ((k : Int) + 1) = ((k + 1 : Nat) : Int) := by rw [IntKind.wrap_i64]; have := H20.out; omega
   have HS0 := Aside0.mk x0
   have HS1 := Aside0.mk x1
   have HK := Aside0.mk hlt
   clear hmem hx hk hfx hl1 hC
   by_cases hk0 : k = 0
   ·have d5 : decide (0 < k) = false := by rw [decide_eq_false_iff_not]; omega
    clear hk0 hlt
    go_wp2_with fail
    refine start_ (n := 43) (S := fun w' => w'.cell? (ad.add (k * 2)) = some (.string x.f0) ∧ w'.cell? ⟨(ad.add (k * 2)).block, (ad.add (k * 2)).off + 1, none⟩ = some (.slice A1 x.f1.length c1)) (ds := []) (bb 43 0) (by kernel_rfl) rfl rfl ⟨HS0.out, HS1.out⟩ (fun hHeld => ?_)
    refine pu 0 10 (h := pu 1 11 (h := pu 2 12 (h := pu 3 13 (h := ta 4 14 hHeld (h := on_ 5 15 (h := fun K hK => ?_))))))
    refine goes_ Tryz.func124 (by kernel_rfl) rfl #[.string x.f0] (by rfl) rfl rfl (by (try simp only [List.map_toArray, List.map_cons, List.map_nil]); first | done | rfl) ?_
    refine (CK.out _).mono ?_
    rintro e w3 ⟨rfl, hb⟩
    refine ⟨_, rfl, ?_⟩
    have HD3 := Aside0.mk (below_step (below_drew (Below.refl wr.heap.size wr)) hb)
    clear hb
    refine hK.out _ _ ⟨(pw_cell_below HD3.out HS0.out), (pw_cell_below HD3.out HS1.out)⟩ (fun hHeld => ?_)
    clear hK K
    refine nm (h := pu 6 16 (h := pu 7 17 (h := pu 8 18 (h := pu 9 19 (h := pu 10 20 (h := pu 11 21 (h := ta 12 22 hHeld (h := pu 13 23 (h := pu 14 24 (h := pu 15 25 (h := pu 16 26 (h := pu 17 27 (h := pu 18 28 (h := pu 19 29 (h := pu 20 30 (h := ta 21 31 hHeld (h := on_ 22 32 (h := fun K hK => ?_))))))))))))))))))
    refine goes_ Tryz.func125 (by kernel_rfl) rfl #[.slice A1 x.f1.length c1] (by rfl) rfl rfl (by (try simp only [List.map_toArray, List.map_cons, List.map_nil]); first | done | rfl) ?_
    refine (CC.out _ HD3.out).mono ?_
    rintro e w4 ⟨rfl, hb⟩
    refine ⟨_, rfl, ?_⟩
    have HD4 := Aside0.mk (below_step HD3.out hb)
    clear hb
    refine hK.out _ _ ⟨(pw_cell_below HD4.out HS0.out), (pw_cell_below HD4.out HS1.out)⟩ (fun hHeld => ?_)
    clear hK K
    refine nm (h := pu 23 33 (h := pu 24 34 (h := pu 25 35 (h := pu 26 36 (h := pu 27 37 (h := pu 28 38 (h := po 29 39 (h := po 30 40 (h := po 31 41 (h := po 32 42 (h := po 33 43 (h := po 34 44 (h := po 35 45 (h := po 36 46 (h := po 37 47 (h := po 38 48 (h := po 39 49 (h := po 40 50 (h := pu 41 51 (h := pu 42 52 (h := dn (h := ?_))))))))))))))))))))))
    clear hHeld x0 x1 d4 d5
    go_wp2
    exact ⟨⟨k + 1, by go_num, by have := HK.out; omega, ⟨below_step HB0.out HD4.out⟩⟩, by simp [intOf]; have := HK.out; omega⟩
   ·have d5 : decide (0 < k) = true := by rw [decide_eq_true_iff]; omega
    obtain ⟨m, hm⟩ : ∃ m, k = m + 1 := ⟨k - 1, by omega⟩
    obtain ⟨ad', _, _, hA', y0, -⟩ := at_T79 (HR.out _ HB0.out) (m : Int) (by omega) (by omega)
    cases hA'
    have hmem : rd_T79 l (m : Int) = l[m] := rd_here _ l m (by omega)
    rw [hmem, Int.toNat_natCast] at y0
    obtain ⟨y, hy⟩ : ∃ y, y = l[m].f0 := ⟨_, rfl⟩
    rw [← hy] at y0
    have d6 : Op.bytesLess y.toList x.f0.toList = true := by
     obtain ⟨hq, hx⟩ := HX.out
     have := HP.out m k (by omega) hq (by omega)
     dsimp only at this
     rw [← hy, ← hx] at this
     exact this
    have i0 : (0 : Int) ≤ (m : Int) := by omega
    have i1 : (m : Int) < (l.length : Int) := by omega
    have hw1 : IntKind.i64.wrap ((k : Int) - 1) = (m : Int) := by rw [IntKind.wrap_i64]; have := H20.out; omega
    have HSY := Aside0.mk y0
    clear hk0 hlt hm hmem hy y0
    go_wp2_with fail
    refine start_ (n := 43) (S := fun w' => w'.cell? (ad.add (k * 2)) = some (.string x.f0) ∧ w'.cell? ⟨(ad.add (k * 2)).block, (ad.add (k * 2)).off + 1, none⟩ = some (.slice A1 x.f1.length c1) ∧ w'.cell? (ad.add (m * 2)) = some (.string y)) (ds := []) (bb 43 0) (by kernel_rfl) rfl rfl ⟨HS0.out, HS1.out, HSY.out⟩ (fun hHeld => ?_)
    refine pu 0 10 (h := pu 1 11 (h := pu 2 12 (h := pu 3 13 (h := ta 4 14 hHeld (h := on_ 5 15 (h := fun K hK => ?_))))))
    refine goes_ Tryz.func124 (by kernel_rfl) rfl #[.string x.f0] (by rfl) rfl rfl (by (try simp only [List.map_toArray, List.map_cons, List.map_nil]); first | done | rfl) ?_
    refine (CK.out _).mono ?_
    rintro e w3 ⟨rfl, hb⟩
    refine ⟨_, rfl, ?_⟩
    have HD3 := Aside0.mk (below_step (below_drew (Below.refl wr.heap.size wr)) hb)
    clear hb
    refine hK.out _ _ ⟨(pw_cell_below HD3.out HS0.out), (pw_cell_below HD3.out HS1.out), (pw_cell_below HD3.out HSY.out)⟩ (fun hHeld => ?_)
    clear hK K
    refine nm (h := pu 6 16 (h := pu 7 17 (h := pu 8 18 (h := pu 9 19 (h := pu 10 20 (h := pu 11 21 (h := ta 12 22 hHeld (h := pu 13 23 (h := pu 14 24 (h := pu 15 25 (h := pu 16 26 (h := pu 17 27 (h := pu 18 28 (h := pu 19 29 (h := pu 20 30 (h := ta 21 31 hHeld (h := on_ 22 32 (h := fun K hK => ?_))))))))))))))))))
    refine goes_ Tryz.func125 (by kernel_rfl) rfl #[.slice A1 x.f1.length c1] (by rfl) rfl rfl (by (try simp only [List.map_toArray, List.map_cons, List.map_nil]); first | done | rfl) ?_
    refine (CC.out _ HD3.out).mono ?_
    rintro e w4 ⟨rfl, hb⟩
    refine ⟨_, rfl, ?_⟩
    have HD4 := Aside0.mk (below_step HD3.out hb)
    clear hb
    refine hK.out _ _ ⟨(pw_cell_below HD4.out HS0.out), (pw_cell_below HD4.out HS1.out), (pw_cell_below HD4.out HSY.out)⟩ (fun hHeld => ?_)
    clear hK K
    refine nm (h := pu 23 33 (h := pu 24 34 (h := pu 25 35 (h := pu 26 36 (h := pu 27 37 (h := pu 28 38 (h := pu 29 39 (h := pu 30 40 (h := pu 31 41 (h := pu 32 42 (h := pu 33 43 (h := pu 35 45 (h := pu 36 46 (h := pu 37 47 (h := pu 38 48 (h := ta 34 44 hHeld (h := ta 39 49 hHeld (h := pu 40 50 (h := pu 41 51 (h := pu 42 52 (h := dn (h := ?_))))))))))))))))))))))
    clear hHeld x0 x1 d4 d5 d6 i0 i1 hw1
    go_wp2
    exact ⟨⟨k + 1, by go_num, by have := HK.out; omega, ⟨below_step HB0.out HD4.out⟩⟩, by simp [intOf]; have := HK.out; omega⟩
  ·have hk2 : k = l.length := by omega
   subst hk2
   have d7 : decide ((l.length : Int) ≤ 60) = true := by rw [decide_eq_true_iff]; have := H20.out; omega
   go_wp2
   go_ret
   exact ⟨rfl, HB0.out⟩
set_option maxRecDepth 100000 in
set_option maxHeartbeats 6400000 in
theorem one8 (u : U) (A : Option Addr) (c : Nat) (w : World) (hr : Kd.C k119 w A u.f2.length u.f2) (h : upB u = true) :
  Calls Tryz.prog 126 #[.agg #[.int .u64 u.f0, .string u.f1, .slice A u.f2.length c]] w fun e w' => e = .returned (.bool true) ∧ Below w.heap.size w w' := by
 unfold upB at h
 simp only [Bool.and_eq_true, decide_eq_true_eq, List.all_eq_true] at h
 obtain ⟨⟨⟨⟨⟨h1, h2⟩, h3⟩, h4⟩, h5⟩, h6⟩ := h
 have HR := Aside0.mk (fun W (hW : Below w.heap.size w W) => Kd.C_below hr hW)
 have HF := Aside0.mk h5
 have HP := Aside0.mk (next_rise (fun p : P => p.f0) h6)
 have CN := Aside0.mk (fun W => RefA.number_ok u.f0 W h1 h2)
 have CK := Aside0.mk (fun W => RefA.key_ok u.f1 W h3)
 have hu := Tryz.underlying131
 have hup := Tryz.underlying119
 have HBX := Aside0.mk (blk_new w (.cells #[.int .u64 u.f0, .string u.f1, .slice A u.f2.length c] 131))
 have HB0 := Aside0.mk (below_alloc (Below.refl w.heap.size w) (.cells #[.int .u64 u.f0, .string u.f1, .slice A u.f2.length c] 131))
 have H20 := Aside0.mk h4
 clear hr h1 h2 h3 h4 h5 h6
 go_enter Tryz.func126, Tryz.ntmps126
 go_wp2
 go_loopw [3] (fun v wr => ∃ k : Nat, v = .int .i64 k ∧ k ≤ u.f2.length ∧ Aside0 (wr.heap[w.heap.size]? = some (.cells #[.int .u64 u.f0, .string u.f1, .slice A u.f2.length c] 131 (0, 0))) ∧ Aside0 (Below w.heap.size w wr)) (fun v _ => u.f2.length - (intOf v).toNat)
 case atStart => exact ⟨0, rfl, Nat.zero_le _, HBX, HB0⟩
 case round =>
  clear HB0 HBX
  obtain ⟨k, rfl, hk, HBX, HB0⟩ := hrel
  have hz0 := (blk_cell HBX.out 0).trans rfl
  have hz1 := (blk_cell HBX.out 1).trans rfl
  have hz2 := (blk_cell HBX.out 2).trans rfl
  by_cases hlt : k < u.f2.length
  ·have d4 : decide ((k : Int) < (u.f2.length : Int)) = true := by rw [decide_eq_true_iff]; omega
   obtain ⟨ad, hA, x0, x1⟩ := at_T119 (HR.out _ HB0.out) (k : Int) (by omega) (by omega)
   subst hA
   have hmem : rd_T119 u.f2 (k : Int) = u.f2[k] := rd_here _ u.f2 k hlt
   rw [hmem] at x0 x1
   rw [Int.toNat_natCast] at x0 x1
   obtain ⟨x, hx⟩ : ∃ x, x = u.f2[k] := ⟨_, rfl⟩
   rw [← hx] at x0 x1
   have CC := Aside0.mk (fun (W : World) => RefA.part_ok x W (HF.out x (by rw [hx]; exact List.getElem_mem hlt)))
   have HX := Aside0.mk (show ∃ h : k < u.f2.length, x = u.f2[k] from ⟨hlt, hx⟩)
   have j0 : (0 : Int) ≤ (k : Int) := by omega
   have j1 : (k : Int) < (u.f2.length : Int) := by omega
   have hw2 : IntKind.i64.wrap ((k : Int) + 1) = ((k + 1 : Nat) : Int) := by rw [IntKind.wrap_i64]; have := H20.out; omega
   have HS0 := Aside0.mk x0
   have HS1 := Aside0.mk x1
   have HS2 : Aside0 (wr.cell? ⟨w.heap.size, 2, none⟩ = some (.slice (some ad) u.f2.length c)) := ⟨(blk_cell HBX.out 2).trans rfl⟩
   have HK := Aside0.mk hlt
   clear hmem hx hk
   by_cases hk0 : k = 0
   ·have d5 : decide (0 < k) = false := by rw [decide_eq_false_iff_not]; omega
    clear hk0 hlt
    go_wp2_with fail
    refine start_ (n := 27) (S := fun w' => w'.cell? (ad.add (k * 2)) = some (.int .i64 x.f0) ∧ w'.cell? ⟨(ad.add (k * 2)).block, (ad.add (k * 2)).off + 1, none⟩ = some (.string x.f1) ∧ w'.cell? ⟨w.heap.size, 2, none⟩ = some (.slice (some ad) u.f2.length c)) (ds := []) (bb 27 0) (by kernel_rfl) rfl rfl ⟨HS0.out, HS1.out, HS2.out⟩ (fun hHeld => ?_)
    refine pu 0 11 (h := pu 2 13 (h := ta 1 12 hHeld (h := pu 3 14 (h := ta 4 15 hHeld (h := on_ 5 16 (h := fun K hK => ?_))))))
    refine goes_ Tryz.func167 (by kernel_rfl) rfl #[.agg #[.int .i64 x.f0, .string x.f1]] (by rfl) rfl rfl (by (try simp only [List.map_toArray, List.map_cons, List.map_nil]); first | done | rfl) ?_
    refine (CC.out _).mono ?_
    rintro e w3 ⟨rfl, hb⟩
    refine ⟨_, rfl, ?_⟩
    have HD3 := Aside0.mk (below_step (below_drew (Below.refl wr.heap.size wr)) hb)
    clear hb
    refine hK.out _ _ ⟨(pw_cell_below HD3.out HS0.out), (pw_cell_below HD3.out HS1.out), (pw_cell_below HD3.out HS2.out)⟩ (fun hHeld => ?_)
    clear hK K
    refine nm (h := pu 6 17 (h := pu 7 18 (h := pu 8 19 (h := pu 9 20 (h := pu 10 21 (h := po 11 22 (h := po 12 23 (h := po 13 24 (h := po 14 25 (h := po 15 26 (h := po 16 27 (h := po 17 28 (h := po 18 29 (h := po 19 30 (h := po 20 31 (h := po 21 32 (h := po 22 33 (h := po 23 34 (h := po 24 35 (h := pu 25 36 (h := pu 26 37 (h := dn (h := ?_)))))))))))))))))))))))
    clear hHeld x0 x1 d4 d5 hz0 hz1 hz2
    go_wp2
    exact ⟨⟨k + 1, by go_num, by have := HK.out; omega, ⟨blk_below HBX.out HD3.out⟩, ⟨below_step HB0.out HD3.out⟩⟩, by simp [intOf]; have := HK.out; omega⟩
   ·have d5 : decide (0 < k) = true := by rw [decide_eq_true_iff]; omega
    obtain ⟨m, hm⟩ : ∃ m, k = m + 1 := ⟨k - 1, by omega⟩
    obtain ⟨ad', hA', y0, -⟩ := at_T119 (HR.out _ HB0.out) (m : Int) (by omega) (by omega)
    cases hA'
    have hmem : rd_T119 u.f2 (m : Int) = u.f2[m] := rd_here _ u.f2 m (by omega)
    rw [hmem, Int.toNat_natCast] at y0
    obtain ⟨y, hy⟩ : ∃ y, y = u.f2[m].f0 := ⟨_, rfl⟩
    rw [← hy] at y0
    have d6 : decide (x.f0 ≤ y) = false := by
     obtain ⟨hq, hx⟩ := HX.out
     have := HP.out m k (by omega) hq (by omega)
     dsimp only at this
     rw [← hy, ← hx] at this
     rw [decide_eq_false_iff_not]
     omega
    have i0 : (0 : Int) ≤ (m : Int) := by omega
    have i1 : (m : Int) < (u.f2.length : Int) := by omega
    have hw1 : IntKind.i64.wrap ((k : Int) - 1) = (m : Int) := by rw [IntKind.wrap_i64]; have := H20.out; omega
    have HSY := Aside0.mk y0
    clear hk0 hlt hm hmem hy y0
    go_wp2_with fail
    refine start_ (n := 27) (S := fun w' => w'.cell? (ad.add (k * 2)) = some (.int .i64 x.f0) ∧ w'.cell? ⟨(ad.add (k * 2)).block, (ad.add (k * 2)).off + 1, none⟩ = some (.string x.f1) ∧ w'.cell? ⟨w.heap.size, 2, none⟩ = some (.slice (some ad) u.f2.length c) ∧ w'.cell? (ad.add (m * 2)) = some (.int .i64 y)) (ds := []) (bb 27 0) (by kernel_rfl) rfl rfl ⟨HS0.out, HS1.out, HS2.out, HSY.out⟩ (fun hHeld => ?_)
    refine pu 0 11 (h := pu 2 13 (h := ta 1 12 hHeld (h := pu 3 14 (h := ta 4 15 hHeld (h := on_ 5 16 (h := fun K hK => ?_))))))
    refine goes_ Tryz.func167 (by kernel_rfl) rfl #[.agg #[.int .i64 x.f0, .string x.f1]] (by rfl) rfl rfl (by (try simp only [List.map_toArray, List.map_cons, List.map_nil]); first | done | rfl) ?_
    refine (CC.out _).mono ?_
    rintro e w3 ⟨rfl, hb⟩
    refine ⟨_, rfl, ?_⟩
    have HD3 := Aside0.mk (below_step (below_drew (Below.refl wr.heap.size wr)) hb)
    clear hb
    refine hK.out _ _ ⟨(pw_cell_below HD3.out HS0.out), (pw_cell_below HD3.out HS1.out), (pw_cell_below HD3.out HS2.out), (pw_cell_below HD3.out HSY.out)⟩ (fun hHeld => ?_)
    clear hK K
    refine nm (h := pu 6 17 (h := pu 7 18 (h := pu 8 19 (h := pu 9 20 (h := pu 10 21 (h := pu 11 22 (h := pu 13 24 (h := pu 17 28 (h := pu 19 30 (h := pu 20 31 (h := ta 12 23 hHeld (h := pu 14 25 (h := pu 15 26 (h := ta 16 27 hHeld (h := ta 18 29 hHeld (h := pu 21 32 (h := pu 22 33 (h := ta 23 34 hHeld (h := pu 24 35 (h := pu 25 36 (h := pu 26 37 (h := dn (h := ?_)))))))))))))))))))))))
    clear hHeld x0 x1 d4 d5 d6 i0 i1 hw1 hz0 hz1 hz2
    go_wp2
    exact ⟨⟨k + 1, by go_num, by have := HK.out; omega, ⟨blk_below HBX.out HD3.out⟩, ⟨below_step HB0.out HD3.out⟩⟩, by simp [intOf]; have := HK.out; omega⟩
  ·have hk2 : k = u.f2.length := by omega
   subst hk2
   have d7 : decide ((u.f2.length : Int) ≤ 30) = true := by rw [decide_eq_true_iff]; have := H20.out; omega
   clear hlt hk
   go_wp2_with fail
   refine (CN.out _).mono ?_
   rintro e w1 ⟨rfl, hb⟩
   have HBX2 := Aside0.mk (blk_below HBX.out hb)
   have HB2 := Aside0.mk (below_step HB0.out hb)
   clear hb CN hz0 hz1 hz2
   have hz0 := (blk_cell HBX2.out 0).trans rfl
   have hz1 := (blk_cell HBX2.out 1).trans rfl
   have hz2 := (blk_cell HBX2.out 2).trans rfl
   go_wp2_with fail
   refine (CK.out _).mono ?_
   rintro e w2 ⟨rfl, hb⟩
   have HBX3 := Aside0.mk (blk_below HBX2.out hb)
   have HB3 := Aside0.mk (below_step HB2.out hb)
   clear hb CK hz0 hz1 hz2
   have hz2 := (blk_cell HBX3.out 2).trans rfl
   go_wp2
   go_ret
   exact ⟨rfl, HB3.out⟩
set_option maxRecDepth 100000 in
set_option maxHeartbeats 6400000 in
theorem may8 (A : Option Addr) (c : Nat) (l : List U) (w : World) (hr : Kd.C k131 w A l.length l) (hl : l.length ≤ 10) (hf : ∀ u ∈ l, upB u = true) (hp : BkSpec.Next (fun a b : U => a.f0 < b.f0) l) :
  Calls Tryz.prog 72 #[.slice A l.length c] w fun e w' => e = .returned (.bool true) ∧ Below w.heap.size w w' := by
 have HR := Aside0.mk (fun W (hW : Below w.heap.size w W) => Kd.C_below hr hW)
 have HF := Aside0.mk hf
 have HP := Aside0.mk hp
 have hu := Tryz.underlying131
 have HB0 := Aside0.mk (Below.refl w.heap.size w)
 have H20 := Aside0.mk hl
 clear hr hf hp hl
 go_enter Tryz.func72, Tryz.ntmps72
 go_wp2
 go_loopw [3] (fun v wr => ∃ k : Nat, v = .int .i64 k ∧ k ≤ l.length ∧ Aside0 (Below w.heap.size w wr)) (fun v _ => l.length - (intOf v).toNat)
 case atStart => exact ⟨0, rfl, Nat.zero_le _, HB0⟩
 case round =>
  clear HB0
  obtain ⟨k, rfl, hk, HB0⟩ := hrel
  by_cases hlt : k < l.length
  ·have d4 : decide ((k : Int) < (l.length : Int)) = true := by rw [decide_eq_true_iff]; omega
   obtain ⟨ad, A2, c2, hA, x0, x1, x2, hl1, hC⟩ := at_T131 (HR.out _ HB0.out) (k : Int) (by omega) (by omega)
   subst hA
   have hmem : rd_T131 l (k : Int) = l[k] := rd_here _ l k hlt
   rw [hmem] at x0 x1 x2 hl1 hC
   rw [Int.toNat_natCast] at x0 x1 x2
   obtain ⟨x, hx⟩ : ∃ x, x = l[k] := ⟨_, rfl⟩
   rw [← hx] at x0 x1 x2 hl1 hC
   have hfx := HF.out x (by rw [hx]; exact List.getElem_mem hlt)
   have CC := Aside0.mk (fun (W : World) (hW : Below wr.heap.size wr W) => one8 x A2 c2 W (Kd.C_below hC hW) hfx)
   have HX := Aside0.mk (show ∃ h : k < l.length, x = l[k] from ⟨hlt, hx⟩)
   have j0 : (0 : Int) ≤ (k : Int) := by omega
   have j1 : (k : Int) < (l.length : Int) := by omega
   have hw2 : IntKind.i64.wrap ((k : Int) + 1) = ((k + 1 : Nat) : Int) := by rw [IntKind.wrap_i64]; have := H20.out; omega
   have HS0 := Aside0.mk x0
   have HS1 := Aside0.mk x1
   have HS2 := Aside0.mk x2
   have HK := Aside0.mk hlt
   clear hmem hx hk hfx hl1 hC
   by_cases hk0 : k = 0
   ·have d5 : decide (0 < k) = false := by rw [decide_eq_false_iff_not]; omega
    clear hk0 hlt
    go_wp2_with fail
    refine start_ (n := 24) (S := fun w' => w'.cell? (ad.add (k * 3)) = some (.int .u64 x.f0) ∧ w'.cell? ⟨(ad.add (k * 3)).block, (ad.add (k * 3)).off + 1, none⟩ = some (.string x.f1) ∧ w'.cell? ⟨(ad.add (k * 3)).block, (ad.add (k * 3)).off + 2, none⟩ = some (.slice A2 x.f2.length c2)) (ds := []) (bb 24 0) (by kernel_rfl) rfl rfl ⟨HS0.out, HS1.out, HS2.out⟩ (fun hHeld => ?_)
    refine pu 0 10 (h := pu 1 11 (h := pu 2 12 (h := ta 3 13 hHeld (h := on_ 4 14 (h := fun K hK => ?_)))))
    refine goes_ Tryz.func126 (by kernel_rfl) rfl #[.agg #[.int .u64 x.f0, .string x.f1, .slice A2 x.f2.length c2]] (by rfl) rfl rfl (by (try simp only [List.map_toArray, List.map_cons, List.map_nil]); first | done | rfl) ?_
    refine (CC.out _ (below_drew (Below.refl wr.heap.size wr))).mono ?_
    rintro e w3 ⟨rfl, hb⟩
    refine ⟨_, rfl, ?_⟩
    have HD3 := Aside0.mk (below_step (below_drew (Below.refl wr.heap.size wr)) hb)
    clear hb
    refine hK.out _ _ ⟨(pw_cell_below HD3.out HS0.out), (pw_cell_below HD3.out HS1.out), (pw_cell_below HD3.out HS2.out)⟩ (fun hHeld => ?_)
    clear hK K
    refine nm (h := pu 5 15 (h := pu 6 16 (h := pu 7 17 (h := pu 8 18 (h := pu 9 19 (h := po 10 20 (h := po 11 21 (h := po 12 22 (h := po 13 23 (h := po 14 24 (h := po 15 25 (h := po 16 26 (h := po 17 27 (h := po 18 28 (h := po 19 29 (h := po 20 30 (h := po 21 31 (h := pu 22 32 (h := pu 23 33 (h := dn (h := ?_)))))))))))))))))))))
    clear hHeld x0 x1 x2 d4 d5
    go_wp2
    exact ⟨⟨k + 1, by go_num, by have := HK.out; omega, ⟨below_step HB0.out HD3.out⟩⟩, by simp [intOf]; have := HK.out; omega⟩
   ·have d5 : decide (0 < k) = true := by rw [decide_eq_true_iff]; omega
    obtain ⟨m, hm⟩ : ∃ m, k = m + 1 := ⟨k - 1, by omega⟩
    obtain ⟨ad', _, _, hA', y0, -⟩ := at_T131 (HR.out _ HB0.out) (m : Int) (by omega) (by omega)
    cases hA'
    have hmem : rd_T131 l (m : Int) = l[m] := rd_here _ l m (by omega)
    rw [hmem, Int.toNat_natCast] at y0
    obtain ⟨y, hy⟩ : ∃ y, y = l[m].f0 := ⟨_, rfl⟩
    rw [← hy] at y0
    have d6 : decide (x.f0 ≤ y) = false := by
     obtain ⟨hq, hx⟩ := HX.out
     have := HP.out m k (by omega) hq (by omega)
     dsimp only at this
     rw [← hy, ← hx] at this
     rw [decide_eq_false_iff_not]; omega
    have i0 : (0 : Int) ≤ (m : Int) := by omega
    have i1 : (m : Int) < (l.length : Int) := by omega
    have hw1 : IntKind.i64.wrap ((k : Int) - 1) = (m : Int) := by rw [IntKind.wrap_i64]; have := H20.out; omega
    have HSY := Aside0.mk y0
    clear hk0 hlt hm hmem hy y0
    go_wp2_with fail
    refine start_ (n := 24) (S := fun w' => w'.cell? (ad.add (k * 3)) = some (.int .u64 x.f0) ∧ w'.cell? ⟨(ad.add (k * 3)).block, (ad.add (k * 3)).off + 1, none⟩ = some (.string x.f1) ∧ w'.cell? ⟨(ad.add (k * 3)).block, (ad.add (k * 3)).off + 2, none⟩ = some (.slice A2 x.f2.length c2) ∧ w'.cell? (ad.add (m * 3)) = some (.int .u64 y)) (ds := []) (bb 24 0) (by kernel_rfl) rfl rfl ⟨HS0.out, HS1.out, HS2.out, HSY.out⟩ (fun hHeld => ?_)
    refine pu 0 10 (h := pu 1 11 (h := pu 2 12 (h := ta 3 13 hHeld (h := on_ 4 14 (h := fun K hK => ?_)))))
    refine goes_ Tryz.func126 (by kernel_rfl) rfl #[.agg #[.int .u64 x.f0, .string x.f1, .slice A2 x.f2.length c2]] (by rfl) rfl rfl (by (try simp only [List.map_toArray, List.map_cons, List.map_nil]); first | done | rfl) ?_
    refine (CC.out _ (below_drew (Below.refl wr.heap.size wr))).mono ?_
    rintro e w3 ⟨rfl, hb⟩
    refine ⟨_, rfl, ?_⟩
    have HD3 := Aside0.mk (below_step (below_drew (Below.refl wr.heap.size wr)) hb)
    clear hb
    refine hK.out _ _ ⟨(pw_cell_below HD3.out HS0.out), (pw_cell_below HD3.out HS1.out), (pw_cell_below HD3.out HS2.out), (pw_cell_below HD3.out HSY.out)⟩ (fun hHeld => ?_)
    clear hK K
    refine nm (h := pu 5 15 (h := pu 6 16 (h := pu 7 17 (h := pu 8 18 (h := pu 9 19 (h := pu 10 20 (h := pu 11 21 (h := pu 12 22 (h := pu 13 23 (h := pu 15 25 (h := pu 16 26 (h := pu 17 27 (h := pu 18 28 (h := pu 19 29 (h := ta 14 24 hHeld (h := ta 20 30 hHeld (h := pu 21 31 (h := pu 22 32 (h := pu 23 33 (h := dn (h := ?_)))))))))))))))))))))
    clear hHeld x0 x1 x2 d4 d5 d6 i0 i1 hw1
    go_wp2
    exact ⟨⟨k + 1, by go_num, by have := HK.out; omega, ⟨below_step HB0.out HD3.out⟩⟩, by simp [intOf]; have := HK.out; omega⟩
  ·have hk2 : k = l.length := by omega
   subst hk2
   have d7 : decide ((l.length : Int) ≤ 10) = true := by rw [decide_eq_true_iff]; have := H20.out; omega
   go_wp2
   go_ret
   exact ⟨rfl, HB0.out⟩
end Go.Proofs.YtpccbmechgkogaaGreatDoor.RefD
