/-
  Lemmas: RefC.
-/
import Derived.BigRegion
import Derived.LoopTactic
import Derived.Test.YtpccbmechgkogaaGreatDoorProg
import Derived.Test.YtpccbmechgkogaaGreatDoorV0
import Derived.Test.YtpccbmechgkogaaGreatDoorZ00
import Derived.Test.YtpccbmechgkogaaGreatDoorZ01
import Derived.Test.YtpccbmechgkogaaGreatDoorZ02
import Derived.Test.YtpccbmechgkogaaGreatDoorZ06
import Derived.Test.YtpccbmechgkogaaGreatDoorZ11
import Derived.Test.YtpccbmechgkogaaGreatDoorZ41
set_option linter.unusedVariables false
set_option linter.unusedSimpArgs false
namespace Go.Proofs.YtpccbmechgkogaaGreatDoor.RefC
open Go.RowKit Go.Proofs.YtpccbmechgkogaaGreatDoor.P Go.Proofs.YtpccbmechgkogaaGreatDoorW.PrintWords Go.Proofs.YtpccbmechgkogaaGreatDoorW.PrintLast Go.Proofs.YtpccbmechgkogaaGreatDoorW.PrintMore Go.Proofs.YtpccbmechgkogaaGreatDoor.PureKit Go.Proofs.YtpccbmechgkogaaGreatDoor.BkSpec
set_option maxRecDepth 100000 in
set_option maxHeartbeats 6400000 in
theorem check5 (A : Option Addr) (c : Nat) (l : List V) (w : World) (hr : Kd.C k63 w A l.length l) (h20 : l.length ≤ 20) (hm : ∀ v ∈ l, ChSpec.mayB v = true) (hp : l.Pairwise ChOrd.Ord) :
  Calls Tryz.prog 125 #[.slice A l.length c] w fun e w' => e = .returned (.bool true) ∧ Below w.heap.size w w' := by
 have HR := Aside0.mk (fun W (hW : Below w.heap.size w W) => Kd.C_below hr hW)
 have HM := Aside0.mk hm
 have HP := Aside0.mk (List.pairwise_iff_getElem.1 hp)
 have hu := Tryz.underlying63
 have HB0 := Aside0.mk (Below.refl w.heap.size w)
 have H20 := Aside0.mk h20
 clear hr hm hp h20
 go_enter Tryz.func125, Tryz.ntmps125
 go_wp2
 go_loopw [3] (fun v wr => ∃ k : Nat, v = .int .i64 k ∧ k ≤ l.length ∧ Aside0 (Below w.heap.size w wr)) (fun v _ => l.length - (intOf v).toNat)
 case atStart => exact ⟨0, rfl, Nat.zero_le _, HB0⟩
 case round =>
  clear HB0
  obtain ⟨k, rfl, hk, HB0⟩ := hrel
  by_cases hlt : k < l.length
  ·have d4 : decide ((k : Int) < (l.length : Int)) = true := by rw [decide_eq_true_iff]; omega
   obtain ⟨ad, hA, x0, x1, x2, x3⟩ := at_T63 (HR.out _ HB0.out) (k : Int) (by omega) (by omega)
   subst hA
   have hmem : rd_T63 l (k : Int) = l[k] := rd_here _ l k hlt
   rw [hmem] at x0 x1 x2 x3
   rw [Int.toNat_natCast] at x0 x1 x2 x3
   obtain ⟨x, hx⟩ : ∃ x, x = l[k] := ⟨_, rfl⟩
   rw [← hx] at x0 x1 x2 x3
   have CM := Aside0.mk (fun (W : World) => RefA.may_ok x W (by rw [hx]; exact HM.out _ (List.getElem_mem hlt)))
   have HX := Aside0.mk (show ∃ h : k < l.length, x = l[k] from ⟨hlt, hx⟩)
   have j0 : (0 : Int) ≤ (k : Int) := by omega
   have j1 : (k : Int) < (l.length : Int) := by omega
   have hw2 : IntKind.i64.wrap ((k : Int) + 1) = ((k + 1 : Nat) : Int) := by rw [IntKind.wrap_i64]; have := H20.out; omega
   have HS0 := Aside0.mk x0
   have HS1 := Aside0.mk x1
   have HS2 := Aside0.mk x2
   have HS3 := Aside0.mk x3
   have HK := Aside0.mk hlt
   clear hmem hx hk
   by_cases hk0 : k = 0
   ·have d5 : decide (0 < k) = false := by rw [decide_eq_false_iff_not]; omega
    have HK0 := Aside0.mk hk0
    clear hk0 hlt
    go_wp2_with fail
    refine start_ (n := 24) (S := fun w' => w'.cell? (ad.add (k * 4)) = some (.int .u64 x.f0) ∧ w'.cell? ⟨(ad.add (k * 4)).block, (ad.add (k * 4)).off + 1, none⟩ = some (.string x.f1) ∧ w'.cell? ⟨(ad.add (k * 4)).block, (ad.add (k * 4)).off + 2, none⟩ = some (.bool x.f2) ∧ w'.cell? ⟨(ad.add (k * 4)).block, (ad.add (k * 4)).off + 3, none⟩ = some (.int .i64 x.f3)) (ds := []) (bb 24 0) (by kernel_rfl) rfl rfl ⟨HS0.out, HS1.out, HS2.out, HS3.out⟩ (fun hHeld => ?_)
    refine pu 0 11 (h := pu 1 12 (h := pu 2 13 (h := ta 3 14 hHeld (h := on_ 4 15 (h := fun K hK => ?_)))))
    refine goes_ Tryz.func166 (by kernel_rfl) rfl #[.agg #[.int .u64 x.f0, .string x.f1, .bool x.f2, .int .i64 x.f3]] (by rfl) rfl rfl (by (try simp only [List.map_toArray, List.map_cons, List.map_nil]); first | done | rfl) ?_
    refine (CM.out _).mono ?_
    rintro e w3 ⟨rfl, hb⟩
    refine ⟨_, rfl, ?_⟩
    have HD3 := Aside0.mk (below_step (below_drew (Below.refl wr.heap.size wr)) hb)
    clear hb
    refine hK.out _ _ ⟨(pw_cell_below HD3.out HS0.out), (pw_cell_below HD3.out HS1.out), (pw_cell_below HD3.out HS2.out), (pw_cell_below HD3.out HS3.out)⟩ (fun hHeld => ?_)
    clear hK K
    refine nm (h := pu 5 16 (h := pu 6 17 (h := pu 7 18 (h := pu 8 19 (h := pu 9 20 (h := po 10 21 (h := po 11 22 (h := po 12 23 (h := po 13 24 (h := po 14 25 (h := po 15 26 (h := po 16 27 (h := po 17 28 (h := po 18 29 (h := po 19 30 (h := po 20 31 (h := po 21 32 (h := pu 22 33 (h := pu 23 34 (h := dn (h := ?_)))))))))))))))))))))
    clear hHeld x0 x1 x2 x3 d4
    go_wp2
    go_loopw [4] (fun v wr => v = .int .i64 0 ∧ Aside0 (Below w.heap.size w wr)) (fun _ _ => 0)
    case atStart => exact ⟨rfl, ⟨below_step HB0.out HD3.out⟩⟩
    case round =>
     obtain ⟨rfl, HB4⟩ := hrel
     go_wp2
     exact ⟨⟨k + 1, by go_num, by have := HK.out; omega, HB4⟩, by simp [intOf]; have := HK.out; omega⟩
   ·have d5 : decide (0 < k) = true := by rw [decide_eq_true_iff]; omega
    obtain ⟨m, hm⟩ : ∃ m, k = m + 1 := ⟨k - 1, by omega⟩
    obtain ⟨ad', hA', -, -, -, y3⟩ := at_T63 (HR.out _ HB0.out) (m : Int) (by omega) (by omega)
    cases hA'
    have hmem : rd_T63 l (m : Int) = l[m] := rd_here _ l m (by omega)
    rw [hmem, Int.toNat_natCast] at y3
    obtain ⟨y, hy⟩ : ∃ y, y = l[m] := ⟨_, rfl⟩
    rw [← hy] at y3
    have d6 : decide (y.f3 < x.f3) = false := by
     obtain ⟨hq, hx⟩ := HX.out
     have := (HP.out m k (by omega) hq (by omega)).1
     rw [← hy, ← hx] at this
     rw [decide_eq_false_iff_not]
     omega
    have i0 : (0 : Int) ≤ (m : Int) := by omega
    have i1 : (m : Int) < (l.length : Int) := by omega
    have hw1 : IntKind.i64.wrap ((k : Int) - 1) = (m : Int) := by rw [IntKind.wrap_i64]; have := H20.out; omega
    have HS4 := Aside0.mk y3
    clear hk0 hlt hm hmem hy y3
    go_wp2_with fail
    refine start_ (n := 24) (S := fun w' => w'.cell? (ad.add (k * 4)) = some (.int .u64 x.f0) ∧ w'.cell? ⟨(ad.add (k * 4)).block, (ad.add (k * 4)).off + 1, none⟩ = some (.string x.f1) ∧ w'.cell? ⟨(ad.add (k * 4)).block, (ad.add (k * 4)).off + 2, none⟩ = some (.bool x.f2) ∧ w'.cell? ⟨(ad.add (k * 4)).block, (ad.add (k * 4)).off + 3, none⟩ = some (.int .i64 x.f3) ∧ w'.cell? ⟨(ad.add (m * 4)).block, (ad.add (m * 4)).off + 3, none⟩ = some (.int .i64 y.f3)) (ds := []) (bb 24 0) (by kernel_rfl) rfl rfl ⟨HS0.out, HS1.out, HS2.out, HS3.out, HS4.out⟩ (fun hHeld => ?_)
    refine pu 0 11 (h := pu 1 12 (h := pu 2 13 (h := ta 3 14 hHeld (h := on_ 4 15 (h := fun K hK => ?_)))))
    refine goes_ Tryz.func166 (by kernel_rfl) rfl #[.agg #[.int .u64 x.f0, .string x.f1, .bool x.f2, .int .i64 x.f3]] (by rfl) rfl rfl (by (try simp only [List.map_toArray, List.map_cons, List.map_nil]); first | done | rfl) ?_
    refine (CM.out _).mono ?_
    rintro e w3 ⟨rfl, hb⟩
    refine ⟨_, rfl, ?_⟩
    have HD3 := Aside0.mk (below_step (below_drew (Below.refl wr.heap.size wr)) hb)
    clear hb
    refine hK.out _ _ ⟨(pw_cell_below HD3.out HS0.out), (pw_cell_below HD3.out HS1.out), (pw_cell_below HD3.out HS2.out), (pw_cell_below HD3.out HS3.out), (pw_cell_below HD3.out HS4.out)⟩ (fun hHeld => ?_)
    clear hK K
    refine nm (h := pu 5 16 (h := pu 6 17 (h := pu 7 18 (h := pu 8 19 (h := pu 9 20 (h := pu 10 21 (h := pu 11 22 (h := pu 12 23 (h := pu 13 24 (h := pu 14 25 (h := pu 16 27 (h := pu 17 28 (h := pu 18 29 (h := pu 19 30 (h := ta 15 26 hHeld (h := ta 20 31 hHeld (h := pu 21 32 (h := pu 22 33 (h := pu 23 34 (h := dn (h := ?_)))))))))))))))))))))
    clear hHeld x0 x1 x2 x3 d4 d5 d6 i0 i1 hw1
    clear HS0 HS1 HS2 HS3 HS4 CM
    have HB5 := Aside0.mk (below_step HB0.out HD3.out)
    go_wp2
    go_loopw [4] (fun v wr => ∃ j : Nat, v = .int .i64 j ∧ j ≤ k ∧ Aside0 (Below w.heap.size w wr)) (fun v _ => k - (intOf v).toNat)
    case atStart => exact ⟨0, rfl, Nat.zero_le _, HB5⟩
    case round =>
     clear HB5
     obtain ⟨j, rfl, hj, HB6⟩ := hrel
     by_cases hjk : j < k
     ·have hjl : j < l.length := by have := HK.out; omega
      obtain ⟨ad1, hA1, x0, -, -, -⟩ := at_T63 (HR.out _ HB6.out) (k : Int) (by omega) (by omega)
      cases hA1
      obtain ⟨ad2, hA2, z0, -, -, -⟩ := at_T63 (HR.out _ HB6.out) (j : Int) (by omega) (by omega)
      cases hA2
      have hmx : rd_T63 l (k : Int) = x := by obtain ⟨hq, hx⟩ := HX.out; rw [hx]; exact rd_here _ l k hq
      have hmz : rd_T63 l (j : Int) = l[j] := rd_here _ l j hjl
      rw [hmx, Int.toNat_natCast] at x0
      rw [hmz, Int.toNat_natCast] at z0
      obtain ⟨z, hz⟩ : ∃ z, z = l[j] := ⟨_, rfl⟩
      rw [← hz] at z0
      have hcl : ChSpec.clash x z = false := by
       obtain ⟨hq, hx⟩ := HX.out
       have := (HP.out j k hjl hq hjk).2
       rw [← hz, ← hx] at this
       exact this
      have HJ := Aside0.mk hjk
      have e0 : (0 : Int) ≤ (j : Int) := by omega
      have e1 : (j : Int) < (l.length : Int) := by omega
      have e2 : decide ((j : Int) < (k : Int)) = true := by rw [decide_eq_true_iff]; omega
      have hw3 : IntKind.i64.wrap ((j : Int) + 1) = ((j + 1 : Nat) : Int) := by rw [IntKind.wrap_i64]; have := H20.out; omega
      have HS0 := Aside0.mk x0
      have HS1 := Aside0.mk z0
      unfold ChSpec.clash at hcl
      clear hmx hmz hz hjl hj
      by_cases c1 : x.f0 = 0
      ·have c2 : z.f0 ≠ 0 := fun e => by simp [c1, e] at hcl
       have f1 : (x.f0 == 0) = true := by rw [beq_iff_eq]; exact c1
       have f1' : (x.f0 != 0) = false := by rw [bne, f1]; rfl
       have f2 : (z.f0 == 0) = false := by rw [beq_eq_false_iff_ne]; exact c2
       have f2' : (z.f0 != 0) = true := by rw [bne, f2]; rfl
       clear hcl c1 c2
       go_wp2_with fail
       refine start_ (n := 43) (S := fun w' => w'.cell? (ad.add (k * 4)) = some (.int .u64 x.f0) ∧ w'.cell? (ad.add (j * 4)) = some (.int .u64 z.f0)) (ds := []) (bb 43 0) (by kernel_rfl) rfl rfl ⟨HS0.out, HS1.out⟩ (fun hHeld => ?_)
       refine pu 0 40 (h := pu 1 41 (h := pu 2 42 (h := pu 3 43 (h := ta 4 44 hHeld (h := pu 5 45 (h := pu 6 46 (h := pu 7 47 (h := pu 8 48 (h := pu 9 49 (h := pu 10 50 (h := ta 11 51 hHeld (h := pu 12 52 (h := pu 13 53 (h := pu 14 54 (h := pu 15 55 (h := pu 16 56 (h := pu 17 57 (h := pu 18 58 (h := ta 19 59 hHeld (h := pu 20 60 (h := pu 21 61 (h := po 22 62 (h := po 23 63 (h := po 24 64 (h := po 25 65 (h := po 26 66 (h := po 27 67 (h := pu 28 68 (h := pu 29 69 (h := po 30 70 (h := po 31 71 (h := po 32 72 (h := po 33 73 (h := po 34 74 (h := po 35 75 (h := po 36 76 (h := po 37 77 (h := po 38 78 (h := po 39 79 (h := po 40 80 (h := pu 41 81 (h := pu 42 82 (h := dn (h := ?_))))))))))))))))))))))))))))))))))))))))))))
       clear hHeld
       go_wp2
       exact ⟨⟨j + 1, by go_num, by have := HJ.out; omega, (by first | exact HB6 | exact ⟨below_drew HB6.out⟩)⟩, by simp [intOf]; have := HJ.out; omega⟩
      ·have f1 : (x.f0 == 0) = false := by rw [beq_eq_false_iff_ne]; exact c1
       have f1' : (x.f0 != 0) = true := by rw [bne, f1]; rfl
       by_cases c2 : z.f0 = 0
       ·have f2 : (z.f0 == 0) = true := by rw [beq_iff_eq]; exact c2
        have f2' : (z.f0 != 0) = false := by rw [bne, f2]; rfl
        clear hcl c1 c2
        go_wp2_with fail
        refine start_ (n := 43) (S := fun w' => w'.cell? (ad.add (k * 4)) = some (.int .u64 x.f0) ∧ w'.cell? (ad.add (j * 4)) = some (.int .u64 z.f0)) (ds := []) (bb 43 0) (by kernel_rfl) rfl rfl ⟨HS0.out, HS1.out⟩ (fun hHeld => ?_)
        refine pu 0 40 (h := pu 1 41 (h := pu 2 42 (h := pu 3 43 (h := ta 4 44 hHeld (h := pu 5 45 (h := pu 6 46 (h := po 7 47 (h := po 8 48 (h := po 9 49 (h := po 10 50 (h := po 11 51 (h := po 12 52 (h := pu 13 53 (h := pu 14 54 (h := pu 15 55 (h := pu 16 56 (h := pu 17 57 (h := pu 18 58 (h := ta 19 59 hHeld (h := pu 20 60 (h := pu 21 61 (h := pu 22 62 (h := pu 23 63 (h := pu 24 64 (h := pu 25 65 (h := ta 26 66 hHeld (h := pu 27 67 (h := pu 28 68 (h := pu 29 69 (h := po 30 70 (h := po 31 71 (h := po 32 72 (h := po 33 73 (h := po 34 74 (h := po 35 75 (h := po 36 76 (h := po 37 77 (h := po 38 78 (h := po 39 79 (h := po 40 80 (h := pu 41 81 (h := pu 42 82 (h := dn (h := ?_))))))))))))))))))))))))))))))))))))))))))))
        clear hHeld
        go_wp2
        exact ⟨⟨j + 1, by go_num, by have := HJ.out; omega, (by first | exact HB6 | exact ⟨below_drew HB6.out⟩)⟩, by simp [intOf]; have := HJ.out; omega⟩
       ·have f2 : (z.f0 == 0) = false := by rw [beq_eq_false_iff_ne]; exact c2
        have f2' : (z.f0 != 0) = true := by rw [bne, f2]; rfl
        have f3 : decide (z.f0 ≤ x.f0) = false := by
         rw [decide_eq_false_iff_not]
         intro h
         simp [c1, c2, h] at hcl
        clear hcl c1 c2
        go_wp2_with fail
        refine start_ (n := 43) (S := fun w' => w'.cell? (ad.add (k * 4)) = some (.int .u64 x.f0) ∧ w'.cell? (ad.add (j * 4)) = some (.int .u64 z.f0)) (ds := []) (bb 43 0) (by kernel_rfl) rfl rfl ⟨HS0.out, HS1.out⟩ (fun hHeld => ?_)
        refine pu 0 40 (h := pu 1 41 (h := pu 2 42 (h := pu 3 43 (h := ta 4 44 hHeld (h := pu 5 45 (h := pu 6 46 (h := po 7 47 (h := po 8 48 (h := po 9 49 (h := po 10 50 (h := po 11 51 (h := po 12 52 (h := pu 13 53 (h := pu 14 54 (h := pu 15 55 (h := pu 16 56 (h := pu 17 57 (h := pu 18 58 (h := ta 19 59 hHeld (h := pu 20 60 (h := pu 21 61 (h := pu 22 62 (h := pu 23 63 (h := pu 24 64 (h := pu 25 65 (h := ta 26 66 hHeld (h := pu 27 67 (h := pu 28 68 (h := pu 29 69 (h := pu 30 70 (h := pu 31 71 (h := pu 32 72 (h := pu 33 73 (h := pu 35 75 (h := pu 36 76 (h := pu 37 77 (h := pu 38 78 (h := ta 34 74 hHeld (h := ta 39 79 hHeld (h := pu 40 80 (h := pu 41 81 (h := pu 42 82 (h := dn (h := ?_))))))))))))))))))))))))))))))))))))))))))))
        clear hHeld
        go_wp2
        exact ⟨⟨j + 1, by go_num, by have := HJ.out; omega, (by first | exact HB6 | exact ⟨below_drew HB6.out⟩)⟩, by simp [intOf]; have := HJ.out; omega⟩
     ·have hjk2 : j = k := by omega
      subst hjk2
      go_wp2
      exact ⟨⟨j + 1, by go_num, by have := HK.out; omega, HB6⟩, by simp [intOf]; have := HK.out; omega⟩
  ·have hk2 : k = l.length := by omega
   subst hk2
   have d7 : decide ((l.length : Int) ≤ 20) = true := by rw [decide_eq_true_iff]; have := H20.out; omega
   go_wp2
   go_ret
   exact ⟨rfl, HB0.out⟩
end Go.Proofs.YtpccbmechgkogaaGreatDoor.RefC
