/-
  Lemmas: List.
-/
import Derived.Test.YtpccbmechgkogaaGreatDoorProg
import Derived.Test.YtpccbmechgkogaaGreatDoorV0
import Derived.Test.YtpccbmechgkogaaGreatDoorZ00
import Derived.Test.YtpccbmechgkogaaGreatDoorZ01
import Derived.Test.YtpccbmechgkogaaGreatDoorZ02
import Derived.Test.YtpccbmechgkogaaGreatDoorZ04
import Derived.Test.YtpccbmechgkogaaGreatDoorZ05
import Derived.Test.YtpccbmechgkogaaGreatDoorZ06
import Derived.Test.YtpccbmechgkogaaGreatDoorZ07
import Derived.Test.YtpccbmechgkogaaGreatDoorZ08
import Derived.Test.YtpccbmechgkogaaGreatDoorZ12
import Derived.Test.YtpccbmechgkogaaGreatDoorZ14
import Derived.Test.YtpccbmechgkogaaGreatDoorZ16
import Derived.Test.YtpccbmechgkogaaGreatDoorZ18
import Derived.Test.YtpccbmechgkogaaGreatDoorZ20
import Derived.Test.YtpccbmechgkogaaGreatDoorZ21
import Derived.Test.YtpccbmechgkogaaGreatDoorZ22
import Derived.Test.YtpccbmechgkogaaGreatDoorZ23
import Derived.Test.YtpccbmechgkogaaGreatDoorZ27
import Derived.Test.YtpccbmechgkogaaGreatDoorZ28
import Derived.Test.YtpccbmechgkogaaGreatDoorZ30
import Derived.Test.YtpccbmechgkogaaGreatDoorZ33
import Derived.Test.YtpccbmechgkogaaGreatDoorZ38
import Derived.Test.YtpccbmechgkogaaGreatDoorZ39
import Derived.Test.YtpccbmechgkogaaGreatDoorZ40
import Derived.Test.YtpccbmechgkogaaGreatDoorZ41
import Derived.Test.YtpccbmechgkogaaGreatDoorZ44
import Derived.Test.YtpccbmechgkogaaGreatDoorZ45
import Derived.Test.YtpccbmechgkogaaGreatDoorZ46
set_option linter.unusedVariables false
set_option linter.unusedSimpArgs false
namespace Go.Proofs.YtpccbmechgkogaaGreatDoor.List10
open Go.RowKit Go.Proofs.YtpccbmechgkogaaGreatDoor.P Go.Proofs.YtpccbmechgkogaaGreatDoorW.PrintWords Go.Proofs.YtpccbmechgkogaaGreatDoorW.PrintLast Go.Proofs.YtpccbmechgkogaaGreatDoorW.PrintMore Go.Proofs.YtpccbmechgkogaaGreatDoor.PureKit Go.Proofs.YtpccbmechgkogaaGreatDoor.BkSpec Go.Proofs.YtpccbmechgkogaaGreatDoor.BkOk Go.Proofs.YtpccbmechgkogaaGreatDoor.Wk Go.Proofs.YtpccbmechgkogaaGreatDoor.DpChk Go.Proofs.YtpccbmechgkogaaGreatDoor.PtLack Go.Proofs.YtpccbmechgkogaaGreatDoor.Clk Go.Proofs.YtpccbmechgkogaaGreatDoor.ListP Go.Proofs.YtpccbmechgkogaaGreatDoor.Works
abbrev kQ := k34
theorem piece_row {w : World} {A : Option Addr} {c : Nat} {l : List (S228)} (h : Kd.C kI w A l.length l) (hc : l.length ≤ c) (m : Nat) (p : List (S228)) (hp : p = l.take m) : Rd kI w (fun _ => True) (.slice A p.length c) p := by
 subst hp
 have hl : (l.take m).length ≤ l.length := by rw [List.length_take]; omega
 refine ⟨A, c, rfl, by omega, fun W' hW => ?_⟩
 obtain ⟨h1, h2, h3⟩ := h
 refine ⟨rfl, by omega, fun hn => ?_⟩
 obtain ⟨ad, e, hr⟩ := h3 (by omega)
 refine ⟨ad, e, fun j p hj => ?_⟩
 have hj' : l[j]? = some p := by
  rw [List.getElem?_take] at hj
  split at hj
  ·exact hj
  ·cases hj
 obtain ⟨cs, hs, hK, hcell⟩ := hr j p hj'
 obtain rfl := k228_open hK
 refine ⟨_, rfl, k228_mk _ _, fun i u hu => ?_⟩
 have hq := hcell i u hu
 have hlt := World.block_lt_of_cell? w _ hq
 have he := hW _ trivial hlt
 unfold World.cell? at hq ⊢
 rw [he]
 exact hq
structure DrawnL (W : World) (q : Nat) (w' : World) : Prop where
 z : w'.heap[q]? = some (.cells #[.int .u64 0, .string ⟨#[]⟩, .bool false, .int .i64 0] 63)
 q0 : W.heap.size ≤ q
 bel : Below W.heap.size W w'
theorem dep_no : DepOk 0 [] := ⟨by omega, by omega, by simp, fun b hb => by simp at hb, List.Pairwise.nil⟩
set_option maxRecDepth 100000 in
set_option maxHeartbeats 25600000 in
theorem list_any (A : Option Addr) (c : Nat) (l : List Q) (w : World) (hr : Kd.C kQ w A l.length l) (hc : l.length ≤ c) (hwf : ∀ q ∈ l, (Lit.int .i64 q.f0).wf = true) :
  Calls Tryz.prog 3 #[.slice A l.length c] w fun e w' => e = .returned (.bool true) ∧ Below w.heap.size w w' := by
 have hu25 := Tryz.underlying25
 have hu34 := Tryz.underlying34
 have hu40 := Tryz.underlying40
 have HR := Aside0.mk (fun W (hW : Below w.heap.size w W) => Kd.C_below hr hW)
 have HWF0 := Aside0.mk hwf
 have HN := Aside0.mk (show l.length ≤ 9223372036854775807 from hr.2.1)
 have BK0 := Aside0.mk (blk_new w (.cells #[.int .i64 0, .slice none 0 0] 25))
 have hz := fun j => blk_cell BK0.out j
 have hf := fun j => blk_frozen BK0.out j
 have HB1 := Aside0.mk (below_alloc (Below.refl w.heap.size w) (.cells #[.int .i64 0, .slice none 0 0] 25))
 clear hr hwf hc
 go_enter Tryz.func3, Tryz.ntmps3
 go_wp2
 clear hz hf
 go_loopw [4] (fun v4 wr => ∃ (i : Nat) (now : Int) (AL : Option Addr) (cl : Nat) (dl : List B), v4 = .int .i64 i ∧ i ≤ l.length ∧ i ≤ 30 ∧ Aside0 (wr.heap[w.heap.size]? = some (.cells #[.int .i64 now, .slice AL dl.length cl] 25 (0, 0))) ∧ Aside0 (Rd kB wr (fun k => k ≠ w.heap.size) (.slice AL dl.length cl) dl) ∧ Aside0 (DepOk now dl) ∧ Aside0 (Below w.heap.size w wr)) (fun v4 _ => l.length - (intOf v4).toNat)
 case atStart => exact ⟨0, 0, none, 0, [], rfl, Nat.zero_le _, by omega, BK0, ⟨Kd.V_nil _ _ _ 0 _⟩, ⟨dep_no⟩, HB1⟩
 case round =>
  clear BK0 HB1
  obtain ⟨i, now, AL, cl, dl, rfl, hi, hi30, BK, RD, DP, HB⟩ := hrel
  rename World => wk
  have hz := fun j => blk_cell BK.out j
  by_cases hlt : i < l.length ∧ i < 30
  ·have d1 : decide (i < l.length) = true := decide_eq_true (by omega)
   have d2 : decide ((i : Int) < 30) = true := decide_eq_true (by omega)
   have d2' : decide (i < 30) = true := decide_eq_true (by omega)
   have hlt1 := hlt.1
   obtain ⟨ad, A8, c8, hA, X0, X1, X2, X3, X4, X5, X6, X7, X8, hc8, hr8⟩ := at_T34 (HR.out _ HB.out) (i : Int) (by omega) (by omega)
   subst hA
   have hmem : rd_T34 l (i : Int) = l[i] := rd_here _ l i hlt1
   rw [hmem] at X0 X1 X2 X3 X4 X5 X6 X7 X8 hc8 hr8
   rw [Int.toNat_natCast] at X0 X1 X2 X3 X4 X5 X6 X7 X8
   have HWF := Aside0.mk (HWF0.out _ (List.getElem_mem hlt1))
   obtain ⟨x, hx⟩ : ∃ x, x = l[i] := ⟨_, rfl⟩
   rw [← hx] at X0 X1 X2 X3 X4 X5 X6 X7 X8 hc8 hr8 HWF
   have HC8 := Aside0.mk hc8
   have HP8 := Aside0.mk (fun (W : World) (hW : Below w.heap.size w W) (p : List (S228)) (hp : p = x.f8.take 40) => piece_row (by
    obtain ⟨ad9, A9, c9, hA9, -, -, -, -, -, -, -, -, z8, -, hC9⟩ := at_T34 (HR.out _ hW) (i : Int) (by omega) (by omega)
    obtain ⟨ad7, A7, c7, hA7, -, -, -, -, -, -, -, -, y8, -, -⟩ := at_T34 (HR.out _ (Below.refl w.heap.size w)) (i : Int) (by omega) (by omega)
    cases hA9
    cases hA7
    rw [hmem, ← hx] at z8 y8 hC9
    rw [Int.toNat_natCast] at z8 y8
    have e1 := (pw_cell_below hW y8).symm.trans z8
    have e2 := (pw_cell_below HB.out y8).symm.trans X8
    cases e1
    cases e2
    exact hC9) hc8 40 p hp)
   have HS0 : Aside0 (wk.cell? ⟨w.heap.size, 0, none⟩ = some (.int .i64 now)) := ⟨(hz 0).trans rfl⟩
   have HS1 : Aside0 (wk.cell? ⟨w.heap.size, 1, none⟩ = some (.slice AL dl.length cl)) := ⟨(hz 1).trans rfl⟩
   have HS2 := Aside0.mk X0
   have HS3 := Aside0.mk X1
   have HS4 := Aside0.mk X2
   have HS5 := Aside0.mk X3
   have HS6 := Aside0.mk X4
   have HS7 := Aside0.mk X5
   have HS8 := Aside0.mk X6
   have HS9 := Aside0.mk X7
   have HS10 := Aside0.mk X8
   have j0 : (0 : Int) ≤ (i : Int) := by omega
   have j1 : (i : Int) < (l.length : Int) := by omega
   have HI := Aside0.mk hlt
   have hw2 : IntKind.i64.wrap ((i : Int) + 1) = ((i + 1 : Nat) : Int) := by rw [IntKind.wrap_i64]; omega
   clear hmem hx hlt hlt1 hi hi30 hc8 hr8 hz
   go_wp2_with fail
   refine start_ (n := 11) (S := fun w' => w'.cell? ⟨w.heap.size, 0, none⟩ = some (.int .i64 now) ∧ w'.cell? ⟨w.heap.size, 1, none⟩ = some (.slice AL dl.length cl) ∧ w'.cell? (ad.add (i * 9)) = some (.int .i64 x.f0) ∧ w'.cell? ⟨(ad.add (i * 9)).block, (ad.add (i * 9)).off + 1, none⟩ = some (.string x.f1) ∧ w'.cell? ⟨(ad.add (i * 9)).block, (ad.add (i * 9)).off + 2, none⟩ = some (.string x.f2) ∧ w'.cell? ⟨(ad.add (i * 9)).block, (ad.add (i * 9)).off + 3, none⟩ = some (.string x.f3) ∧ w'.cell? ⟨(ad.add (i * 9)).block, (ad.add (i * 9)).off + 4, none⟩ = some (.string x.f4) ∧ w'.cell? ⟨(ad.add (i * 9)).block, (ad.add (i * 9)).off + 5, none⟩ = some (.string x.f5) ∧ w'.cell? ⟨(ad.add (i * 9)).block, (ad.add (i * 9)).off + 6, none⟩ = some (.int .u64 x.f6) ∧ w'.cell? ⟨(ad.add (i * 9)).block, (ad.add (i * 9)).off + 7, none⟩ = some (.int .i64 x.f7) ∧ w'.cell? ⟨(ad.add (i * 9)).block, (ad.add (i * 9)).off + 8, none⟩ = some (.slice A8 x.f8.length c8)) (ds := [10]) (bb 11 0) (by kernel_rfl) rfl rfl ⟨HS0.out, HS1.out, HS2.out, HS3.out, HS4.out, HS5.out, HS6.out, HS7.out, HS8.out, HS9.out, HS10.out⟩ (fun hHeld => ?_)
   refine pu 1 35 (h := pu 2 36 (h := pu 3 37 (h := ta 0 34 hHeld (h := ta 4 38 hHeld (h := on_ 5 39 (h := fun K hK => ?_))))))
   refine goes_ Tryz.func5 (by kernel_rfl) rfl #[.agg #[.int .i64 x.f0, .string x.f1, .string x.f2, .string x.f3, .string x.f4, .string x.f5, .int .u64 x.f6, .int .i64 x.f7, .slice A8 x.f8.length c8]] (by rfl) rfl rfl (by (try simp only [List.map_toArray, List.map_cons, List.map_nil]); first | done | rfl) ?_
   refine (Cut.cut_any _ x A8 c8 HC8.out).mono ?_
   rintro e w3 ⟨q2, rfl, hq0, hq3, hq8, hb⟩
   refine ⟨_, rfl, ?_⟩
   have HD3 := Aside0.mk (below_step (below_drew (Below.refl wk.heap.size wk)) hb)
   have HQ2 := Aside0.mk (And.intro hq0 (And.intro hq3 hq8))
   clear hb hq0 hq3 hq8
   refine hK.out _ _ ⟨(pw_cell_below HD3.out HS0.out), (pw_cell_below HD3.out HS1.out), (pw_cell_below HD3.out HS2.out), (pw_cell_below HD3.out HS3.out), (pw_cell_below HD3.out HS4.out), (pw_cell_below HD3.out HS5.out), (pw_cell_below HD3.out HS6.out), (pw_cell_below HD3.out HS7.out), (pw_cell_below HD3.out HS8.out), (pw_cell_below HD3.out HS9.out), (pw_cell_below HD3.out HS10.out)⟩ (fun hHeld => ?_)
   clear hK K
   refine nm (h := on_ 6 40 (h := fun K hK => ?_))
   refine goes_ Tryz.func4 (by kernel_rfl) rfl #[.agg #[.int .i64 now, .slice AL dl.length cl], .agg #[.int .i64 q2.f0, .string q2.f1, .string q2.f2, .string q2.f3, .string q2.f4, .string q2.f5, .int .u64 q2.f6, .int .i64 q2.f7, .slice A8 q2.f8.length c8]] (by rfl) rfl rfl (by (try simp only [List.map_toArray, List.map_cons, List.map_nil]); first | done | rfl) ?_
   refine (Do.do_any w3 now _ dl q2 _ (Kd.V_mono (Kd.V_below RD.out HD3.out) (fun _ _ => trivial)) DP.out (HP8.out w3 (below_step HB.out HD3.out) q2.f8 HQ2.out.2.2) (by have := HQ2.out.2.1; omega) (by rw [HQ2.out.2.2, List.length_take]; omega) (by rw [HQ2.out.1]; exact HWF.out)).mono ?_
   rintro e w4 ⟨now2, vl2, dl2, ti, tt, er, rfl, hr2, hd2, hb2⟩
   obtain ⟨AL2, cl2, rfl⟩ := Kd.V_slice hr2
   refine ⟨_, rfl, ?_⟩
   have HD4 := Aside0.mk (below_step HD3.out hb2)
   have RD4 := Aside0.mk hr2
   have DP4 := Aside0.mk hd2
   have K4 := Aside0.mk (blk_below BK.out HD4.out)
   have hz4 := fun j => blk_cell K4.out j
   have hf4 := fun j => blk_frozen K4.out j
   clear hb2 hr2 hd2
   refine hK.out _ _ ⟨(pw_cell_below HD4.out HS0.out), (pw_cell_below HD4.out HS1.out), (pw_cell_below HD4.out HS2.out), (pw_cell_below HD4.out HS3.out), (pw_cell_below HD4.out HS4.out), (pw_cell_below HD4.out HS5.out), (pw_cell_below HD4.out HS6.out), (pw_cell_below HD4.out HS7.out), (pw_cell_below HD4.out HS8.out), (pw_cell_below HD4.out HS9.out), (pw_cell_below HD4.out HS10.out)⟩ (fun hHeld => ?_)
   clear hK K
   refine nm (h := pu 7 33 (h := pu 8 41 (h := pu 9 42 (h := ln_ 10 (h := fun K hK => ?_)))))
   refine skip_ (w1 := ?_) (by rfl) rfl ?_ ?_
   rotate_left
   ·go_simp
    rfl
   refine hK.out _ _ ?_
   clear hK K
   refine dn (h := ?_)
   clear hHeld X0 X1 X2 X3 X4 X5 X6 X7 X8 d1 d2 d2'
   go_wp2
   exact ⟨⟨i + 1, now2, AL2, cl2, dl2, by go_num, by have := HI.out; omega, by have := HI.out; omega, ⟨blk_set (blk_set K4.out 0 _) 1 _⟩, ⟨Kd.V_far (p := ⟨w.heap.size, 1, none⟩) (Kd.V_far (p := ⟨w.heap.size, 0, none⟩) (Far.rd_but RD4.out K4.out) (fun _ hk => hk) _) (fun _ hk => hk) _⟩, DP4, ⟨below_set (below_set (below_step HB.out HD4.out) (Nat.le_refl _)) (Nat.le_refl _)⟩⟩, by simp [intOf]; have := HI.out; omega⟩
  ·have hq : decide (i < l.length) = false ∨ (decide (i < l.length) = true ∧ decide ((i : Int) < 30) = false) := by
    simp only [decide_eq_true_eq, decide_eq_false_iff_not]
    omega
   clear hlt hi hi30
   rcases hq with d1 | ⟨d1, d2⟩
   all_goals
    go_wp2_with fail
    refine (RefF.may10 now AL cl dl _ DP.out (Kd.V_reads' RD.out).2.2).mono ?_
    rintro e w5 ⟨rfl, hb⟩
    have BK5 := Aside0.mk (blk_below BK.out hb)
    have RD5 := Aside0.mk (Kd.V_below RD.out hb)
    have HB5 := Aside0.mk (below_step HB.out hb)
    clear hb hz BK RD HB HR HWF0 d1
    have hmm := @run_makeMap Tryz.prog
    go_wp2
    go_loopw [5] (fun v5 wr => ∃ j : Nat, v5 = .int .i64 j ∧ j ≤ dl.length ∧ Aside0 (wr.heap[w.heap.size]? = some (.cells #[.int .i64 now, .slice AL dl.length cl] 25 (0, 0))) ∧ Aside0 (Rd kB wr (fun k => k ≠ w.heap.size) (.slice AL dl.length cl) dl) ∧ Aside0 (Below w.heap.size w wr)) (fun v5 _ => dl.length - (intOf v5).toNat)
    case atStart => exact ⟨0, rfl, Nat.zero_le _, BK5, RD5, HB5⟩
    case round =>
     clear BK5 RD5 HB5
     obtain ⟨j, rfl, hj, BK, RD, HB⟩ := hrel
     rename World => wj
     have hz := fun j => blk_cell BK.out j
     by_cases hlt : j < dl.length
     ·have d4 : decide (j < dl.length) = true := decide_eq_true (by omega)
      obtain ⟨ad, A2, c2, A3, c3, hA, x0, x1, x2, x3, x4, hc2, hr2, hc3, hr3⟩ := at_T40 (Kd.V_reads' RD.out).2.2 (j : Int) (by omega) (by omega)
      subst hA
      have hmem : rd_T40 dl (j : Int) = dl[j] := rd_here _ dl j hlt
      rw [hmem] at x0 x1 x2 x3 x4 hr2 hr3 hc2 hc3
      rw [Int.toNat_natCast] at x0 x1 x2 x3 x4
      have hxm := List.getElem_mem hlt
      obtain ⟨x, hx⟩ : ∃ x, x = dl[j] := ⟨_, rfl⟩
      rw [← hx] at x0 x1 x2 x3 x4 hr2 hr3 hc2 hc3 hxm
      have HXM := Aside0.mk hxm
      have HOK := Aside0.mk (DP.out.ok x hxm)
      have HC2 := Aside0.mk hc2
      have HR2 := Aside0.mk (fun (W : World) (hW : Below wj.heap.size wj W) => Kd.C_below hr2 hW)
      have hzo := fun (o : Obj) j => blk_cell (blk_alloc BK.out o) j
      have HL := Aside0.mk hlt
      have j0 : (0 : Int) ≤ (j : Int) := by omega
      have j1 : (j : Int) < (dl.length : Int) := by omega
      have hw2 : IntKind.i64.wrap ((j : Int) + 1) = ((j + 1 : Nat) : Int) := by rw [IntKind.wrap_i64]; have := DP.out.len; omega
      have hzb := fun j => blk_cell (blk_new wj (.cells #[.string x.f0, .int .i64 x.f1, .slice A2 x.f2.length c2, .slice A3 x.f3.length c3, .int .u64 x.f4] 40)) j
      clear hmem hx hlt hj hc2 hr2 hc3 hr3 hxm
      go_wp2_with fail
      refine (keys_any x A2 c2 _ HOK.out (HR2.out _ (below_alloc (Below.refl _ _) _)) HC2.out).mono ?_
      rintro e w6 ⟨A4, c4, A5, n5, c5, last, rfl, hK, hb⟩
      have HW6 := Aside0.mk (below_step (below_alloc (Below.refl wj.heap.size wj) (.cells #[.string x.f0, .int .i64 x.f1, .slice A2 x.f2.length c2, .slice A3 x.f3.length c3, .int .u64 x.f4] 40)) hb)
      have KB6 := Aside0.mk (blk_below (blk_new wj (.cells #[.string x.f0, .int .i64 x.f1, .slice A2 x.f2.length c2, .slice A3 x.f3.length c3, .int .u64 x.f4] 40)) hb)
      have HK6 := Aside0.mk hK
      clear hb hK hzb hzo hz x0 x1 x2 x3 x4 d4
      have hzb := fun (o : Obj) j => blk_cell (blk_alloc KB6.out o) j
      have hzp := fun j => blk_cell (blk_new w6 (.cells #[.slice A4 (listed x).length c4, .slice A5 n5 c5, .bool false, .string last] 43)) j
      go_wp2_with fail
      refine (rows_any x A2 c2 _ HOK.out (HR2.out _ (below_alloc HW6.out _)) HC2.out).mono ?_
      rintro e w7 ⟨A6, n6, c6, more, rfl, hrows, hb⟩
      have HW7 := Aside0.mk (below_step (below_alloc HW6.out (.cells #[.slice A4 (listed x).length c4, .slice A5 n5 c5, .bool false, .string last] 43)) hb)
      have KB7 := Aside0.mk (blk_below (blk_alloc KB6.out (.cells #[.slice A4 (listed x).length c4, .slice A5 n5 c5, .bool false, .string last] 43)) hb)
      have KP7 := Aside0.mk (blk_below (blk_new w6 (.cells #[.slice A4 (listed x).length c4, .slice A5 n5 c5, .bool false, .string last] 43)) hb)
      have HK7 := Aside0.mk (Kd.C_below HK6.out (below_step (below_alloc (Below.refl w6.heap.size w6) (.cells #[.slice A4 (listed x).length c4, .slice A5 n5 c5, .bool false, .string last] 43)) hb))
      have HBW7 := Aside0.mk (below_step HB.out HW7.out)
      obtain ⟨gb, hgb⟩ : ∃ gb, gb = wj.heap.size := ⟨_, rfl⟩
      obtain ⟨gp, hgp⟩ : ∃ gp, gp = w6.heap.size := ⟨_, rfl⟩
      rw [← hgb] at KB7 ⊢
      rw [← hgp] at KP7 ⊢
      clear hb hzb hzp HW6 KB6 HK6 hgb hgp
      have hzb := fun j => blk_cell KB7.out j
      have hzp := fun j => blk_cell KP7.out j
      cases more with
      | true =>
       go_wp2_with fail
       refine (works_any _).mono ?_
       rintro e w8 ⟨rfl, hb⟩
       have HB8 := Aside0.mk (below_step HBW7.out hb)
       clear hb hrows
       go_wp2
       go_ret
       exact ⟨rfl, HB8.out⟩
      | false =>
       obtain ⟨rfl, hC6⟩ := hrows rfl
       have HC6 := Aside0.mk hC6
       have HW8 := Aside0.mk (below_alloc (Below.refl w7.heap.size w7) (.map #[] 0))
       have HM8 := Aside0.mk (PgMapS.made w7 (Nat.le_refl w7.heap.size))
       have HLS := Aside0.mk (listed_size HOK.out)
       clear hrows hC6
       go_wp2
       clear hzb hzp
       go_loopw [13] (fun v wr => ∃ m : Nat, v = .int .i64 m ∧ m ≤ (listed x).length ∧ Aside0 (Below w7.heap.size w7 wr) ∧ Aside0 (PgMapS.MS wr w7.heap.size (.map (some w7.heap.size)) ((listed x).take m))) (fun v _ => (listed x).length - (intOf v).toNat)
       case atStart => exact ⟨0, rfl, Nat.zero_le _, HW8, HM8⟩
       case round =>
        clear HW8 HM8
        obtain ⟨m, rfl, hm, HW, HM⟩ := hrel
        rename World => wm
        have hzp := fun j => blk_cell (blk_below KP7.out HW.out) j
        by_cases hlt : m < (listed x).length
        ·have d4 : decide (m < (listed x).length) = true := decide_eq_true hlt
         obtain ⟨ad4, hA4, hs4⟩ := Kd.at_string (Kd.C_below HK7.out HW.out) (m : Int) (by omega) (by omega)
         cases hA4
         have hsm : rdOf ByteArray.empty (listed x) (m : Int) = (listed x)[m] := rd_here _ (listed x) m hlt
         rw [hsm, Int.toNat_natCast] at hs4
         obtain ⟨s, hs⟩ : ∃ s, s = (listed x)[m] := ⟨_, rfl⟩
         rw [← hs] at hs4
         have HSZ := Aside0.mk (show s.size ≤ 60 by rw [hs]; exact HLS.out.2 _ (List.getElem_mem hlt))
         have HTK := Aside0.mk (show (listed x).take m ++ [s] = (listed x).take (m + 1) by rw [hs, List.take_succ_eq_append_getElem hlt])
         have HL1 := Aside0.mk hlt
         have i0 : (0 : Int) ≤ (m : Int) := by omega
         have i1 : (m : Int) < ((listed x).length : Int) := by omega
         have hw3 : IntKind.i64.wrap ((m : Int) + 1) = ((m + 1 : Nat) : Int) := by rw [IntKind.wrap_i64]; have := HLS.out.1; omega
         clear hsm hs hlt hm
         go_wp2_with (first | (at_mapUpdate; refine PgMapS.update (base := w7.heap.size) (u := .map (some w7.heap.size)) (xs := (listed x).take m) (s := s) rfl _ _ _ rfl rfl HM.out rfl ?sz rfl ?len ?_; (case sz => exact Nat.le_trans HSZ.out (by decide)); (case len => have := HLS.out.1; rw [List.length_take]; unfold maxLen; omega); intro w9 ho ht; rw [HTK.out] at ho; have HO9 := Aside0.mk ho; have HT9 := Aside0.mk (PgMapS.below_turn HW.out ht); clear ho ht))
         exact ⟨⟨m + 1, by go_num, by have := HL1.out; omega, HT9, HO9⟩, by simp [intOf]; have := HL1.out; omega⟩
        ·have hm2 : m = (listed x).length := by omega
         subst hm2
         have hM := HM.out
         rw [List.take_length] at hM
         have HMM := Aside0.mk hM
         have d4 : decide ((listed x).length < (listed x).length) = false := decide_eq_false hlt
         clear HM hM hlt hm
         have hzb := fun j => blk_cell (blk_below KB7.out HW.out) j
         go_wp2_with fail
         refine (count_any x A2 c2 _ HOK.out (HR2.out _ (below_step HW7.out HW.out)) HC2.out).mono ?_
         rintro e w10 ⟨rfl, hb⟩
         have HW10 := Aside0.mk (below_step HW.out hb)
         have HM10 := Aside0.mk (PgMapS.MS_below HMM.out hb)
         clear hb hzb hzp HW HMM
         go_wp2
         go_loopw [16] (fun v wr => ∃ m : Nat, v = .int .i64 m ∧ m ≤ (rows x).length ∧ Aside0 (Below w7.heap.size w7 wr) ∧ Aside0 (PgMapS.MS wr w7.heap.size (.map (some w7.heap.size)) (listed x))) (fun v _ => (rows x).length - (intOf v).toNat)
         case atStart => exact ⟨0, rfl, Nat.zero_le _, HW10, HM10⟩
         case round =>
          clear HW10 HM10
          obtain ⟨m, rfl, hm, HW, HM⟩ := hrel
          rename World => wr4
          by_cases hlt : m < (rows x).length
          ·have d4 : decide (m < (rows x).length) = true := decide_eq_true hlt
           obtain ⟨ad5, hA5, y0, y1, y2, y3, y4⟩ := at_T54 (Kd.C_below HC6.out HW.out) (m : Int) (by omega) (by omega)
           cases hA5
           have hrm : rd_T54 (rows x) (m : Int) = (rows x)[m] := rd_here _ (rows x) m hlt
           rw [hrm] at y0 y1 y2 y3 y4
           rw [Int.toNat_natCast] at y0 y1 y2 y3 y4
           have hmem := List.getElem_mem hlt
           obtain ⟨r, hrr⟩ : ∃ r, r = (rows x)[m] := ⟨_, rfl⟩
           rw [← hrr] at y0 y1 y2 y3 y4 hmem
           have HMEM := Aside0.mk hmem
           have HL1 := Aside0.mk hlt
           have HML := Aside0.mk (show (rows x).length ≤ 9223372036854775807 from HC6.out.2.1)
           have i0 : (0 : Int) ≤ (m : Int) := by omega
           have i1 : (m : Int) < ((rows x).length : Int) := by omega
           have hw3 : IntKind.i64.wrap ((m : Int) + 1) = ((m + 1 : Nat) : Int) := by rw [IntKind.wrap_i64]; have := HML.out; have := HL1.out; omega
           have hzr := fun j => blk_cell (blk_new wr4 (.cells #[.string r.f0, .int .u64 r.f1, .bool r.f2, .bool r.f3, .int .i64 r.f4] 54)) j
           have hzbo := fun (o : Obj) j => blk_cell (blk_alloc (blk_below KB7.out HW.out) o) j
           have hzdo := fun (o : Obj) j => blk_cell (blk_alloc (blk_below (blk_below BK.out HW7.out) HW.out) o) j
           clear hrm hmem hrr hlt hm
           go_wp2_with fail
           obtain ⟨pq, hpq⟩ : ∃ pq, pq = ClkVer.versP (⟨0, x.f0, r.f0, ⟨#[]⟩, ⟨#[]⟩, ⟨#[]⟩, 0, 0, []⟩ : Q) x := ⟨_, rfl⟩
           have HPQ := Aside0.mk hpq
           have hRD := Read.read_any (wr4.alloc (.cells #[.string r.f0, .int .u64 r.f1, .bool r.f2, .bool r.f3, .int .i64 r.f4] 54)) now (.slice (some ad) dl.length cl) dl (⟨0, x.f0, r.f0, ⟨#[]⟩, ⟨#[]⟩, ⟨#[]⟩, 0, 0, []⟩ : Q) (.slice none 0 0) (Kd.V_mono (Kd.V_below (Kd.V_below RD.out HW7.out) (below_alloc HW.out (.cells #[.string r.f0, .int .u64 r.f1, .bool r.f2, .bool r.f3, .int .i64 r.f4] 54))) (fun _ _ => trivial)) DP.out (Kd.V_nil _ _ _ 0 _) x HXM.out rfl
           rw [← hpq] at hRD
           have HRD := Aside0.mk hRD
           clear hRD hpq
           refine HRD.out.mono ?_
           rintro e w11 ⟨s, t, id, rfl, hst, hb⟩
           obtain ⟨vq, pe⟩ := pq
           have HST := Aside0.mk hst
           have HW11 := Aside0.mk (below_step (below_alloc HW.out (.cells #[.string r.f0, .int .u64 r.f1, .bool r.f2, .bool r.f3, .int .i64 r.f4] 54)) hb)
           have KR11 := Aside0.mk (blk_below (blk_new wr4 (.cells #[.string r.f0, .int .u64 r.f1, .bool r.f2, .bool r.f3, .int .i64 r.f4] 54)) hb)
           have HM11 := Aside0.mk (PgMapS.MS_below HM.out (below_step (below_alloc (Below.refl wr4.heap.size wr4) (.cells #[.string r.f0, .int .u64 r.f1, .bool r.f2, .bool r.f3, .int .i64 r.f4] 54)) hb))
           have HEQ := Aside0.mk (show (pe == 0) = ((listed x).any fun y => y.toList == r.f0.toList) by have := read_row HOK.out HMEM.out (⟨0, x.f0, r.f0, ⟨#[]⟩, ⟨#[]⟩, ⟨#[]⟩, 0, 0, []⟩ : Q) rfl rfl; rw [← HPQ.out] at this; exact this)
           obtain ⟨gr, hgr⟩ : ∃ gr, gr = wr4.heap.size := ⟨_, rfl⟩
           rw [← hgr] at KR11 ⊢
           clear hst hb hgr hzr hzbo hzdo y0 y1 y2 y3 y4 HRD d4 i0 i1
           clear HM
           go_wp2_with fail
           obtain ⟨gt, hgt⟩ : ∃ gt, gt = w11.heap.size := ⟨_, rfl⟩
           obtain ⟨wt, hwt⟩ : ∃ wt, wt = w11.alloc (.cells #[.int .u64 id, .string t, .int .i64 pe] 29) := ⟨_, rfl⟩
           have HWT := Aside0.mk (show Below w7.heap.size w7 wt by rw [hwt]; exact below_alloc HW11.out _)
           have KTT := Aside0.mk (show wt.heap[gt]? = some (.cells #[.int .u64 id, .string t, .int .i64 pe] 29) by rw [hwt, hgt]; exact blk_new w11 _)
           have KRT := Aside0.mk (show wt.heap[gr]? = some (.cells #[.string r.f0, .int .u64 r.f1, .bool r.f2, .bool r.f3, .int .i64 r.f4] 54) by rw [hwt]; exact blk_alloc KR11.out _)
           have HMT := Aside0.mk (show PgMapS.MS wt w7.heap.size (.map (some w7.heap.size)) (listed x) by rw [hwt]; exact PgMapS.MS_alloc HM11.out _)
           rw [← hwt, ← hgt]
           have HRS := Aside0.mk (row_key HOK.out HMEM.out)
           clear hwt hgt HW11 KR11 HM11
           have CF : Aside0 (∃ v : V, (v.f1.size : Int) = r.f4 ∧ ∀ (W : World) (A : Option Addr) (c : Nat), Kd.C k63 W A (IdxPut.getL x.f2 r.f0).length (IdxPut.getL x.f2 r.f0) → (IdxPut.getL x.f2 r.f0).length ≤ c → Calls Tryz.prog 14 #[.slice A (IdxPut.getL x.f2 r.f0).length c, .int .u64 r.f1] W fun e w' => e = .returned (.tuple #[.agg #[.int .u64 v.f0, .string v.f1, .bool v.f2, .int .i64 v.f3], .int .i64 (if r.f3 = true then 13 else 0)]) ∧ Below W.heap.size W w') := ⟨by
            obtain ⟨v, hv, hs⟩ := find_row HOK.out HMEM.out
            refine ⟨v, hs, fun W A c hC hc => ?_⟩
            have := find_any (IdxPut.getL x.f2 r.f0) r.f1 A c W hC (HOK.out.chain r.f0)
            rw [hv] at this
            exact this⟩
           obtain ⟨v, hvs, hcf⟩ := CF.out
           have HVS := Aside0.mk hvs
           clear CF hvs
           have CF := Aside0.mk hcf
           clear hcf
           by_cases hpe : pe = 0
           ·subst hpe
            have hlk : ((listed x).any fun y => y.toList == r.f0.toList) = true := HEQ.out.symm.trans (beq_self_eq_true (0 : Int))
            have HLK := Aside0.mk (fun (W : World) (hW : Below wt.heap.size wt W) => (set_run (PgMapS.MS_below HMT.out hW) r.f0 (Nat.le_trans HRS.out (by decide))).trans (congrArg (fun z => Result.ok (Value.bool z) W) hlk))
            obtain ⟨h1, h2⟩ := HST.out rfl
            have HSS := Aside0.mk (show s.size ≤ 9223372036854775807 by rw [h1]; have := ClkVer.vers_size (⟨0, x.f0, r.f0, ⟨#[]⟩, ⟨#[]⟩, ⟨#[]⟩, 0, 0, []⟩ : Q) x; rw [← HPQ.out] at this; exact this)
            clear h1
            subst h2
            have HS0 : Aside0 (wt.cell? ⟨gt, 1, none⟩ = some (.string (TagOf.tagText (TagOf.tagOf s)))) := ⟨(blk_cell KTT.out 1).trans rfl⟩
            have HS1 : Aside0 (wt.cell? ⟨gt, 2, none⟩ = some (.int .i64 0)) := ⟨(blk_cell KTT.out 2).trans rfl⟩
            have HS2 : Aside0 (wt.cell? ⟨gr, 0, none⟩ = some (.string r.f0)) := ⟨(blk_cell KRT.out 0).trans rfl⟩
            have HS3 := Aside0.mk (HLK.out wt.drew (below_drew (Below.refl _ _)))
            clear hlk
            refine start_ (n := 21) (S := fun w' => w'.cell? ⟨gt, 1, none⟩ = some (.string (TagOf.tagText (TagOf.tagOf s))) ∧ w'.cell? ⟨gt, 2, none⟩ = some (.int .i64 0) ∧ w'.cell? ⟨gr, 0, none⟩ = some (.string r.f0) ∧ (Instr.lookup 50 (.map (some w7.heap.size)) (.string r.f0) false).run Tryz.prog w' = .ok (.bool true) w') (ds := []) (bb 21 0) (by kernel_rfl) rfl rfl ⟨HS0.out, HS1.out, HS2.out, HS3.out⟩ (fun hHeld => ?_)
            refine pu 0 133 (h := pu 3 136 (h := pu 4 137 (h := ta 1 134 hHeld (h := pu 2 135 (h := ta 5 138 hHeld (h := ta 6 139 hHeld (h := pu 7 140 (h := pu 8 141 (h := pu 9 142 (h := ta 10 143 hHeld (h := pu 11 144 (h := pu 12 145 (h := pu 13 146 (h := pu 15 148 (h := ta 14 147 hHeld (h := on_ 16 149 (h := fun K hK => ?_)))))))))))))))))
            refine goes_ Tryz.func13 (by kernel_rfl) rfl #[.string s] (by rfl) rfl rfl (by (try simp only [List.map_toArray, List.map_cons, List.map_nil]); first | done | rfl) ?_
            refine (TagOf.of_any s _ HSS.out).mono ?_
            rintro e w12 ⟨rfl, hb⟩
            refine ⟨_, rfl, ?_⟩
            have HY12 := Aside0.mk (below_step (below_drew (Below.refl wt.heap.size wt)) hb)
            clear hb
            refine hK.out _ _ ⟨(pw_cell_below HY12.out HS0.out), (pw_cell_below HY12.out HS1.out), (pw_cell_below HY12.out HS2.out), (HLK.out _ HY12.out)⟩ (fun hHeld => ?_)
            clear hK K
            refine nm (h := on_ 17 150 (h := fun K hK => ?_))
            refine goes_ Tryz.func12 (by kernel_rfl) rfl #[.int .u32 (TagOf.tagOf s)] (by rfl) rfl rfl (by (try simp only [List.map_toArray, List.map_cons, List.map_nil]); first | done | rfl) ?_
            refine (TagOf.text_any _ _ (TagOf.tag_bd s).1 (TagOf.tag_bd s).2).mono ?_
            rintro e w13 ⟨rfl, hb⟩
            refine ⟨_, rfl, ?_⟩
            have HY13 := Aside0.mk (below_step HY12.out hb)
            clear hb
            refine hK.out _ _ ⟨(pw_cell_below HY13.out HS0.out), (pw_cell_below HY13.out HS1.out), (pw_cell_below HY13.out HS2.out), (HLK.out _ HY13.out)⟩ (fun hHeld => ?_)
            clear hK K
            refine nm (h := pu 18 151 (h := pu 19 152 (h := pu 20 153 (h := dn (h := ?_)))))
            clear hHeld
            obtain ⟨wu, hwu⟩ : ∃ wu, wu = w13 := ⟨_, rfl⟩
            have HWU := Aside0.mk (show Below w7.heap.size w7 wu by rw [hwu]; exact below_step HWT.out HY13.out)
            have KRU := Aside0.mk (show wu.heap[gr]? = some (.cells #[.string r.f0, .int .u64 r.f1, .bool r.f2, .bool r.f3, .int .i64 r.f4] 54) by rw [hwu]; exact blk_below KRT.out HY13.out)
            have HMU := Aside0.mk (show PgMapS.MS wu w7.heap.size (.map (some w7.heap.size)) (listed x) by rw [hwu]; exact PgMapS.MS_below HMT.out HY13.out)
            rw [← hwu]
            clear hwu HS0 HS1 HS2 HS3 HLK HWT KTT KRT HMT HY12 HY13 HST
            have HS5 : Aside0 (wu.cell? ⟨gb, 2, none⟩ = some (.slice A2 x.f2.length c2)) := ⟨(blk_cell (blk_below KB7.out HWU.out) 2).trans rfl⟩
            have HS6 : Aside0 (wu.cell? ⟨gr, 0, none⟩ = some (.string r.f0)) := ⟨(blk_cell KRU.out 0).trans rfl⟩
            have HS7 : Aside0 (wu.cell? ⟨gr, 1, none⟩ = some (.int .u64 r.f1)) := ⟨(blk_cell KRU.out 1).trans rfl⟩
            go_wp2_with fail
            refine start_ (n := 14) (S := fun w' => w'.cell? ⟨gb, 2, none⟩ = some (.slice A2 x.f2.length c2) ∧ w'.cell? ⟨gr, 0, none⟩ = some (.string r.f0) ∧ w'.cell? ⟨gr, 1, none⟩ = some (.int .u64 r.f1)) (ds := [12]) (bb 14 0) (by kernel_rfl) rfl rfl ⟨HS5.out, HS6.out, HS7.out⟩ (fun hHeld => ?_)
            refine pu 0 155 (h := pu 2 157 (h := pu 5 160 (h := ta 1 156 hHeld (h := ta 3 158 hHeld (h := ta 6 161 hHeld (h := ?_))))))
            refine join_ (σ := Option Addr × Nat × Nat) 2 (bb 14 4095) (fun s_ => [(159, .slice s_.1 (IdxPut.getL x.f2 r.f0).length s_.2.1), (162, .tuple #[.agg #[.int .u64 v.f0, .string v.f1, .bool v.f2, .int .i64 v.f3], .int .i64 (if r.f3 = true then 13 else 0)]), (154, .tuple #[.agg #[.int .u64 v.f0, .string v.f1, .bool v.f2, .int .i64 v.f3], .int .i64 (if r.f3 = true then 13 else 0)]), (163, .agg #[.int .u64 v.f0, .string v.f1, .bool v.f2, .int .i64 v.f3]), (164, .int .i64 (if r.f3 = true then 13 else 0)), (20, .pointer (some ⟨s_.2.2, 0, none⟩))]) (fun s_ w' => DrawnL wu s_.2.2 w') ?_ ?_
            rotate_left
            ·intro hCont
             refine two_ (i := 4) (j := 11) (Ni := some 159) (Nj := some 20) (bb 14 127) (bb 14 2159) rfl rfl rfl rfl (by kernel_rfl) (by decide) (by decide) (fun K hK => ?_) (fun K hK => ?_)
             ·skip
              refine goes_ Tryz.func15 (by kernel_rfl) rfl #[.slice A2 x.f2.length c2, .string r.f0] (by rfl) rfl rfl (by (try simp only [List.map_toArray, List.map_cons, List.map_nil]); first | done | rfl) ?_
              refine (Get.get_any A2 c2 x.f2 r.f0 _ HOK.out.idx (HR2.out _ (below_step HW7.out (below_step HWU.out (below_drew (Below.refl wu.heap.size wu))))) HC2.out).mono ?_
              rintro e w14 ⟨u14, rfl, hR14, hb⟩
              obtain ⟨A14, c14, rfl, hl14, hC14⟩ := Kd.R_reads hR14
              refine ⟨_, rfl, ?_⟩
              have HX14 := Aside0.mk hb
              have HY14 := Aside0.mk (below_step (below_drew (Below.refl wu.heap.size wu)) hb)
              have CF14 := Aside0.mk (fun (W : World) (hW : Below w14.heap.size w14 W) => CF.out W A14 c14 (Kd.C_below hC14 hW) hl14)
              clear hb hR14 hl14 hC14
              refine hK.out _ _ ⟨(pw_cell_below HY14.out HS5.out), (pw_cell_below HY14.out HS6.out), (pw_cell_below HY14.out HS7.out)⟩ (fun hHeld => ?_)
              clear hK K
              refine nm (h := ?_)
              refine two_ (i := 7) (j := 11) (Ni := some 162) (Nj := some 20) (bb 14 255) (bb 14 2175) rfl rfl rfl rfl (by kernel_rfl) (by decide) (by decide) (fun K hK => ?_) (fun K hK => ?_)
              ·skip
               refine goes_ Tryz.func14 (by kernel_rfl) rfl #[.slice A14 (IdxPut.getL x.f2 r.f0).length c14, .int .u64 r.f1] (by rfl) rfl rfl (by (try simp only [List.map_toArray, List.map_cons, List.map_nil]); first | done | rfl) ?_
               refine (CF14.out _ (Below.refl _ _)).mono ?_
               rintro e w15 ⟨rfl, hb⟩
               refine ⟨_, rfl, ?_⟩
               have HX15 := Aside0.mk hb
               have HY15 := Aside0.mk (below_step HY14.out hb)
               clear hb
               refine hK.out _ _ ⟨(pw_cell_below HY15.out HS5.out), (pw_cell_below HY15.out HS6.out), (pw_cell_below HY15.out HS7.out)⟩ (fun hHeld => ?_)
               clear hK K
               refine nm (h := pu 8 154 (h := pu 9 163 (h := pu 10 164 (h := on_ 11 20 (h := fun K hK => ?_)))))
               refine value_ (w1 := ?_) (v := ?_) (by rfl) rfl ?_ ?_
               rotate_left 2
               ·go_simp
                constructor
                ·rfl
                ·rfl
               refine hK.out _ _ ⟨(pw_cell_below (below_alloc HY15.out (.cells #[.int .u64 0, .string ⟨#[]⟩, .bool false, .int .i64 0] 63)) HS5.out), (pw_cell_below (below_alloc HY15.out (.cells #[.int .u64 0, .string ⟨#[]⟩, .bool false, .int .i64 0] 63)) HS6.out), (pw_cell_below (below_alloc HY15.out (.cells #[.int .u64 0, .string ⟨#[]⟩, .bool false, .int .i64 0] 63)) HS7.out)⟩ (fun hHeld => ?_)
               clear hK K
               refine nm (h := ?_)
               exact norm_ (by simp only [putAll, Act.put, List.setIfInBounds_toArray, List.set_cons_zero, List.set_cons_succ]) (hCont (A14, c14, w15.heap.size) _ ⟨blk_new w15 _, HY15.out.size, below_alloc HY15.out _⟩)
              ·skip
               refine value_ (w1 := ?_) (v := ?_) (by rfl) rfl ?_ ?_
               rotate_left 2
               ·go_simp
                constructor
                ·rfl
                ·rfl
               refine hK.out _ _ ⟨(pw_cell_below (below_alloc HY14.out (.cells #[.int .u64 0, .string ⟨#[]⟩, .bool false, .int .i64 0] 63)) HS5.out), (pw_cell_below (below_alloc HY14.out (.cells #[.int .u64 0, .string ⟨#[]⟩, .bool false, .int .i64 0] 63)) HS6.out), (pw_cell_below (below_alloc HY14.out (.cells #[.int .u64 0, .string ⟨#[]⟩, .bool false, .int .i64 0] 63)) HS7.out)⟩ (fun hHeld => ?_)
               clear hK K
               refine nm (h := on_ 7 162 (h := fun K hK => ?_))
               refine goes_ Tryz.func14 (by kernel_rfl) rfl #[.slice A14 (IdxPut.getL x.f2 r.f0).length c14, .int .u64 r.f1] (by rfl) rfl rfl (by (try simp only [List.map_toArray, List.map_cons, List.map_nil]); first | done | rfl) ?_
               refine (CF14.out _ (below_alloc (Below.refl _ _) _)).mono ?_
               rintro e w15 ⟨rfl, hb⟩
               refine ⟨_, rfl, ?_⟩
               have HX15 := Aside0.mk hb
               have HY15 := Aside0.mk (below_step (below_alloc HY14.out (.cells #[.int .u64 0, .string ⟨#[]⟩, .bool false, .int .i64 0] 63)) hb)
               clear hb
               refine hK.out _ _ ⟨(pw_cell_below HY15.out HS5.out), (pw_cell_below HY15.out HS6.out), (pw_cell_below HY15.out HS7.out)⟩ (fun hHeld => ?_)
               clear hK K
               refine nm (h := pu 8 154 (h := pu 9 163 (h := pu 10 164 (h := ?_))))
               exact norm_ (by simp only [putAll, Act.put, List.setIfInBounds_toArray, List.set_cons_zero, List.set_cons_succ]) (hCont (A14, c14, w14.heap.size) _ ⟨blk_below (blk_new w14 _) HX15.out, HY14.out.size, HY15.out⟩)
             ·skip
              refine value_ (w1 := ?_) (v := ?_) (by rfl) rfl ?_ ?_
              rotate_left 2
              ·go_simp
               constructor
               ·rfl
               ·rfl
              refine hK.out _ _ ⟨(pw_cell_below (below_alloc (below_drew (Below.refl wu.heap.size wu)) (.cells #[.int .u64 0, .string ⟨#[]⟩, .bool false, .int .i64 0] 63)) HS5.out), (pw_cell_below (below_alloc (below_drew (Below.refl wu.heap.size wu)) (.cells #[.int .u64 0, .string ⟨#[]⟩, .bool false, .int .i64 0] 63)) HS6.out), (pw_cell_below (below_alloc (below_drew (Below.refl wu.heap.size wu)) (.cells #[.int .u64 0, .string ⟨#[]⟩, .bool false, .int .i64 0] 63)) HS7.out)⟩ (fun hHeld => ?_)
              clear hK K
              refine nm (h := on_ 4 159 (h := fun K hK => ?_))
              refine goes_ Tryz.func15 (by kernel_rfl) rfl #[.slice A2 x.f2.length c2, .string r.f0] (by rfl) rfl rfl (by (try simp only [List.map_toArray, List.map_cons, List.map_nil]); first | done | rfl) ?_
              refine (Get.get_any A2 c2 x.f2 r.f0 _ HOK.out.idx (HR2.out _ (below_step HW7.out (below_step HWU.out (below_alloc (below_drew (Below.refl wu.heap.size wu)) (.cells #[.int .u64 0, .string ⟨#[]⟩, .bool false, .int .i64 0] 63))))) HC2.out).mono ?_
              rintro e w14 ⟨u14, rfl, hR14, hb⟩
              obtain ⟨A14, c14, rfl, hl14, hC14⟩ := Kd.R_reads hR14
              refine ⟨_, rfl, ?_⟩
              have HX14 := Aside0.mk hb
              have HY14 := Aside0.mk (below_step (below_alloc (below_drew (Below.refl wu.heap.size wu)) (.cells #[.int .u64 0, .string ⟨#[]⟩, .bool false, .int .i64 0] 63)) hb)
              have CF14 := Aside0.mk (fun (W : World) (hW : Below w14.heap.size w14 W) => CF.out W A14 c14 (Kd.C_below hC14 hW) hl14)
              clear hb hR14 hl14 hC14
              refine hK.out _ _ ⟨(pw_cell_below HY14.out HS5.out), (pw_cell_below HY14.out HS6.out), (pw_cell_below HY14.out HS7.out)⟩ (fun hHeld => ?_)
              clear hK K
              refine nm (h := on_ 7 162 (h := fun K hK => ?_))
              refine goes_ Tryz.func14 (by kernel_rfl) rfl #[.slice A14 (IdxPut.getL x.f2 r.f0).length c14, .int .u64 r.f1] (by rfl) rfl rfl (by (try simp only [List.map_toArray, List.map_cons, List.map_nil]); first | done | rfl) ?_
              refine (CF14.out _ (Below.refl _ _)).mono ?_
              rintro e w15 ⟨rfl, hb⟩
              refine ⟨_, rfl, ?_⟩
              have HX15 := Aside0.mk hb
              have HY15 := Aside0.mk (below_step HY14.out hb)
              clear hb
              refine hK.out _ _ ⟨(pw_cell_below HY15.out HS5.out), (pw_cell_below HY15.out HS6.out), (pw_cell_below HY15.out HS7.out)⟩ (fun hHeld => ?_)
              clear hK K
              refine nm (h := pu 8 154 (h := pu 9 163 (h := pu 10 164 (h := ?_))))
              exact norm_ (by simp only [putAll, Act.put, List.setIfInBounds_toArray, List.set_cons_zero, List.set_cons_succ]) (hCont (A14, c14, wu.heap.size) _ ⟨blk_below (blk_new wu.drew _) (below_step HX14.out HX15.out), Nat.le_refl _, HY15.out⟩)
            rintro ⟨A14, c14, q7⟩ w16 hD
            have HD := Aside0.mk (show DrawnL wu q7 w16 from hD)
            have hHeld := And.intro (pw_cell_below HD.out.bel HS5.out) (And.intro (pw_cell_below HD.out.bel HS6.out) (pw_cell_below HD.out.bel HS7.out))
            have zq := fun j => blk_cell HD.out.z j
            have zf := fun j => blk_frozen HD.out.z j
            clear hD
            refine norm_ (a' := ?_) ?_ ?_; rotate_left; (· (simp only [putAll, Act.put, List.setIfInBounds_toArray, List.set_cons_zero, List.set_cons_succ]; rfl))
            refine ln_ 12 (h := fun K hK => ?_)
            refine skip_ (w1 := ?_) (by rfl) rfl ?_ ?_
            rotate_left
            ·go_simp
             rfl
            refine hK.out _ _ ?_
            clear hK K
            refine pu 13 21 (h := dn (h := ?_))
            clear hHeld zq zf
            obtain ⟨wv, hwv⟩ : ∃ W, W = ((((w16.setCell ⟨q7, 0, none⟩ (.int .u64 v.f0)).setCell ⟨q7, 1, none⟩ (.string v.f1)).setCell ⟨q7, 2, none⟩ (.bool v.f2)).setCell ⟨q7, 3, none⟩ (.int .i64 v.f3)) := ⟨_, rfl⟩
            rw [← hwv]
            have HXV := Aside0.mk (show Below wu.heap.size wu wv by rw [hwv]; exact below_set (below_set (below_set (below_set HD.out.bel HD.out.q0) HD.out.q0) HD.out.q0) HD.out.q0)
            have KVV := Aside0.mk (show wv.heap[q7]? = some (.cells #[.int .u64 v.f0, .string v.f1, .bool v.f2, .int .i64 v.f3] 63) by rw [hwv]; exact blk_set (blk_set (blk_set (blk_set HD.out.z 0 _) 1 _) 2 _) 3 _)
            have KRV := Aside0.mk (blk_below KRU.out HXV.out)
            have HMV := Aside0.mk (PgMapS.MS_below HMU.out HXV.out)
            have HWV := Aside0.mk (below_step HWU.out HXV.out)
            have hzr := fun j => blk_cell KRV.out j
            have hzv := fun j => blk_cell KVV.out j
            have f0 : ((v.f1.size : Int) != r.f4) = false := by rw [HVS.out]; exact bne_self_eq_false r.f4
            clear hwv HS5 HS6 HS7 HD
            cases hm3 : r.f3 with
            | true =>
             go_wp2
             exact ⟨⟨m + 1, by go_num, by have := HL1.out; omega, HWV, HMV⟩, by simp [intOf]; have := HL1.out; omega⟩
            | false =>
             go_wp2
             exact ⟨⟨m + 1, by go_num, by have := HL1.out; omega, HWV, HMV⟩, by simp [intOf]; have := HL1.out; omega⟩
           ·have hq : (pe == 0) = false := beq_eq_false_iff_ne.mpr hpe
            have hlk : ((listed x).any fun y => y.toList == r.f0.toList) = false := HEQ.out.symm.trans hq
            have HLK := Aside0.mk (fun (W : World) (hW : Below wt.heap.size wt W) => (set_run (PgMapS.MS_below HMT.out hW) r.f0 (Nat.le_trans HRS.out (by decide))).trans (congrArg (fun z => Result.ok (Value.bool z) W) hlk))
            have HS0 : Aside0 (wt.cell? ⟨gt, 1, none⟩ = some (.string t)) := ⟨(blk_cell KTT.out 1).trans rfl⟩
            have HS1 : Aside0 (wt.cell? ⟨gt, 2, none⟩ = some (.int .i64 pe)) := ⟨(blk_cell KTT.out 2).trans rfl⟩
            have HS2 : Aside0 (wt.cell? ⟨gr, 0, none⟩ = some (.string r.f0)) := ⟨(blk_cell KRT.out 0).trans rfl⟩
            have HS3 := Aside0.mk (HLK.out wt.drew (below_drew (Below.refl _ _)))
            clear hlk hpe
            refine start_ (n := 21) (S := fun w' => w'.cell? ⟨gt, 1, none⟩ = some (.string t) ∧ w'.cell? ⟨gt, 2, none⟩ = some (.int .i64 pe) ∧ w'.cell? ⟨gr, 0, none⟩ = some (.string r.f0) ∧ (Instr.lookup 50 (.map (some w7.heap.size)) (.string r.f0) false).run Tryz.prog w' = .ok (.bool false) w') (ds := []) (bb 21 0) (by kernel_rfl) rfl rfl ⟨HS0.out, HS1.out, HS2.out, HS3.out⟩ (fun hHeld => ?_)
            refine pu 0 133 (h := pu 3 136 (h := pu 4 137 (h := ta 1 134 hHeld (h := pu 2 135 (h := ta 5 138 hHeld (h := ta 6 139 hHeld (h := pu 7 140 (h := pu 8 141 (h := pu 9 142 (h := ta 10 143 hHeld (h := pu 11 144 (h := pu 12 145 (h := po 13 146 (h := po 14 147 (h := po 15 148 (h := po 16 149 (h := po 17 150 (h := po 18 151 (h := pu 19 152 (h := pu 20 153 (h := dn (h := ?_))))))))))))))))))))))
            clear hHeld
            obtain ⟨wu, hwu⟩ : ∃ wu, wu = wt.drew := ⟨_, rfl⟩
            have HWU := Aside0.mk (show Below w7.heap.size w7 wu by rw [hwu]; exact below_drew HWT.out)
            have KRU := Aside0.mk (show wu.heap[gr]? = some (.cells #[.string r.f0, .int .u64 r.f1, .bool r.f2, .bool r.f3, .int .i64 r.f4] 54) by rw [hwu]; exact blk_drew KRT.out)
            have HMU := Aside0.mk (show PgMapS.MS wu w7.heap.size (.map (some w7.heap.size)) (listed x) by rw [hwu]; exact PgMapS.MS_drew HMT.out)
            rw [← hwu]
            clear hwu HS0 HS1 HS2 HS3 HLK HWT KTT KRT HMT HST hq
            have HS5 : Aside0 (wu.cell? ⟨gb, 2, none⟩ = some (.slice A2 x.f2.length c2)) := ⟨(blk_cell (blk_below KB7.out HWU.out) 2).trans rfl⟩
            have HS6 : Aside0 (wu.cell? ⟨gr, 0, none⟩ = some (.string r.f0)) := ⟨(blk_cell KRU.out 0).trans rfl⟩
            have HS7 : Aside0 (wu.cell? ⟨gr, 1, none⟩ = some (.int .u64 r.f1)) := ⟨(blk_cell KRU.out 1).trans rfl⟩
            go_wp2_with fail
            refine start_ (n := 14) (S := fun w' => w'.cell? ⟨gb, 2, none⟩ = some (.slice A2 x.f2.length c2) ∧ w'.cell? ⟨gr, 0, none⟩ = some (.string r.f0) ∧ w'.cell? ⟨gr, 1, none⟩ = some (.int .u64 r.f1)) (ds := [12]) (bb 14 0) (by kernel_rfl) rfl rfl ⟨HS5.out, HS6.out, HS7.out⟩ (fun hHeld => ?_)
            refine pu 0 155 (h := pu 2 157 (h := pu 5 160 (h := ta 1 156 hHeld (h := ta 3 158 hHeld (h := ta 6 161 hHeld (h := ?_))))))
            refine join_ (σ := Option Addr × Nat × Nat) 2 (bb 14 4095) (fun s_ => [(159, .slice s_.1 (IdxPut.getL x.f2 r.f0).length s_.2.1), (162, .tuple #[.agg #[.int .u64 v.f0, .string v.f1, .bool v.f2, .int .i64 v.f3], .int .i64 (if r.f3 = true then 13 else 0)]), (154, .tuple #[.agg #[.int .u64 v.f0, .string v.f1, .bool v.f2, .int .i64 v.f3], .int .i64 (if r.f3 = true then 13 else 0)]), (163, .agg #[.int .u64 v.f0, .string v.f1, .bool v.f2, .int .i64 v.f3]), (164, .int .i64 (if r.f3 = true then 13 else 0)), (20, .pointer (some ⟨s_.2.2, 0, none⟩))]) (fun s_ w' => DrawnL wu s_.2.2 w') ?_ ?_
            rotate_left
            ·intro hCont
             refine two_ (i := 4) (j := 11) (Ni := some 159) (Nj := some 20) (bb 14 127) (bb 14 2159) rfl rfl rfl rfl (by kernel_rfl) (by decide) (by decide) (fun K hK => ?_) (fun K hK => ?_)
             ·skip
              refine goes_ Tryz.func15 (by kernel_rfl) rfl #[.slice A2 x.f2.length c2, .string r.f0] (by rfl) rfl rfl (by (try simp only [List.map_toArray, List.map_cons, List.map_nil]); first | done | rfl) ?_
              refine (Get.get_any A2 c2 x.f2 r.f0 _ HOK.out.idx (HR2.out _ (below_step HW7.out (below_step HWU.out (below_drew (Below.refl wu.heap.size wu))))) HC2.out).mono ?_
              rintro e w14 ⟨u14, rfl, hR14, hb⟩
              obtain ⟨A14, c14, rfl, hl14, hC14⟩ := Kd.R_reads hR14
              refine ⟨_, rfl, ?_⟩
              have HX14 := Aside0.mk hb
              have HY14 := Aside0.mk (below_step (below_drew (Below.refl wu.heap.size wu)) hb)
              have CF14 := Aside0.mk (fun (W : World) (hW : Below w14.heap.size w14 W) => CF.out W A14 c14 (Kd.C_below hC14 hW) hl14)
              clear hb hR14 hl14 hC14
              refine hK.out _ _ ⟨(pw_cell_below HY14.out HS5.out), (pw_cell_below HY14.out HS6.out), (pw_cell_below HY14.out HS7.out)⟩ (fun hHeld => ?_)
              clear hK K
              refine nm (h := ?_)
              refine two_ (i := 7) (j := 11) (Ni := some 162) (Nj := some 20) (bb 14 255) (bb 14 2175) rfl rfl rfl rfl (by kernel_rfl) (by decide) (by decide) (fun K hK => ?_) (fun K hK => ?_)
              ·skip
               refine goes_ Tryz.func14 (by kernel_rfl) rfl #[.slice A14 (IdxPut.getL x.f2 r.f0).length c14, .int .u64 r.f1] (by rfl) rfl rfl (by (try simp only [List.map_toArray, List.map_cons, List.map_nil]); first | done | rfl) ?_
               refine (CF14.out _ (Below.refl _ _)).mono ?_
               rintro e w15 ⟨rfl, hb⟩
               refine ⟨_, rfl, ?_⟩
               have HX15 := Aside0.mk hb
               have HY15 := Aside0.mk (below_step HY14.out hb)
               clear hb
               refine hK.out _ _ ⟨(pw_cell_below HY15.out HS5.out), (pw_cell_below HY15.out HS6.out), (pw_cell_below HY15.out HS7.out)⟩ (fun hHeld => ?_)
               clear hK K
               refine nm (h := pu 8 154 (h := pu 9 163 (h := pu 10 164 (h := on_ 11 20 (h := fun K hK => ?_)))))
               refine value_ (w1 := ?_) (v := ?_) (by rfl) rfl ?_ ?_
               rotate_left 2
               ·go_simp
                constructor
                ·rfl
                ·rfl
               refine hK.out _ _ ⟨(pw_cell_below (below_alloc HY15.out (.cells #[.int .u64 0, .string ⟨#[]⟩, .bool false, .int .i64 0] 63)) HS5.out), (pw_cell_below (below_alloc HY15.out (.cells #[.int .u64 0, .string ⟨#[]⟩, .bool false, .int .i64 0] 63)) HS6.out), (pw_cell_below (below_alloc HY15.out (.cells #[.int .u64 0, .string ⟨#[]⟩, .bool false, .int .i64 0] 63)) HS7.out)⟩ (fun hHeld => ?_)
               clear hK K
               refine nm (h := ?_)
               exact norm_ (by simp only [putAll, Act.put, List.setIfInBounds_toArray, List.set_cons_zero, List.set_cons_succ]) (hCont (A14, c14, w15.heap.size) _ ⟨blk_new w15 _, HY15.out.size, below_alloc HY15.out _⟩)
              ·skip
               refine value_ (w1 := ?_) (v := ?_) (by rfl) rfl ?_ ?_
               rotate_left 2
               ·go_simp
                constructor
                ·rfl
                ·rfl
               refine hK.out _ _ ⟨(pw_cell_below (below_alloc HY14.out (.cells #[.int .u64 0, .string ⟨#[]⟩, .bool false, .int .i64 0] 63)) HS5.out), (pw_cell_below (below_alloc HY14.out (.cells #[.int .u64 0, .string ⟨#[]⟩, .bool false, .int .i64 0] 63)) HS6.out), (pw_cell_below (below_alloc HY14.out (.cells #[.int .u64 0, .string ⟨#[]⟩, .bool false, .int .i64 0] 63)) HS7.out)⟩ (fun hHeld => ?_)
               clear hK K
               refine nm (h := on_ 7 162 (h := fun K hK => ?_))
               refine goes_ Tryz.func14 (by kernel_rfl) rfl #[.slice A14 (IdxPut.getL x.f2 r.f0).length c14, .int .u64 r.f1] (by rfl) rfl rfl (by (try simp only [List.map_toArray, List.map_cons, List.map_nil]); first | done | rfl) ?_
               refine (CF14.out _ (below_alloc (Below.refl _ _) _)).mono ?_
               rintro e w15 ⟨rfl, hb⟩
               refine ⟨_, rfl, ?_⟩
               have HX15 := Aside0.mk hb
               have HY15 := Aside0.mk (below_step (below_alloc HY14.out (.cells #[.int .u64 0, .string ⟨#[]⟩, .bool false, .int .i64 0] 63)) hb)
               clear hb
               refine hK.out _ _ ⟨(pw_cell_below HY15.out HS5.out), (pw_cell_below HY15.out HS6.out), (pw_cell_below HY15.out HS7.out)⟩ (fun hHeld => ?_)
               clear hK K
               refine nm (h := pu 8 154 (h := pu 9 163 (h := pu 10 164 (h := ?_))))
               exact norm_ (by simp only [putAll, Act.put, List.setIfInBounds_toArray, List.set_cons_zero, List.set_cons_succ]) (hCont (A14, c14, w14.heap.size) _ ⟨blk_below (blk_new w14 _) HX15.out, HY14.out.size, HY15.out⟩)
             ·skip
              refine value_ (w1 := ?_) (v := ?_) (by rfl) rfl ?_ ?_
              rotate_left 2
              ·go_simp
               constructor
               ·rfl
               ·rfl
              refine hK.out _ _ ⟨(pw_cell_below (below_alloc (below_drew (Below.refl wu.heap.size wu)) (.cells #[.int .u64 0, .string ⟨#[]⟩, .bool false, .int .i64 0] 63)) HS5.out), (pw_cell_below (below_alloc (below_drew (Below.refl wu.heap.size wu)) (.cells #[.int .u64 0, .string ⟨#[]⟩, .bool false, .int .i64 0] 63)) HS6.out), (pw_cell_below (below_alloc (below_drew (Below.refl wu.heap.size wu)) (.cells #[.int .u64 0, .string ⟨#[]⟩, .bool false, .int .i64 0] 63)) HS7.out)⟩ (fun hHeld => ?_)
              clear hK K
              refine nm (h := on_ 4 159 (h := fun K hK => ?_))
              refine goes_ Tryz.func15 (by kernel_rfl) rfl #[.slice A2 x.f2.length c2, .string r.f0] (by rfl) rfl rfl (by (try simp only [List.map_toArray, List.map_cons, List.map_nil]); first | done | rfl) ?_
              refine (Get.get_any A2 c2 x.f2 r.f0 _ HOK.out.idx (HR2.out _ (below_step HW7.out (below_step HWU.out (below_alloc (below_drew (Below.refl wu.heap.size wu)) (.cells #[.int .u64 0, .string ⟨#[]⟩, .bool false, .int .i64 0] 63))))) HC2.out).mono ?_
              rintro e w14 ⟨u14, rfl, hR14, hb⟩
              obtain ⟨A14, c14, rfl, hl14, hC14⟩ := Kd.R_reads hR14
              refine ⟨_, rfl, ?_⟩
              have HX14 := Aside0.mk hb
              have HY14 := Aside0.mk (below_step (below_alloc (below_drew (Below.refl wu.heap.size wu)) (.cells #[.int .u64 0, .string ⟨#[]⟩, .bool false, .int .i64 0] 63)) hb)
              have CF14 := Aside0.mk (fun (W : World) (hW : Below w14.heap.size w14 W) => CF.out W A14 c14 (Kd.C_below hC14 hW) hl14)
              clear hb hR14 hl14 hC14
              refine hK.out _ _ ⟨(pw_cell_below HY14.out HS5.out), (pw_cell_below HY14.out HS6.out), (pw_cell_below HY14.out HS7.out)⟩ (fun hHeld => ?_)
              clear hK K
              refine nm (h := on_ 7 162 (h := fun K hK => ?_))
              refine goes_ Tryz.func14 (by kernel_rfl) rfl #[.slice A14 (IdxPut.getL x.f2 r.f0).length c14, .int .u64 r.f1] (by rfl) rfl rfl (by (try simp only [List.map_toArray, List.map_cons, List.map_nil]); first | done | rfl) ?_
              refine (CF14.out _ (Below.refl _ _)).mono ?_
              rintro e w15 ⟨rfl, hb⟩
              refine ⟨_, rfl, ?_⟩
              have HX15 := Aside0.mk hb
              have HY15 := Aside0.mk (below_step HY14.out hb)
              clear hb
              refine hK.out _ _ ⟨(pw_cell_below HY15.out HS5.out), (pw_cell_below HY15.out HS6.out), (pw_cell_below HY15.out HS7.out)⟩ (fun hHeld => ?_)
              clear hK K
              refine nm (h := pu 8 154 (h := pu 9 163 (h := pu 10 164 (h := ?_))))
              exact norm_ (by simp only [putAll, Act.put, List.setIfInBounds_toArray, List.set_cons_zero, List.set_cons_succ]) (hCont (A14, c14, wu.heap.size) _ ⟨blk_below (blk_new wu.drew _) (below_step HX14.out HX15.out), Nat.le_refl _, HY15.out⟩)
            rintro ⟨A14, c14, q7⟩ w16 hD
            have HD := Aside0.mk (show DrawnL wu q7 w16 from hD)
            have hHeld := And.intro (pw_cell_below HD.out.bel HS5.out) (And.intro (pw_cell_below HD.out.bel HS6.out) (pw_cell_below HD.out.bel HS7.out))
            have zq := fun j => blk_cell HD.out.z j
            have zf := fun j => blk_frozen HD.out.z j
            clear hD
            refine norm_ (a' := ?_) ?_ ?_; rotate_left; (· (simp only [putAll, Act.put, List.setIfInBounds_toArray, List.set_cons_zero, List.set_cons_succ]; rfl))
            refine ln_ 12 (h := fun K hK => ?_)
            refine skip_ (w1 := ?_) (by rfl) rfl ?_ ?_
            rotate_left
            ·go_simp
             rfl
            refine hK.out _ _ ?_
            clear hK K
            refine pu 13 21 (h := dn (h := ?_))
            clear hHeld zq zf
            obtain ⟨wv, hwv⟩ : ∃ W, W = ((((w16.setCell ⟨q7, 0, none⟩ (.int .u64 v.f0)).setCell ⟨q7, 1, none⟩ (.string v.f1)).setCell ⟨q7, 2, none⟩ (.bool v.f2)).setCell ⟨q7, 3, none⟩ (.int .i64 v.f3)) := ⟨_, rfl⟩
            rw [← hwv]
            have HXV := Aside0.mk (show Below wu.heap.size wu wv by rw [hwv]; exact below_set (below_set (below_set (below_set HD.out.bel HD.out.q0) HD.out.q0) HD.out.q0) HD.out.q0)
            have KVV := Aside0.mk (show wv.heap[q7]? = some (.cells #[.int .u64 v.f0, .string v.f1, .bool v.f2, .int .i64 v.f3] 63) by rw [hwv]; exact blk_set (blk_set (blk_set (blk_set HD.out.z 0 _) 1 _) 2 _) 3 _)
            have KRV := Aside0.mk (blk_below KRU.out HXV.out)
            have HMV := Aside0.mk (PgMapS.MS_below HMU.out HXV.out)
            have HWV := Aside0.mk (below_step HWU.out HXV.out)
            have hzr := fun j => blk_cell KRV.out j
            have hzv := fun j => blk_cell KVV.out j
            have f0 : ((v.f1.size : Int) != r.f4) = false := by rw [HVS.out]; exact bne_self_eq_false r.f4
            clear hwv HS5 HS6 HS7 HD
            cases hm3 : r.f3 with
            | true =>
             go_wp2
             exact ⟨⟨m + 1, by go_num, by have := HL1.out; omega, HWV, HMV⟩, by simp [intOf]; have := HL1.out; omega⟩
            | false =>
             go_wp2
             exact ⟨⟨m + 1, by go_num, by have := HL1.out; omega, HWV, HMV⟩, by simp [intOf]; have := HL1.out; omega⟩
          ·have hm2 : m = (rows x).length := by omega
           subst hm2
           have d4 : decide ((rows x).length < (rows x).length) = false := decide_eq_false hlt
           clear hlt hm
           go_wp2
           exact ⟨⟨j + 1, by go_num, by have := HL.out; omega, ⟨blk_below (blk_below BK.out HW7.out) HW.out⟩, ⟨Kd.V_below (Kd.V_below RD.out HW7.out) HW.out⟩, ⟨below_step HBW7.out HW.out⟩⟩, by simp [intOf]; have := HL.out; omega⟩
     ·have hj2 : j = dl.length := by omega
      subst hj2
      have d4 : decide (dl.length < dl.length) = false := decide_eq_false hlt
      clear hlt hj
      go_wp2_with fail
      refine (works_any _).mono ?_
      rintro e w8 ⟨rfl, hb⟩
      have HB8 := Aside0.mk (below_step HB.out hb)
      clear hb
      go_wp2
      go_ret
      exact ⟨rfl, HB8.out⟩
end Go.Proofs.YtpccbmechgkogaaGreatDoor.List10
