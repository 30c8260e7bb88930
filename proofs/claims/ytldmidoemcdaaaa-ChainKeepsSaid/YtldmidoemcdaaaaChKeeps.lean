/-
  cellarerlaw05.ChainKeeps, told as far as it returns true: printed over a listing whose map is a row, the map and the loop over it put back.
-/
import Derived.Test.YtldmidoemcdaaaaPx2
import Derived.Test.YtldmidoemcdaaaaPx7
import Derived.Test.YtldmidoemcdaaaaPx3
import Derived.Test.YtldmidoemcdaaaaPx10
import Derived.Test.YtldmidoemcdaaaaPx16
import Derived.Test.YtldmidoemcdaaaaPx11
import Derived.Test.YtldmidoemcdaaaaChKeepsD
import Derived.OpenShut
import Derived.Test.YtldmidoemcdaaaaPxOpens
import Derived.Test.YtldmidoemcdaaaaPx1
set_option linter.unusedVariables false
set_option linter.unusedSimpArgs false
namespace Go.Proofs.Ytldmidoemcdaaaa.P
open Go Go.RowKit Go.Maps Go.Proofs.YtldmidoemcdaaaaW.PrintWords Go.Proofs.YtldmidoemcdaaaaW.PrintLast Go.Proofs.YtldmidoemcdaaaaW.PrintMore Go.Proofs.Ytldmidoemcdaaaa Go.Proofs.Ytldmidoemcdaaaa.IdxV
attribute [local go_sem] max2_int min2_int max_two min_two max_three min_three max_four min_four
attribute [local go_sem high] eqA25

set_option maxHeartbeats 16000000 in
set_option maxRecDepth 100000 in
theorem cellarerlaw05_ChainKeeps.calls (k : Nat) (A0 : Option Addr) (c0 : Nat) (l0 : List (S42)) (r : Bool) (w : World) (hr0 : Kd.C k42 w A0 l0.length l0) (hc0 : l0.length ≤ c0) (h : cellarerlaw05_ChainKeeps.f k l0 = some r) (hTR_ : r = true) :
  Calls Try.prog 7 #[.slice A0 l0.length c0] w fun e w' => e = .returned (.bool r) ∧ Below w.heap.size w w' := by
 have hu25 := Try.underlying25
 have HR0 := Aside0.mk hr0
 have HC0 := Aside0.mk hc0
 clear hr0 hc0
 have HB := Aside0.mk (Below.refl w.heap.size w)
 have HTR_ := Aside0.mk hTR_
 clear hTR_
 have H : (cellarerlaw05_ChainKeeps.l0 k l0 ([] : List (S25)) ([] : List (S25)) 0) = some r := h
 clear h
 have H' := Aside0.mk H
 clear H
 have hmm := @run_makeMap Try.prog
 go_enter Try.func7, Try.ntmps7
 go_wp2
 go_loopg [3, 5] k (fun kq v3 v5 w' => ∃ (x3_1 : List (S25)) (x4_1 : List (S25)) (x5_1 : Int), v5 = .int .i64 x5_1 ∧ Aside0 (cellarerlaw05_ChainKeeps.l0 kq l0 x3_1 x4_1 x5_1 = some r) ∧ Aside0 (kq ≤ k) ∧ Aside0 (Kd.R k25 25 w' w.heap.size (fun k_ => some k_ ≠ (.map (some w.heap.size) : Value).ownBlock) v3 x3_1) ∧ Aside0 (ChMap.MK w' w.heap.size x4_1) ∧ Aside0 (Below w.heap.size w w'))
 case atStart => exact ⟨(([] : List (S25))), (([] : List (S25))), (0), (by first | rfl | (simp; done) | (simp [*]; done)), H', ⟨Nat.le_refl _⟩, ⟨by first | exact Kd.R_nil _ _ _ _ _ | exact Kd.N_nil _ _ _ _ _ | exact Kd.V_nil _ _ _ _ _ | exact Kd.Q_nil _ _ _ _ _ | exact Kd.S_nil _ _ _ _ _⟩, ⟨ChMap.made w⟩, ⟨by repeat (first | (with_reducible first | exact HB.out | apply below_alloc | apply pw_below_drewN | apply below_drew1) | exact HB.out)⟩⟩
 case round =>
  clear H'
  obtain ⟨x3_1, x4_1, x5_1, rfl, HA, HK1, HO_3, HO_4, HB⟩ := hrel
  cases gk with
  | zero => exact absurd HA.out (by simp [cellarerlaw05_ChainKeeps.l0])
  | succ k1 =>
   have H := HA.out
   clear HA
   simp only [cellarerlaw05_ChainKeeps.l0] at H
   have HC2 := Aside0.mk H
   clear H
   go_upto_region 4 with (fail)
   go_cut [25] (fun v25 wc => ∃ (kq : Nat) (x25_1 : Bool), v25 = .bool x25_1 ∧ Aside0 (cellarerlaw05_ChainKeeps.j1 kq l0 x3_1 x4_1 x5_1 x25_1 = some r) ∧ Aside0 (kq ≤ k1) ∧ Aside0 (Kd.R k25 25 wc w.heap.size (fun k_ => some k_ ≠ (.map (some w.heap.size) : Value).ownBlock) u3 x3_1) ∧ Aside0 (ChMap.MK wc w.heap.size x4_1) ∧ Aside0 (Below w.heap.size w wc))
   case first => as_aux_lemma =>
    have H := HC2.out
    clear HC2
    by_cases c3 : x5_1 < (l0.length : Int)
    ·rw [if_pos c3] at H
     have c3b0 : decide (x5_1 < (l0.length : Int)) = true := decide_eq_true c3
     clear c3
     (first | rw [c3b0] | (simp only [i64_w, i32_w]; rw [c3b0]) | skip)
     have H' := Aside0.mk H
     clear H
     go_wp2
     go_meet
     case rel => exact ⟨_, (decide (x5_1 < 30)), (by first | rfl | (simp; done) | (simp [*]; done)), H', ⟨by have := HK1.out; first | omega | exact Nat.le_refl _⟩, ⟨by (with_reducible repeat (first | apply Kd.R_alloc | apply Kd.R_drewN | apply Kd.R_drew)); exact HO_3.out⟩, ⟨(by (with_reducible repeat (first | apply ChMap.MK_alloc | apply ChMap.MK_drewN | apply ChMap.MK_drew)); exact HO_4.out)⟩, ⟨by repeat (first | (with_reducible first | exact HB.out | apply below_alloc | apply pw_below_drewN | apply below_drew1) | exact HB.out)⟩⟩
    ·rw [if_neg c3] at H
     have c3b0 : decide (x5_1 < (l0.length : Int)) = false := decide_eq_false c3
     clear c3
     (first | rw [c3b0] | (simp only [i64_w, i32_w]; rw [c3b0]) | skip)
     have H' := Aside0.mk H
     clear H
     go_wp2
     go_meet
     case rel => exact ⟨_, (false), (by first | rfl | (simp; done) | (simp [*]; done)), H', ⟨by have := HK1.out; first | omega | exact Nat.le_refl _⟩, ⟨by (with_reducible repeat (first | apply Kd.R_alloc | apply Kd.R_drewN | apply Kd.R_drew)); exact HO_3.out⟩, ⟨(by (with_reducible repeat (first | apply ChMap.MK_alloc | apply ChMap.MK_drewN | apply ChMap.MK_drew)); exact HO_4.out)⟩, ⟨by repeat (first | (with_reducible first | exact HB.out | apply below_alloc | apply pw_below_drewN | apply below_drew1) | exact HB.out)⟩⟩
   case rest =>
    clear HC2
    try clear p2
    try clear c3
    try clear c3b0
    obtain ⟨kq, x25_1, rfl, HA, HJ1, HO_3, HO_4, HB⟩ := hcut
    cases kq with
    | zero => exact absurd HA.out (by simp [cellarerlaw05_ChainKeeps.j1])
    | succ kj1 =>
     have H := HA.out
     clear HA
     simp only [cellarerlaw05_ChainKeeps.j1] at H
     by_cases c4 : x25_1 = true
     ·subst c4
      have H1 : (if 0 ≤ x5_1 then (if x5_1 < (l0.length : Int) then ((cellarerlaw05_One.f (IntKind.u64.wrap (wrap64 (x5_1 + 1))) ((rd_T42 l0 x5_1).f2) false x5_1).bind fun bt148 => (if (rd_T42 l0 x5_1).f1 = true then ((chain_Delete.f kj1 x3_1 (wrap64 (Int.tmod ((rd_T42 l0 x5_1).f0) 3)) (IntKind.u64.wrap (wrap64 (x5_1 + 1))) x5_1).bind fun bt154 => (cellarerlaw05_ChainKeeps.j2 kj1 l0 x3_1 x4_1 x5_1 (wrap64 (Int.tmod ((rd_T42 l0 x5_1).f0) 3)) bt154.1 bt154.2 bt148.1 (⟨#[]⟩ : ByteArray) true bt148.2.2.2)) else ((chain_Put.f x3_1 (wrap64 (Int.tmod ((rd_T42 l0 x5_1).f0) 3)) bt148.1 bt148.2.1 bt148.2.2.1 bt148.2.2.2).bind fun bt158 => (cellarerlaw05_ChainKeeps.j2 kj1 l0 x3_1 x4_1 x5_1 (wrap64 (Int.tmod ((rd_T42 l0 x5_1).f0) 3)) bt158.1 bt158.2 bt148.1 bt148.2.1 bt148.2.2.1 bt148.2.2.2)))) else (none)) else (none)) = some r := by rw [if_pos rfl] at H; exact H
      clear H
      have H := H1
      clear H1
      by_cases c5 : 0 ≤ x5_1
      ·rw [if_pos c5] at H
       have c5b0 : decide (0 ≤ x5_1) = true := decide_eq_true c5
       clear c5
       by_cases c6 : x5_1 < (l0.length : Int)
       ·rw [if_pos c6] at H
        have c6b0 : decide (x5_1 < (l0.length : Int)) = true := decide_eq_true c6
        clear c6
        replace H := Option.bind_eq_some_iff.mp H
        obtain ⟨⟨t148, t149, t150, t151⟩, A70, H⟩ := H
        replace H : (if (rd_T42 l0 x5_1).f1 = true then ((chain_Delete.f kj1 x3_1 (wrap64 (Int.tmod ((rd_T42 l0 x5_1).f0) 3)) (IntKind.u64.wrap (wrap64 (x5_1 + 1))) x5_1).bind fun bt154 => (cellarerlaw05_ChainKeeps.j2 kj1 l0 x3_1 x4_1 x5_1 (wrap64 (Int.tmod ((rd_T42 l0 x5_1).f0) 3)) bt154.1 bt154.2 t148 (⟨#[]⟩ : ByteArray) true t151)) else ((chain_Put.f x3_1 (wrap64 (Int.tmod ((rd_T42 l0 x5_1).f0) 3)) t148 t149 t150 t151).bind fun bt158 => (cellarerlaw05_ChainKeeps.j2 kj1 l0 x3_1 x4_1 x5_1 (wrap64 (Int.tmod ((rd_T42 l0 x5_1).f0) 3)) bt158.1 bt158.2 t148 t149 t150 t151))) = some r := H
        have A7 := Aside0.mk A70
        clear A70
        have HC8 := Aside0.mk H
        clear H
        have p146 : 0 ≤ (x5_1 : Int) := of_decide_eq_true (by first | (with_reducible assumption) | assumption)
        have q146 : x5_1 < (l0.length : Int) := of_decide_eq_true (by first | (with_reducible assumption) | assumption)
        obtain ⟨ad146, e146, hx146_0, hx146_1, hx146_2⟩ := at_T42 HR0.out x5_1 p146 q146
        cases e146
        replace hx146_0 := (HB.out.cell (World.block_lt_of_cell? w _ hx146_0)).trans hx146_0
        replace hx146_1 := (HB.out.cell (World.block_lt_of_cell? w _ hx146_1)).trans hx146_1
        replace hx146_2 := (HB.out.cell (World.block_lt_of_cell? w _ hx146_2)).trans hx146_2
        replace p146 := eq_true p146
        replace q146 := eq_true q146
        have p147 : 0 ≤ (x5_1 : Int) := of_decide_eq_true (by first | (with_reducible assumption) | assumption)
        have q147 : x5_1 < (l0.length : Int) := of_decide_eq_true (by first | (with_reducible assumption) | assumption)
        obtain ⟨ad147, e147, hx147_0, hx147_1, hx147_2⟩ := at_T42 HR0.out x5_1 p147 q147
        obtain rfl : ad146 = ad147 := (by injection e147)
        replace hx147_0 := (HB.out.cell (World.block_lt_of_cell? w _ hx147_0)).trans hx147_0
        replace hx147_1 := (HB.out.cell (World.block_lt_of_cell? w _ hx147_1)).trans hx147_1
        replace hx147_2 := (HB.out.cell (World.block_lt_of_cell? w _ hx147_2)).trans hx147_2
        replace p147 := eq_true p147
        replace q147 := eq_true q147
        go_upto_if 52 with (first | ((with_reducible refine gate_callee (f := 11) rfl ?_); refine goesL_ (some 46) rfl rfl Try.func11 (by kernel_rfl) rfl #[.agg #[.int .u64 (IntKind.u64.wrap (wrap64 (x5_1 + 1))), .string ((rd_T42 l0 x5_1).f2), .bool false, .int .i64 x5_1]] rfl (by (try simp only [List.map_toArray, List.map_cons, List.map_nil]); first | done | rfl | (simp only [List.length_drop, List.length_take]; rfl)) ?_; (with_reducible refine (cellarerlaw05_One.calls (IntKind.u64.wrap (wrap64 (x5_1 + 1))) ((rd_T42 l0 x5_1).f2) false x5_1 t148 t149 t150 t151 _ A7.out).mono ?_); rintro e w9 ⟨rfl, hb⟩; refine ⟨_, rfl, ?_⟩; have n0_ := Aside0.mk (Kd.R_below (by (with_reducible repeat (first | apply Kd.R_alloc | apply Kd.R_drewN | apply Kd.R_drew)); exact HO_3.out) hb); have n1_ := Aside0.mk (ChMap.MK_below (by (with_reducible repeat (first | apply ChMap.MK_alloc | apply ChMap.MK_drewN | apply ChMap.MK_drew)); exact HO_4.out) hb); have n2_ := Aside0.mk (below_step (by repeat (first | (with_reducible first | exact HB.out | apply below_alloc | apply pw_below_drewN | apply below_drew1) | exact HB.out)) hb); clear HO_3; clear HO_4; clear HB; have HO_3 := n0_; have HO_4 := n1_; have HB := n2_; clear n0_ n1_ n2_; (try clear hb); (try clear hb2); (try clear hk); (try clear hi)) | ((with_reducible refine gate_dst (N := 8) rfl ?_); (try (refine gate_guard (by rfl) ?_; dsimp only)); refine box_event ?hg (N := 8) ?hd (cs := #[.int .u64 0, .string (⟨#[]⟩ : ByteArray), .bool false, .int .i64 0]) (t := 25) ?hr ?_; (case hd => rfl); (case hg => rfl); (case hr => first | (go_simp; done) | (go_simp; rfl)); intro gb152 hg w10 hbox hb; have n0_ := Aside0.mk (Kd.R_below (Kd.R_elderB (by (with_reducible repeat (first | apply Kd.R_alloc | apply Kd.R_drewN | apply Kd.R_drew)); exact HO_3.out) gb152 (Nat.le_of_eq hg.symm)) hb); have n1_ := Aside0.mk (ChMap.MK_below (by (with_reducible repeat (first | apply ChMap.MK_alloc | apply ChMap.MK_drewN | apply ChMap.MK_drew)); exact HO_4.out) hb); have n2_ := Aside0.mk (below_step (by repeat (first | (with_reducible first | exact HB.out | apply below_alloc | apply pw_below_drewN | apply below_drew1) | exact HB.out)) hb); have n3_ := Aside0.mk (hbox); have n4_ := Aside0.mk ((by rw [hg]; exact (below_size (by repeat (first | (with_reducible first | exact HB.out | apply below_alloc | apply pw_below_drewN | apply below_drew1) | exact HB.out))) : w.heap.size ≤ gb152)); have n5_ := Aside0.mk ((by rw [hg]; exact (below_size (by repeat (first | (with_reducible first | exact HB.out | apply below_alloc | apply pw_below_drewN | apply below_drew1) | exact HB.out))) : w.heap.size ≤ gb152)); clear HO_3; clear HO_4; clear HB; have HO_3 := n0_; have HO_4 := n1_; have HB := n2_; have BK152 := n3_; have GW152 := n4_; have GE152 := n5_; clear n0_ n1_ n2_ n3_ n4_ n5_; clear hb hbox hg; have hcz11_0 : w10.cell? ⟨gb152, 0, none⟩ = some (.int .u64 0) := (blk_cell BK152.out 0).trans rfl; have hcz11_1 : w10.cell? ⟨gb152, 1, none⟩ = some (.string (⟨#[]⟩ : ByteArray)) := (blk_cell BK152.out 1).trans rfl; have hcz11_2 : w10.cell? ⟨gb152, 2, none⟩ = some (.bool false) := (blk_cell BK152.out 2).trans rfl; have hcz11_3 : w10.cell? ⟨gb152, 3, none⟩ = some (.int .i64 0) := (blk_cell BK152.out 3).trans rfl; have hfz11_0 := blk_frozen BK152.out 0; have hfz11_1 := blk_frozen BK152.out 1; have hfz11_2 := blk_frozen BK152.out 2; have hfz11_3 := blk_frozen BK152.out 3; have p153 : 0 ≤ (x5_1 : Int) := of_decide_eq_true (by first | (with_reducible assumption) | assumption); have q153 : x5_1 < (l0.length : Int) := of_decide_eq_true (by first | (with_reducible assumption) | assumption); obtain ⟨ad153, e153, hx153_0, hx153_1, hx153_2⟩ := at_T42 HR0.out x5_1 p153 q153; obtain rfl : ad146 = ad153 := (by injection e153); have hn153_0 : ad146.block ≠ gb152 := Nat.ne_of_lt (Nat.lt_of_lt_of_le (by have := World.block_lt_of_cell? _ _ hx153_0; first | rwa [add_block] at this | exact this) GW152.out); have hn153_1 : ad146.block ≠ gb152 := Nat.ne_of_lt (Nat.lt_of_lt_of_le (by have := World.block_lt_of_cell? _ _ hx153_0; first | rwa [add_block] at this | exact this) GW152.out); have hn153_2 : ad146.block ≠ gb152 := Nat.ne_of_lt (Nat.lt_of_lt_of_le (by have := World.block_lt_of_cell? _ _ hx153_0; first | rwa [add_block] at this | exact this) GW152.out); have hn153_3 : ad146.block ≠ gb152 := Nat.ne_of_lt (Nat.lt_of_lt_of_le (by have := World.block_lt_of_cell? _ _ hx153_0; first | rwa [add_block] at this | exact this) GW152.out); replace hx153_0 := (HB.out.cell (World.block_lt_of_cell? w _ hx153_0)).trans hx153_0; replace hx153_1 := (HB.out.cell (World.block_lt_of_cell? w _ hx153_1)).trans hx153_1; replace hx153_2 := (HB.out.cell (World.block_lt_of_cell? w _ hx153_2)).trans hx153_2; replace hx153_0 := (cell_far (p := ⟨gb152, 0, none⟩) (by first | (rw [add_block]; exact hn153_0) | (show (Addr.add _ _).block ≠ _; rw [add_block]; exact hn153_0) | exact hn153_0) (.int .u64 t148)).trans hx153_0; replace hx153_1 := (cell_far (p := ⟨gb152, 0, none⟩) (by first | (rw [add_block]; exact hn153_0) | (show (Addr.add _ _).block ≠ _; rw [add_block]; exact hn153_0) | exact hn153_0) (.int .u64 t148)).trans hx153_1; replace hx153_2 := (cell_far (p := ⟨gb152, 0, none⟩) (by first | (rw [add_block]; exact hn153_0) | (show (Addr.add _ _).block ≠ _; rw [add_block]; exact hn153_0) | exact hn153_0) (.int .u64 t148)).trans hx153_2; replace hx153_0 := (cell_far (p := ⟨gb152, 1, none⟩) (by first | (rw [add_block]; exact hn153_1) | (show (Addr.add _ _).block ≠ _; rw [add_block]; exact hn153_1) | exact hn153_1) (.string t149)).trans hx153_0; replace hx153_1 := (cell_far (p := ⟨gb152, 1, none⟩) (by first | (rw [add_block]; exact hn153_1) | (show (Addr.add _ _).block ≠ _; rw [add_block]; exact hn153_1) | exact hn153_1) (.string t149)).trans hx153_1; replace hx153_2 := (cell_far (p := ⟨gb152, 1, none⟩) (by first | (rw [add_block]; exact hn153_1) | (show (Addr.add _ _).block ≠ _; rw [add_block]; exact hn153_1) | exact hn153_1) (.string t149)).trans hx153_2; replace hx153_0 := (cell_far (p := ⟨gb152, 2, none⟩) (by first | (rw [add_block]; exact hn153_2) | (show (Addr.add _ _).block ≠ _; rw [add_block]; exact hn153_2) | exact hn153_2) (.bool t150)).trans hx153_0; replace hx153_1 := (cell_far (p := ⟨gb152, 2, none⟩) (by first | (rw [add_block]; exact hn153_2) | (show (Addr.add _ _).block ≠ _; rw [add_block]; exact hn153_2) | exact hn153_2) (.bool t150)).trans hx153_1; replace hx153_2 := (cell_far (p := ⟨gb152, 2, none⟩) (by first | (rw [add_block]; exact hn153_2) | (show (Addr.add _ _).block ≠ _; rw [add_block]; exact hn153_2) | exact hn153_2) (.bool t150)).trans hx153_2; replace hx153_0 := (cell_far (p := ⟨gb152, 3, none⟩) (by first | (rw [add_block]; exact hn153_3) | (show (Addr.add _ _).block ≠ _; rw [add_block]; exact hn153_3) | exact hn153_3) (.int .i64 t151)).trans hx153_0; replace hx153_1 := (cell_far (p := ⟨gb152, 3, none⟩) (by first | (rw [add_block]; exact hn153_3) | (show (Addr.add _ _).block ≠ _; rw [add_block]; exact hn153_3) | exact hn153_3) (.int .i64 t151)).trans hx153_1; replace hx153_2 := (cell_far (p := ⟨gb152, 3, none⟩) (by first | (rw [add_block]; exact hn153_3) | (show (Addr.add _ _).block ≠ _; rw [add_block]; exact hn153_3) | exact hn153_3) (.int .i64 t151)).trans hx153_2; clear hn153_0; clear hn153_1; clear hn153_2; clear hn153_3; replace p153 := eq_true p153; replace q153 := eq_true q153))
        (try simp only [Act.put, List.setIfInBounds_toArray, List.set_cons_zero, List.set_cons_succ])
        go_cut [9, 10] (fun v9 v10 wc => ∃ (kq : Nat) (x9_7 : List (S25)) (x10_7 : Int) (x153001_7 : ByteArray) (x153002_7 : Bool), v10 = .int .i64 x10_7 ∧ Aside0 (cellarerlaw05_ChainKeeps.j2 kq l0 x3_1 x4_1 x5_1 (wrap64 (Int.tmod ((rd_T42 l0 x5_1).f0) 3)) x9_7 x10_7 t148 x153001_7 x153002_7 t151 = some r) ∧ Aside0 (kq ≤ kj1) ∧ Aside0 (Kd.R k25 25 wc w.heap.size (fun k_ => some k_ ≠ (.map (some w.heap.size) : Value).ownBlock ∧ k_ ≠ gb152) u3 x3_1) ∧ Aside0 (ChMap.MK wc w.heap.size x4_1) ∧ Aside0 (Kd.R k25 25 wc w.heap.size (fun k_ => some k_ ≠ (.map (some w.heap.size) : Value).ownBlock ∧ k_ ≠ gb152) v9 x9_7) ∧ Aside0 (wc.heap[gb152]? = some (.cells #[.int .u64 t148, .string x153001_7, .bool x153002_7, .int .i64 t151] 25 (0, 0))) ∧ Aside0 (Below w.heap.size w wc))
        case first => as_aux_lemma =>
         have H := HC8.out
         clear HC8
         obtain ⟨bq12, hbq12⟩ : ∃ b_ : Bool, b_ = ((rd_T42 l0 x5_1).f1) := ⟨_, rfl⟩
         replace H : (if bq12 = true then ((chain_Delete.f kj1 x3_1 (wrap64 (Int.tmod ((rd_T42 l0 x5_1).f0) 3)) (IntKind.u64.wrap (wrap64 (x5_1 + 1))) x5_1).bind fun bt154 => (cellarerlaw05_ChainKeeps.j2 kj1 l0 x3_1 x4_1 x5_1 (wrap64 (Int.tmod ((rd_T42 l0 x5_1).f0) 3)) bt154.1 bt154.2 t148 (⟨#[]⟩ : ByteArray) true t151)) else ((chain_Put.f x3_1 (wrap64 (Int.tmod ((rd_T42 l0 x5_1).f0) 3)) t148 t149 t150 t151).bind fun bt158 => (cellarerlaw05_ChainKeeps.j2 kj1 l0 x3_1 x4_1 x5_1 (wrap64 (Int.tmod ((rd_T42 l0 x5_1).f0) 3)) bt158.1 bt158.2 t148 t149 t150 t151))) = some r := by rw [← hbq12] at H; exact H
         have Nbq12 := Aside0.mk hbq12
         clear hbq12
         (try rw [← Nbq12.out])
         by_cases c13 : bq12 = true
         ·subst c13
          have H1 : ((chain_Delete.f kj1 x3_1 (wrap64 (Int.tmod ((rd_T42 l0 x5_1).f0) 3)) (IntKind.u64.wrap (wrap64 (x5_1 + 1))) x5_1).bind fun bt154 => (cellarerlaw05_ChainKeeps.j2 kj1 l0 x3_1 x4_1 x5_1 (wrap64 (Int.tmod ((rd_T42 l0 x5_1).f0) 3)) bt154.1 bt154.2 t148 (⟨#[]⟩ : ByteArray) true t151)) = some r := by rw [if_pos rfl] at H; exact H
          clear H
          have H := H1
          clear H1
          replace H := Option.bind_eq_some_iff.mp H
          obtain ⟨⟨t154, t155⟩, A140, H⟩ := H
          replace H : (cellarerlaw05_ChainKeeps.j2 kj1 l0 x3_1 x4_1 x5_1 (wrap64 (Int.tmod ((rd_T42 l0 x5_1).f0) 3)) t154 t155 t148 (⟨#[]⟩ : ByteArray) true t151) = some r := H
          have A14 := Aside0.mk A140
          clear A140
          have H' := Aside0.mk H
          clear H
          have hcz15_0 : w10.cell? ⟨gb152, 0, none⟩ = some (.int .u64 0) := (blk_cell BK152.out 0).trans rfl
          have hcz15_1 : w10.cell? ⟨gb152, 1, none⟩ = some (.string (⟨#[]⟩ : ByteArray)) := (blk_cell BK152.out 1).trans rfl
          have hcz15_2 : w10.cell? ⟨gb152, 2, none⟩ = some (.bool false) := (blk_cell BK152.out 2).trans rfl
          have hcz15_3 : w10.cell? ⟨gb152, 3, none⟩ = some (.int .i64 0) := (blk_cell BK152.out 3).trans rfl
          have hfz15_0 := blk_frozen BK152.out 0
          have hfz15_1 := blk_frozen BK152.out 1
          have hfz15_2 := blk_frozen BK152.out 2
          have hfz15_3 := blk_frozen BK152.out 3
          obtain ⟨Ao16, co16, eo16⟩ := Kd.R_slice HO_3.out
          subst eo16
          go_wp2_with (first | ((with_reducible refine gate_callee (f := 14) rfl ?_); refine goesL_ (some 60) rfl rfl Try.func14 (by kernel_rfl) rfl #[.slice Ao16 x3_1.length co16, .int .i64 (wrap64 (Int.tmod ((rd_T42 l0 x5_1).f0) 3)), .int .u64 (IntKind.u64.wrap (wrap64 (x5_1 + 1))), .int .i64 x5_1] rfl (by (try simp only [List.map_toArray, List.map_cons, List.map_nil]); first | done | rfl | (simp only [List.length_drop, List.length_take]; rfl)) ?_; (with_reducible refine (chain_Delete.calls kj1 _ _ x3_1 (wrap64 (Int.tmod ((rd_T42 l0 x5_1).f0) 3)) (IntKind.u64.wrap (wrap64 (x5_1 + 1))) x5_1 t154 t155 _ ?side1 ?side2 A14.out).mono ?_); (case side1 => refine (Kd.R_reads' (e := 25) (base := w.heap.size) (ok := fun k_ => (some k_ ≠ (.map (some w.heap.size) : Value).ownBlock ∧ k_ ≠ gb152)) (n := x3_1.length) (c := co16) ?_).2.2; exact (by (with_reducible repeat (first | apply Kd.R_alloc | apply Kd.R_drewN | apply Kd.R_drew)); exact (Kd.R_mono (Kd.R_far (p := ⟨gb152, 2, none⟩) (Kd.R_far (p := ⟨gb152, 1, none⟩) (Kd.R_far (p := ⟨gb152, 3, none⟩) (Kd.R_far (p := ⟨gb152, 2, none⟩) (Kd.R_far (p := ⟨gb152, 1, none⟩) (Kd.R_far (p := ⟨gb152, 0, none⟩) (Kd.R_mono HO_3.out (fun k_ hk => (⟨hk, hk.2⟩ : _ ∧ k_ ≠ gb152))) (fun _ hk => hk.2) (.int .u64 t148)) (fun _ hk => hk.2) (.string t149)) (fun _ hk => hk.2) (.bool t150)) (fun _ hk => hk.2) (.int .i64 t151)) (fun _ hk => hk.2) (.string (⟨#[]⟩ : ByteArray))) (fun _ hk => hk.2) (.bool true)) (fun _ h_ => h_.1)))); (case side2 => exact (Kd.R_reads' HO_3.out).2.1); rintro e w17 ⟨v156, rfl, ho0, hb⟩; refine ⟨_, rfl, ?_⟩; have n0_ := Aside0.mk (Kd.R_elder' (by (with_reducible repeat (first | apply Kd.R_alloc | apply Kd.R_drewN | apply Kd.R_drew)); exact (Kd.R_mono (Kd.R_far (p := ⟨gb152, 2, none⟩) (Kd.R_far (p := ⟨gb152, 1, none⟩) (Kd.R_far (p := ⟨gb152, 3, none⟩) (Kd.R_far (p := ⟨gb152, 2, none⟩) (Kd.R_far (p := ⟨gb152, 1, none⟩) (Kd.R_far (p := ⟨gb152, 0, none⟩) (Kd.R_mono HO_3.out (fun k_ hk => (⟨hk, hk.2⟩ : _ ∧ k_ ≠ gb152))) (fun _ hk => hk.2) (.int .u64 t148)) (fun _ hk => hk.2) (.string t149)) (fun _ hk => hk.2) (.bool t150)) (fun _ hk => hk.2) (.int .i64 t151)) (fun _ hk => hk.2) (.string (⟨#[]⟩ : ByteArray))) (fun _ hk => hk.2) (.bool true)) (fun _ h_ => h_.1))) (Kd.R_base ho0) hb); have n1_ := Aside0.mk (ChMap.MK_below (by (with_reducible repeat (first | apply ChMap.MK_alloc | apply ChMap.MK_drewN | apply ChMap.MK_drew)); exact (ChMap.MK_far (ChMap.MK_far (ChMap.MK_far (ChMap.MK_far (ChMap.MK_far (ChMap.MK_far HO_4.out (ChMap.ne HO_4.out BK152.out) 0 (.int .u64 t148)) (ChMap.ne HO_4.out BK152.out) 1 (.string t149)) (ChMap.ne HO_4.out BK152.out) 2 (.bool t150)) (ChMap.ne HO_4.out BK152.out) 3 (.int .i64 t151)) (ChMap.ne HO_4.out BK152.out) 1 (.string (⟨#[]⟩ : ByteArray))) (ChMap.ne HO_4.out BK152.out) 2 (.bool true))) hb); have n2_ := Aside0.mk (Kd.R_lower (Kd.R_newB (Kd.R_new' ho0 (Kd.R_lt (by (with_reducible repeat (first | apply Kd.R_alloc | apply Kd.R_drewN | apply Kd.R_drew)); exact (Kd.R_mono (Kd.R_far (p := ⟨gb152, 2, none⟩) (Kd.R_far (p := ⟨gb152, 1, none⟩) (Kd.R_far (p := ⟨gb152, 3, none⟩) (Kd.R_far (p := ⟨gb152, 2, none⟩) (Kd.R_far (p := ⟨gb152, 1, none⟩) (Kd.R_far (p := ⟨gb152, 0, none⟩) (Kd.R_mono HO_3.out (fun k_ hk => (⟨hk, hk.2⟩ : _ ∧ k_ ≠ gb152))) (fun _ hk => hk.2) (.int .u64 t148)) (fun _ hk => hk.2) (.string t149)) (fun _ hk => hk.2) (.bool t150)) (fun _ hk => hk.2) (.int .i64 t151)) (fun _ hk => hk.2) (.string (⟨#[]⟩ : ByteArray))) (fun _ hk => hk.2) (.bool true)) (fun _ h_ => h_.1))))) (g := gb152) (o := .cells #[.int .u64 t148, .string (⟨#[]⟩ : ByteArray), .bool true, .int .i64 t151] 25 (0, 0)) (by (with_reducible repeat (first | refine blk_drewN ?_ _ | refine blk_drew ?_ | refine blk_alloc ?_ _)); refine blk_put (cs := #[.int .u64 t148, .string (⟨#[]⟩ : ByteArray), .bool t150, .int .i64 t151]) ?_ 2 _ rfl; (with_reducible repeat (first | refine blk_drewN ?_ _ | refine blk_drew ?_ | refine blk_alloc ?_ _)); refine blk_put (cs := #[.int .u64 t148, .string t149, .bool t150, .int .i64 t151]) ?_ 1 _ rfl; (with_reducible repeat (first | refine blk_drewN ?_ _ | refine blk_drew ?_ | refine blk_alloc ?_ _)); refine blk_put (cs := #[.int .u64 t148, .string t149, .bool t150, .int .i64 0]) ?_ 3 _ rfl; (with_reducible repeat (first | refine blk_drewN ?_ _ | refine blk_drew ?_ | refine blk_alloc ?_ _)); refine blk_put (cs := #[.int .u64 t148, .string t149, .bool false, .int .i64 0]) ?_ 2 _ rfl; (with_reducible repeat (first | refine blk_drewN ?_ _ | refine blk_drew ?_ | refine blk_alloc ?_ _)); refine blk_put (cs := #[.int .u64 t148, .string (⟨#[]⟩ : ByteArray), .bool false, .int .i64 0]) ?_ 1 _ rfl; (with_reducible repeat (first | refine blk_drewN ?_ _ | refine blk_drew ?_ | refine blk_alloc ?_ _)); refine blk_put (cs := #[.int .u64 0, .string (⟨#[]⟩ : ByteArray), .bool false, .int .i64 0]) ?_ 0 _ rfl; (with_reducible repeat (first | refine blk_drewN ?_ _ | refine blk_drew ?_ | refine blk_alloc ?_ _)); exact BK152.out)) (below_size (by repeat (first | (with_reducible first | exact HB.out | apply below_alloc | apply pw_below_drewN | apply below_drew1 | refine below_set ?_ GE152.out) | exact HB.out)))); have n3_ := Aside0.mk (blk_below (g := gb152) (o := .cells #[.int .u64 t148, .string (⟨#[]⟩ : ByteArray), .bool true, .int .i64 t151] 25 (0, 0)) (by (with_reducible repeat (first | refine blk_drewN ?_ _ | refine blk_drew ?_ | refine blk_alloc ?_ _)); refine blk_put (cs := #[.int .u64 t148, .string (⟨#[]⟩ : ByteArray), .bool t150, .int .i64 t151]) ?_ 2 _ rfl; (with_reducible repeat (first | refine blk_drewN ?_ _ | refine blk_drew ?_ | refine blk_alloc ?_ _)); refine blk_put (cs := #[.int .u64 t148, .string t149, .bool t150, .int .i64 t151]) ?_ 1 _ rfl; (with_reducible repeat (first | refine blk_drewN ?_ _ | refine blk_drew ?_ | refine blk_alloc ?_ _)); refine blk_put (cs := #[.int .u64 t148, .string t149, .bool t150, .int .i64 0]) ?_ 3 _ rfl; (with_reducible repeat (first | refine blk_drewN ?_ _ | refine blk_drew ?_ | refine blk_alloc ?_ _)); refine blk_put (cs := #[.int .u64 t148, .string t149, .bool false, .int .i64 0]) ?_ 2 _ rfl; (with_reducible repeat (first | refine blk_drewN ?_ _ | refine blk_drew ?_ | refine blk_alloc ?_ _)); refine blk_put (cs := #[.int .u64 t148, .string (⟨#[]⟩ : ByteArray), .bool false, .int .i64 0]) ?_ 1 _ rfl; (with_reducible repeat (first | refine blk_drewN ?_ _ | refine blk_drew ?_ | refine blk_alloc ?_ _)); refine blk_put (cs := #[.int .u64 0, .string (⟨#[]⟩ : ByteArray), .bool false, .int .i64 0]) ?_ 0 _ rfl; (with_reducible repeat (first | refine blk_drewN ?_ _ | refine blk_drew ?_ | refine blk_alloc ?_ _)); exact BK152.out) hb); have n4_ := Aside0.mk (below_step (by repeat (first | (with_reducible first | exact HB.out | apply below_alloc | apply pw_below_drewN | apply below_drew1 | refine below_set ?_ GE152.out) | exact HB.out)) hb); clear HO_3; clear HO_4; clear BK152; clear HB; have HO_3 := n0_; have HO_4 := n1_; have HO157 := n2_; have BK152 := n3_; have HB := n4_; clear n0_ n1_ n2_ n3_ n4_; (try clear hb); (try clear hb2); (try clear hk); (try clear hi); (try clear ho0)))
          go_meet
          case rel => exact ⟨_, (t154), (t155), ((⟨#[]⟩ : ByteArray)), (true), (by first | rfl | (simp; done) | (simp [*]; done)), H', ⟨by have := HK1.out; have := HJ1.out; first | omega | exact Nat.le_refl _⟩, ⟨by (with_reducible repeat (first | apply Kd.R_alloc | apply Kd.R_drewN | apply Kd.R_drew)); exact Kd.R_mono HO_3.out (fun _ hk => hk.1)⟩, ⟨(by (with_reducible repeat (first | apply ChMap.MK_alloc | apply ChMap.MK_drewN | apply ChMap.MK_drew)); exact HO_4.out)⟩, ⟨by (with_reducible repeat (first | apply Kd.R_alloc | apply Kd.R_drewN | apply Kd.R_drew)); exact Kd.R_mono HO157.out (fun _ hk => ⟨by simp [Value.ownBlock], hk.2⟩)⟩, ⟨by (with_reducible repeat (first | refine blk_drewN ?_ _ | refine blk_drew ?_ | refine blk_alloc ?_ _)); exact BK152.out⟩, ⟨by repeat (first | (with_reducible first | exact HB.out | apply below_alloc | apply pw_below_drewN | apply below_drew1 | refine below_set ?_ GE152.out) | exact HB.out)⟩⟩
         ·replace c13 := Bool.eq_false_iff.mpr c13
          subst c13
          have H1 : ((chain_Put.f x3_1 (wrap64 (Int.tmod ((rd_T42 l0 x5_1).f0) 3)) t148 t149 t150 t151).bind fun bt158 => (cellarerlaw05_ChainKeeps.j2 kj1 l0 x3_1 x4_1 x5_1 (wrap64 (Int.tmod ((rd_T42 l0 x5_1).f0) 3)) bt158.1 bt158.2 t148 t149 t150 t151)) = some r := by rw [if_neg (show ¬ (false = true) by decide)] at H; exact H
          clear H
          have H := H1
          clear H1
          replace H := Option.bind_eq_some_iff.mp H
          obtain ⟨⟨t158, t161⟩, A180, H⟩ := H
          replace H : (cellarerlaw05_ChainKeeps.j2 kj1 l0 x3_1 x4_1 x5_1 (wrap64 (Int.tmod ((rd_T42 l0 x5_1).f0) 3)) t158 t161 t148 t149 t150 t151) = some r := H
          have A18 := Aside0.mk A180
          clear A180
          have H' := Aside0.mk H
          clear H
          have hcz19_0 : w10.cell? ⟨gb152, 0, none⟩ = some (.int .u64 0) := (blk_cell BK152.out 0).trans rfl
          have hcz19_1 : w10.cell? ⟨gb152, 1, none⟩ = some (.string (⟨#[]⟩ : ByteArray)) := (blk_cell BK152.out 1).trans rfl
          have hcz19_2 : w10.cell? ⟨gb152, 2, none⟩ = some (.bool false) := (blk_cell BK152.out 2).trans rfl
          have hcz19_3 : w10.cell? ⟨gb152, 3, none⟩ = some (.int .i64 0) := (blk_cell BK152.out 3).trans rfl
          have hfz19_0 := blk_frozen BK152.out 0
          have hfz19_1 := blk_frozen BK152.out 1
          have hfz19_2 := blk_frozen BK152.out 2
          have hfz19_3 := blk_frozen BK152.out 3
          obtain ⟨Ao20, co20, eo20⟩ := Kd.R_slice HO_3.out
          subst eo20
          go_wp2_with (first | ((with_reducible refine gate_callee (f := 12) rfl ?_); refine goesL_ (some 67) rfl rfl Try.func12 (by kernel_rfl) rfl #[.slice Ao20 x3_1.length co20, .int .i64 (wrap64 (Int.tmod ((rd_T42 l0 x5_1).f0) 3)), .agg #[.int .u64 t148, .string t149, .bool t150, .int .i64 t151]] rfl (by (try simp only [List.map_toArray, List.map_cons, List.map_nil]); first | done | rfl | (simp only [List.length_drop, List.length_take]; rfl)) ?_; (with_reducible refine (chain_Put.calls _ _ x3_1 (wrap64 (Int.tmod ((rd_T42 l0 x5_1).f0) 3)) t148 t149 t150 t151 t158 t161 _ ?side1 ?side2 A18.out).mono ?_); (case side1 => refine (Kd.R_reads' (e := 25) (base := w.heap.size) (ok := fun k_ => (some k_ ≠ (.map (some w.heap.size) : Value).ownBlock ∧ k_ ≠ gb152)) (n := x3_1.length) (c := co20) ?_).2.2; exact (by (with_reducible repeat (first | apply Kd.R_alloc | apply Kd.R_drewN | apply Kd.R_drew)); exact (Kd.R_mono (Kd.R_far (p := ⟨gb152, 3, none⟩) (Kd.R_far (p := ⟨gb152, 2, none⟩) (Kd.R_far (p := ⟨gb152, 1, none⟩) (Kd.R_far (p := ⟨gb152, 0, none⟩) (Kd.R_mono HO_3.out (fun k_ hk => (⟨hk, hk.2⟩ : _ ∧ k_ ≠ gb152))) (fun _ hk => hk.2) (.int .u64 t148)) (fun _ hk => hk.2) (.string t149)) (fun _ hk => hk.2) (.bool t150)) (fun _ hk => hk.2) (.int .i64 t151)) (fun _ h_ => h_.1)))); (case side2 => exact (Kd.R_reads' HO_3.out).2.1); rintro e w21 ⟨v159, rfl, ho0, hb⟩; refine ⟨_, rfl, ?_⟩; have n0_ := Aside0.mk (Kd.R_elder' (by (with_reducible repeat (first | apply Kd.R_alloc | apply Kd.R_drewN | apply Kd.R_drew)); exact (Kd.R_mono (Kd.R_far (p := ⟨gb152, 3, none⟩) (Kd.R_far (p := ⟨gb152, 2, none⟩) (Kd.R_far (p := ⟨gb152, 1, none⟩) (Kd.R_far (p := ⟨gb152, 0, none⟩) (Kd.R_mono HO_3.out (fun k_ hk => (⟨hk, hk.2⟩ : _ ∧ k_ ≠ gb152))) (fun _ hk => hk.2) (.int .u64 t148)) (fun _ hk => hk.2) (.string t149)) (fun _ hk => hk.2) (.bool t150)) (fun _ hk => hk.2) (.int .i64 t151)) (fun _ h_ => h_.1))) (Kd.R_base ho0) hb); have n1_ := Aside0.mk (ChMap.MK_below (by (with_reducible repeat (first | apply ChMap.MK_alloc | apply ChMap.MK_drewN | apply ChMap.MK_drew)); exact (ChMap.MK_far (ChMap.MK_far (ChMap.MK_far (ChMap.MK_far HO_4.out (ChMap.ne HO_4.out BK152.out) 0 (.int .u64 t148)) (ChMap.ne HO_4.out BK152.out) 1 (.string t149)) (ChMap.ne HO_4.out BK152.out) 2 (.bool t150)) (ChMap.ne HO_4.out BK152.out) 3 (.int .i64 t151))) hb); have n2_ := Aside0.mk (Kd.R_lower (Kd.R_newB (Kd.R_new' ho0 (Kd.R_lt (by (with_reducible repeat (first | apply Kd.R_alloc | apply Kd.R_drewN | apply Kd.R_drew)); exact (Kd.R_mono (Kd.R_far (p := ⟨gb152, 3, none⟩) (Kd.R_far (p := ⟨gb152, 2, none⟩) (Kd.R_far (p := ⟨gb152, 1, none⟩) (Kd.R_far (p := ⟨gb152, 0, none⟩) (Kd.R_mono HO_3.out (fun k_ hk => (⟨hk, hk.2⟩ : _ ∧ k_ ≠ gb152))) (fun _ hk => hk.2) (.int .u64 t148)) (fun _ hk => hk.2) (.string t149)) (fun _ hk => hk.2) (.bool t150)) (fun _ hk => hk.2) (.int .i64 t151)) (fun _ h_ => h_.1))))) (g := gb152) (o := .cells #[.int .u64 t148, .string t149, .bool t150, .int .i64 t151] 25 (0, 0)) (by (with_reducible repeat (first | refine blk_drewN ?_ _ | refine blk_drew ?_ | refine blk_alloc ?_ _)); refine blk_put (cs := #[.int .u64 t148, .string t149, .bool t150, .int .i64 0]) ?_ 3 _ rfl; (with_reducible repeat (first | refine blk_drewN ?_ _ | refine blk_drew ?_ | refine blk_alloc ?_ _)); refine blk_put (cs := #[.int .u64 t148, .string t149, .bool false, .int .i64 0]) ?_ 2 _ rfl; (with_reducible repeat (first | refine blk_drewN ?_ _ | refine blk_drew ?_ | refine blk_alloc ?_ _)); refine blk_put (cs := #[.int .u64 t148, .string (⟨#[]⟩ : ByteArray), .bool false, .int .i64 0]) ?_ 1 _ rfl; (with_reducible repeat (first | refine blk_drewN ?_ _ | refine blk_drew ?_ | refine blk_alloc ?_ _)); refine blk_put (cs := #[.int .u64 0, .string (⟨#[]⟩ : ByteArray), .bool false, .int .i64 0]) ?_ 0 _ rfl; (with_reducible repeat (first | refine blk_drewN ?_ _ | refine blk_drew ?_ | refine blk_alloc ?_ _)); exact BK152.out)) (below_size (by repeat (first | (with_reducible first | exact HB.out | apply below_alloc | apply pw_below_drewN | apply below_drew1 | refine below_set ?_ GE152.out) | exact HB.out)))); have n3_ := Aside0.mk (blk_below (g := gb152) (o := .cells #[.int .u64 t148, .string t149, .bool t150, .int .i64 t151] 25 (0, 0)) (by (with_reducible repeat (first | refine blk_drewN ?_ _ | refine blk_drew ?_ | refine blk_alloc ?_ _)); refine blk_put (cs := #[.int .u64 t148, .string t149, .bool t150, .int .i64 0]) ?_ 3 _ rfl; (with_reducible repeat (first | refine blk_drewN ?_ _ | refine blk_drew ?_ | refine blk_alloc ?_ _)); refine blk_put (cs := #[.int .u64 t148, .string t149, .bool false, .int .i64 0]) ?_ 2 _ rfl; (with_reducible repeat (first | refine blk_drewN ?_ _ | refine blk_drew ?_ | refine blk_alloc ?_ _)); refine blk_put (cs := #[.int .u64 t148, .string (⟨#[]⟩ : ByteArray), .bool false, .int .i64 0]) ?_ 1 _ rfl; (with_reducible repeat (first | refine blk_drewN ?_ _ | refine blk_drew ?_ | refine blk_alloc ?_ _)); refine blk_put (cs := #[.int .u64 0, .string (⟨#[]⟩ : ByteArray), .bool false, .int .i64 0]) ?_ 0 _ rfl; (with_reducible repeat (first | refine blk_drewN ?_ _ | refine blk_drew ?_ | refine blk_alloc ?_ _)); exact BK152.out) hb); have n4_ := Aside0.mk (below_step (by repeat (first | (with_reducible first | exact HB.out | apply below_alloc | apply pw_below_drewN | apply below_drew1 | refine below_set ?_ GE152.out) | exact HB.out)) hb); clear HO_3; clear HO_4; clear BK152; clear HB; have HO_3 := n0_; have HO_4 := n1_; have HO160 := n2_; have BK152 := n3_; have HB := n4_; clear n0_ n1_ n2_ n3_ n4_; (try clear hb); (try clear hb2); (try clear hk); (try clear hi); (try clear ho0)))
          go_meet
          case rel => exact ⟨_, (t158), (t161), (t149), (t150), (by first | rfl | (simp; done) | (simp [*]; done)), H', ⟨by have := HK1.out; have := HJ1.out; first | omega | exact Nat.le_refl _⟩, ⟨by (with_reducible repeat (first | apply Kd.R_alloc | apply Kd.R_drewN | apply Kd.R_drew)); exact Kd.R_mono HO_3.out (fun _ hk => hk.1)⟩, ⟨(by (with_reducible repeat (first | apply ChMap.MK_alloc | apply ChMap.MK_drewN | apply ChMap.MK_drew)); exact HO_4.out)⟩, ⟨by (with_reducible repeat (first | apply Kd.R_alloc | apply Kd.R_drewN | apply Kd.R_drew)); exact Kd.R_mono HO160.out (fun _ hk => ⟨by simp [Value.ownBlock], hk.2⟩)⟩, ⟨by (with_reducible repeat (first | refine blk_drewN ?_ _ | refine blk_drew ?_ | refine blk_alloc ?_ _)); exact BK152.out⟩, ⟨by repeat (first | (with_reducible first | exact HB.out | apply below_alloc | apply pw_below_drewN | apply below_drew1 | refine below_set ?_ GE152.out) | exact HB.out)⟩⟩
        case rest =>
         clear HC8
         try clear c1
         try clear p1
         try clear q1
         try clear hx1
         try clear p2
         try clear c3
         try clear c3b0
         try clear c4
         try clear c5
         try clear c5b0
         try clear c6
         try clear c6b0
         try clear p6
         try clear c7
         try clear c11
         try clear c12
         try clear q12
         try clear c13
         try clear c14
         try clear p14
         try clear q14
         try clear hx14
         try clear p15
         try clear q15
         try clear hx15
         try clear hcz11_0
         try clear hcz11_1
         try clear hcz11_2
         try clear hcz11_3
         try clear hcz15_0
         try clear hcz15_1
         try clear hcz15_2
         try clear hcz15_3
         try clear hcz19_0
         try clear hcz19_1
         try clear hcz19_2
         try clear hcz19_3
         try clear hfz11_0
         try clear hfz11_1
         try clear hfz11_2
         try clear hfz11_3
         try clear hfz15_0
         try clear hfz15_1
         try clear hfz15_2
         try clear hfz15_3
         try clear hfz19_0
         try clear hfz19_1
         try clear hfz19_2
         try clear hfz19_3
         try clear hx146_0
         try clear hx146_1
         try clear hx146_2
         try clear hx147_0
         try clear hx147_1
         try clear hx147_2
         try clear hx153_0
         try clear hx153_1
         try clear hx153_2
         try clear p146
         try clear p147
         try clear p153
         try clear p2
         try clear q146
         try clear q147
         try clear q153
         obtain ⟨kq, x9_7, x10_7, x153001_7, x153002_7, rfl, HA, HJ7, HO_3, HO_4, HO_9, BK152, HB⟩ := hcut
         cases kq with
         | zero => exact absurd HA.out (by simp [cellarerlaw05_ChainKeeps.j2])
         | succ kj7 =>
          have H := HA.out
          clear HA
          simp only [cellarerlaw05_ChainKeeps.j2] at H
          by_cases c22 : x10_7 = 0
          ·rw [if_pos c22] at H
           have c22b0 : (x10_7 == 0) = true := beq_iff_eq.mpr c22
           have c22b1 : (x10_7 != 0) = false := bne_eq_false_iff_eq.mpr c22
           clear c22
           have HC23 := Aside0.mk H
           clear H
           go_upto_if 102 with (fail)
           go_cut [] (fun wc => ∃ (kq : Nat) (x4_22 : List (S25)), Aside0 (cellarerlaw05_ChainKeeps.j4 kq l0 x4_22 x5_1 (wrap64 (Int.tmod ((rd_T42 l0 x5_1).f0) 3)) x9_7 t148 x153001_7 x153002_7 t151 = some r) ∧ Aside0 (kq ≤ kj7) ∧ Aside0 (ChMap.MK wc w.heap.size x4_22) ∧ Aside0 (Kd.R k25 25 wc w.heap.size (fun k_ => some k_ ≠ (.map (some w.heap.size) : Value).ownBlock ∧ k_ ≠ gb152) u9 x9_7) ∧ Aside0 (wc.heap[gb152]? = some (.cells #[.int .u64 t148, .string x153001_7, .bool x153002_7, .int .i64 t151] 25 (0, 0))) ∧ Aside0 (Below w.heap.size w wc))
           case first => as_aux_lemma =>
            have H := HC23.out
            clear HC23
            by_cases c24 : (wrap64 (Int.tmod ((rd_T42 l0 x5_1).f0) 3)) = 1
            ·rw [if_pos c24] at H
             have c24b0 : ((wrap64 (Int.tmod ((rd_T42 l0 x5_1).f0) 3)) == 1) = true := beq_iff_eq.mpr c24
             have c24b1 : ((wrap64 (Int.tmod ((rd_T42 l0 x5_1).f0) 3)) != 1) = false := bne_eq_false_iff_eq.mpr c24
             clear c24
             (first | rw [c24b0] | rw [c24b1] | (simp only [i64_w, i32_w]; rw [c24b0]) | skip)
             by_cases c25 : x4_1.length < 3518437208883
             ·rw [if_pos c25] at H
              have LMc25 := Aside0.mk c25
              clear c25
              obtain ⟨y164, hy164⟩ : ∃ y_ : List (S25), y_ = (x4_1 ++ [(⟨t148, x153001_7, x153002_7, t151⟩ : S25)]) := ⟨_, rfl⟩
              replace H : (cellarerlaw05_ChainKeeps.j4 kj7 l0 y164 x5_1 (wrap64 (Int.tmod ((rd_T42 l0 x5_1).f0) 3)) x9_7 t148 x153001_7 x153002_7 t151) = some r := by first | (rw [hy164]; with_reducible exact H) | (have H2_ := (Option.bind_some _ _).symm.trans H; rw [hy164]; with_reducible exact H2_) | (have H2_ := (Option.bind_some _ _).symm.trans H; with_reducible exact H2_) | with_reducible exact H | (rw [hy164]; exact H) | exact H
              have Ny164 := Aside0.mk hy164
              clear hy164
              have H' := Aside0.mk H
              clear H
              have hcz26_0 : wc.cell? ⟨gb152, 0, none⟩ = some (.int .u64 t148) := (blk_cell BK152.out 0).trans rfl
              have hcz26_1 : wc.cell? ⟨gb152, 1, none⟩ = some (.string x153001_7) := (blk_cell BK152.out 1).trans rfl
              have hcz26_2 : wc.cell? ⟨gb152, 2, none⟩ = some (.bool x153002_7) := (blk_cell BK152.out 2).trans rfl
              have hcz26_3 : wc.cell? ⟨gb152, 3, none⟩ = some (.int .i64 t151) := (blk_cell BK152.out 3).trans rfl
              have hfz26_0 := blk_frozen BK152.out 0
              have hfz26_1 := blk_frozen BK152.out 1
              have hfz26_2 := blk_frozen BK152.out 2
              have hfz26_3 := blk_frozen BK152.out 3
              go_wp2_with (first | (at_mapUpdate; (refine ChMap.update (base := w.heap.size) (xs := x4_1) (⟨t148, x153001_7, x153002_7, t151⟩ : S25) rfl _ _ _ rfl rfl ?ms rfl ?wf (ChMap.one_id A7.out) rfl ?len ?_; (case ms => exact (by (with_reducible repeat (first | apply ChMap.MK_alloc | apply ChMap.MK_drewN | apply ChMap.MK_drew)); exact HO_4.out)); (case wf => exact Go.wf_wrap .u64 _); (case len => have := LMc25.out; unfold maxLen; omega); intro w27 ho ht_; rw [← Ny164.out] at ho; have n0_ := Aside0.mk (ChMap.R_turn (by (with_reducible repeat (first | apply Kd.R_alloc | apply Kd.R_drewN | apply Kd.R_drew)); exact HO_3.out) ht_); have n1_ := Aside0.mk (ChMap.R_turn (by (with_reducible repeat (first | apply Kd.R_alloc | apply Kd.R_drewN | apply Kd.R_drew)); exact HO_9.out) ht_); have n2_ := Aside0.mk (ChMap.blk_turn (by (with_reducible repeat (first | refine blk_drewN ?_ _ | refine blk_drew ?_ | refine blk_alloc ?_ _)); exact BK152.out) ht_); have n3_ := Aside0.mk (ChMap.below_turn (by repeat (first | (with_reducible first | exact HB.out | apply below_alloc | apply pw_below_drewN | apply below_drew1 | refine below_set ?_ GE152.out) | exact HB.out)) ht_); have n4_ := Aside0.mk ho; clear HO_3 HO_9 BK152 HB HO_4; have HO_3 := n0_; have HO_9 := n1_; have BK152 := n2_; have HB := n3_; have HO_4 := n4_; clear n0_ n1_ n2_ n3_ n4_ ho ht_)))
              go_meet
              case rel => exact ⟨_, (y164), H', ⟨by have := HK1.out; have := HJ1.out; have := HJ7.out; first | omega | exact Nat.le_refl _⟩, ⟨(by (with_reducible repeat (first | apply ChMap.MK_alloc | apply ChMap.MK_drewN | apply ChMap.MK_drew)); exact HO_4.out)⟩, ⟨by (with_reducible repeat (first | apply Kd.R_alloc | apply Kd.R_drewN | apply Kd.R_drew)); exact HO_9.out⟩, ⟨by (with_reducible repeat (first | refine blk_drewN ?_ _ | refine blk_drew ?_ | refine blk_alloc ?_ _)); exact BK152.out⟩, ⟨by repeat (first | (with_reducible first | exact HB.out | apply below_alloc | apply pw_below_drewN | apply below_drew1 | refine below_set ?_ GE152.out) | exact HB.out)⟩⟩
             ·rw [if_neg c25] at H
              exact absurd H (by simp)
            ·rw [if_neg c24] at H
             have c24b0 : ((wrap64 (Int.tmod ((rd_T42 l0 x5_1).f0) 3)) == 1) = false := beq_eq_false_iff_ne.mpr c24
             have c24b1 : ((wrap64 (Int.tmod ((rd_T42 l0 x5_1).f0) 3)) != 1) = true := bne_iff_ne.mpr c24
             (first | rw [c24b0] | rw [c24b1] | (simp only [i64_w, i32_w]; rw [c24b0]) | skip)
             have H' := Aside0.mk H
             clear H
             go_wp2
             go_meet
             case rel => exact ⟨_, (x4_1), H', ⟨by have := HK1.out; have := HJ1.out; have := HJ7.out; first | omega | exact Nat.le_refl _⟩, ⟨(by (with_reducible repeat (first | apply ChMap.MK_alloc | apply ChMap.MK_drewN | apply ChMap.MK_drew)); exact HO_4.out)⟩, ⟨by (with_reducible repeat (first | apply Kd.R_alloc | apply Kd.R_drewN | apply Kd.R_drew)); exact HO_9.out⟩, ⟨by (with_reducible repeat (first | refine blk_drewN ?_ _ | refine blk_drew ?_ | refine blk_alloc ?_ _)); exact BK152.out⟩, ⟨by repeat (first | (with_reducible first | exact HB.out | apply below_alloc | apply pw_below_drewN | apply below_drew1 | refine below_set ?_ GE152.out) | exact HB.out)⟩⟩
           case rest =>
            clear HC23
            try clear c1
            try clear p1
            try clear q1
            try clear hx1
            try clear c2
            try clear p2
            try clear c3
            try clear c3b0
            try clear c4
            try clear c5
            try clear c5b0
            try clear c6
            try clear c6b0
            try clear p6
            try clear c7
            try clear c11
            try clear c12
            try clear q12
            try clear c13
            try clear c14
            try clear p14
            try clear q14
            try clear hx14
            try clear p15
            try clear q15
            try clear hx15
            try clear c22
            try clear c22b0
            try clear c22b1
            try clear c24
            try clear c24b0
            try clear c24b1
            try clear c25
            try clear hcz11_0
            try clear hcz11_1
            try clear hcz11_2
            try clear hcz11_3
            try clear hcz15_0
            try clear hcz15_1
            try clear hcz15_2
            try clear hcz15_3
            try clear hcz19_0
            try clear hcz19_1
            try clear hcz19_2
            try clear hcz19_3
            try clear hcz26_0
            try clear hcz26_1
            try clear hcz26_2
            try clear hcz26_3
            try clear hfz11_0
            try clear hfz11_1
            try clear hfz11_2
            try clear hfz11_3
            try clear hfz15_0
            try clear hfz15_1
            try clear hfz15_2
            try clear hfz15_3
            try clear hfz19_0
            try clear hfz19_1
            try clear hfz19_2
            try clear hfz19_3
            try clear hfz26_0
            try clear hfz26_1
            try clear hfz26_2
            try clear hfz26_3
            try clear hx146_0
            try clear hx146_1
            try clear hx146_2
            try clear hx147_0
            try clear hx147_1
            try clear hx147_2
            try clear hx153_0
            try clear hx153_1
            try clear hx153_2
            try clear p1
            try clear p14
            try clear p146
            try clear p147
            try clear p15
            try clear p153
            try clear p2
            try clear p6
            try clear q1
            try clear q12
            try clear q14
            try clear q146
            try clear q147
            try clear q15
            try clear q153
            obtain ⟨kq, x4_22, HA, HJ22, HO_4, HO_9, BK152, HB⟩ := hcut
            cases kq with
            | zero => exact absurd HA.out (by simp [cellarerlaw05_ChainKeeps.j4])
            | succ kj22 =>
             have H := HA.out
             clear HA
             simp only [cellarerlaw05_ChainKeeps.j4] at H
             have HC28 := Aside0.mk H
             clear H
             go_upto_if 107 with (fail)
             go_cut [] (fun wc => ∃ (kq : Nat) (x153000_27 : Int), Aside0 (cellarerlaw05_ChainKeeps.j5 kq l0 x4_22 x5_1 (wrap64 (Int.tmod ((rd_T42 l0 x5_1).f0) 3)) x9_7 x153000_27 x153001_7 x153002_7 t151 = some r) ∧ Aside0 (kq ≤ kj22) ∧ Aside0 (ChMap.MK wc w.heap.size x4_22) ∧ Aside0 (Kd.R k25 25 wc w.heap.size (fun k_ => some k_ ≠ (.map (some w.heap.size) : Value).ownBlock ∧ k_ ≠ gb152) u9 x9_7) ∧ Aside0 (wc.heap[gb152]? = some (.cells #[.int .u64 x153000_27, .string x153001_7, .bool x153002_7, .int .i64 t151] 25 (0, 0))) ∧ Aside0 (Below w.heap.size w wc))
             case first => as_aux_lemma =>
              have H := HC28.out
              clear HC28
              by_cases c29 : (wrap64 (Int.tmod ((rd_T42 l0 x5_1).f0) 3)) = 1
              ·rw [if_pos c29] at H
               have c29b0 : ((wrap64 (Int.tmod ((rd_T42 l0 x5_1).f0) 3)) == 1) = true := beq_iff_eq.mpr c29
               have c29b1 : ((wrap64 (Int.tmod ((rd_T42 l0 x5_1).f0) 3)) != 1) = false := bne_eq_false_iff_eq.mpr c29
               clear c29
               (first | rw [c29b0] | rw [c29b1] | (simp only [i64_w, i32_w]; rw [c29b0]) | skip)
               have H' := Aside0.mk H
               clear H
               go_wp2
               go_meet
               case rel => exact ⟨_, (t148), H', ⟨by have := HK1.out; have := HJ1.out; have := HJ7.out; have := HJ22.out; first | omega | exact Nat.le_refl _⟩, ⟨(by (with_reducible repeat (first | apply ChMap.MK_alloc | apply ChMap.MK_drewN | apply ChMap.MK_drew)); exact HO_4.out)⟩, ⟨by (with_reducible repeat (first | apply Kd.R_alloc | apply Kd.R_drewN | apply Kd.R_drew)); exact HO_9.out⟩, ⟨by (with_reducible repeat (first | refine blk_drewN ?_ _ | refine blk_drew ?_ | refine blk_alloc ?_ _)); exact BK152.out⟩, ⟨by repeat (first | (with_reducible first | exact HB.out | apply below_alloc | apply pw_below_drewN | apply below_drew1 | refine below_set ?_ GE152.out) | exact HB.out)⟩⟩
              ·rw [if_neg c29] at H
               have c29b0 : ((wrap64 (Int.tmod ((rd_T42 l0 x5_1).f0) 3)) == 1) = false := beq_eq_false_iff_ne.mpr c29
               have c29b1 : ((wrap64 (Int.tmod ((rd_T42 l0 x5_1).f0) 3)) != 1) = true := bne_iff_ne.mpr c29
               (first | rw [c29b0] | rw [c29b1] | (simp only [i64_w, i32_w]; rw [c29b0]) | skip)
               have H' := Aside0.mk H
               clear H
               have hcz30_0 : wc.cell? ⟨gb152, 0, none⟩ = some (.int .u64 t148) := (blk_cell BK152.out 0).trans rfl
               have hcz30_1 : wc.cell? ⟨gb152, 1, none⟩ = some (.string x153001_7) := (blk_cell BK152.out 1).trans rfl
               have hcz30_2 : wc.cell? ⟨gb152, 2, none⟩ = some (.bool x153002_7) := (blk_cell BK152.out 2).trans rfl
               have hcz30_3 : wc.cell? ⟨gb152, 3, none⟩ = some (.int .i64 t151) := (blk_cell BK152.out 3).trans rfl
               have hfz30_0 := blk_frozen BK152.out 0
               have hfz30_1 := blk_frozen BK152.out 1
               have hfz30_2 := blk_frozen BK152.out 2
               have hfz30_3 := blk_frozen BK152.out 3
               go_wp2
               go_meet
               case rel => exact ⟨_, (0), H', ⟨by have := HK1.out; have := HJ1.out; have := HJ7.out; have := HJ22.out; first | omega | exact Nat.le_refl _⟩, ⟨(by (with_reducible repeat (first | apply ChMap.MK_alloc | apply ChMap.MK_drewN | apply ChMap.MK_drew)); exact (ChMap.MK_far HO_4.out (ChMap.ne HO_4.out BK152.out) 0 (.int .u64 0)))⟩, ⟨by (with_reducible repeat (first | apply Kd.R_alloc | apply Kd.R_drewN | apply Kd.R_drew)); exact Kd.R_mono (Kd.R_far (p := ⟨gb152, 0, none⟩) (Kd.R_mono HO_9.out (fun k_ hk => (⟨hk, hk.2⟩ : _ ∧ k_ ≠ gb152))) (fun _ hk => hk.2) (.int .u64 0)) (fun _ hk => ⟨hk.1.1, hk.1.2⟩)⟩, ⟨by (with_reducible repeat (first | refine blk_drewN ?_ _ | refine blk_drew ?_ | refine blk_alloc ?_ _)); refine blk_put (cs := #[.int .u64 t148, .string x153001_7, .bool x153002_7, .int .i64 t151]) ?_ 0 _ rfl; (with_reducible repeat (first | refine blk_drewN ?_ _ | refine blk_drew ?_ | refine blk_alloc ?_ _)); exact BK152.out⟩, ⟨by repeat (first | (with_reducible first | exact HB.out | apply below_alloc | apply pw_below_drewN | apply below_drew1 | refine below_set ?_ GE152.out) | exact HB.out)⟩⟩
             case rest =>
              clear HC28
              try clear c1
              try clear p1
              try clear q1
              try clear hx1
              try clear c2
              try clear p2
              try clear c3
              try clear c3b0
              try clear c4
              try clear c5
              try clear c5b0
              try clear c6
              try clear c6b0
              try clear p6
              try clear c7
              try clear c11
              try clear c12
              try clear q12
              try clear c13
              try clear c14
              try clear p14
              try clear q14
              try clear hx14
              try clear p15
              try clear q15
              try clear hx15
              try clear c22
              try clear c22b0
              try clear c22b1
              try clear c24
              try clear c24b0
              try clear c24b1
              try clear c25
              try clear c29
              try clear c29b0
              try clear c29b1
              try clear hcz11_0
              try clear hcz11_1
              try clear hcz11_2
              try clear hcz11_3
              try clear hcz15_0
              try clear hcz15_1
              try clear hcz15_2
              try clear hcz15_3
              try clear hcz19_0
              try clear hcz19_1
              try clear hcz19_2
              try clear hcz19_3
              try clear hcz26_0
              try clear hcz26_1
              try clear hcz26_2
              try clear hcz26_3
              try clear hcz30_0
              try clear hcz30_1
              try clear hcz30_2
              try clear hcz30_3
              try clear hfz11_0
              try clear hfz11_1
              try clear hfz11_2
              try clear hfz11_3
              try clear hfz15_0
              try clear hfz15_1
              try clear hfz15_2
              try clear hfz15_3
              try clear hfz19_0
              try clear hfz19_1
              try clear hfz19_2
              try clear hfz19_3
              try clear hfz26_0
              try clear hfz26_1
              try clear hfz26_2
              try clear hfz26_3
              try clear hfz30_0
              try clear hfz30_1
              try clear hfz30_2
              try clear hfz30_3
              try clear hx146_0
              try clear hx146_1
              try clear hx146_2
              try clear hx147_0
              try clear hx147_1
              try clear hx147_2
              try clear hx153_0
              try clear hx153_1
              try clear hx153_2
              try clear p1
              try clear p14
              try clear p146
              try clear p147
              try clear p15
              try clear p153
              try clear p2
              try clear p6
              try clear q1
              try clear q12
              try clear q14
              try clear q146
              try clear q147
              try clear q15
              try clear q153
              obtain ⟨kq, x153000_27, HA, HJ27, HO_4, HO_9, BK152, HB⟩ := hcut
              cases kq with
              | zero => exact absurd HA.out (by simp [cellarerlaw05_ChainKeeps.j5])
              | succ kj27 =>
               have H := HA.out
               clear HA
               simp only [cellarerlaw05_ChainKeeps.j5] at H
               replace H := Option.bind_eq_some_iff.mp H
               obtain ⟨⟨t167, t168, t169, t170, t171⟩, A310, H⟩ := H
               replace H : (if (wrap64 (Int.tmod ((rd_T42 l0 x5_1).f0) 3)) = 0 then (if 0 ≤ x5_1 then (if x5_1 < (l0.length : Int) then (cellarerlaw05_ChainKeeps.j6 kj27 l0 x4_22 x5_1 x9_7 t171 (!((rd_T42 l0 x5_1).f1)) x153000_27 x153001_7 x153002_7 t151 t167 t168 t169 t170) else (none)) else (none)) else (cellarerlaw05_ChainKeeps.j6 kj27 l0 x4_22 x5_1 x9_7 t171 true x153000_27 x153001_7 x153002_7 t151 t167 t168 t169 t170)) = some r := H
               have A31 := Aside0.mk A310
               clear A310
               have HC32 := Aside0.mk H
               clear H
               obtain ⟨Ao33, co33, eo33⟩ := Kd.R_slice HO_9.out
               subst eo33
               go_upto_region 21 with (first | ((with_reducible refine gate_callee (f := 22) rfl ?_); refine goesL_ (some 111) rfl rfl Try.func22 (by kernel_rfl) rfl #[.slice Ao33 x9_7.length co33] rfl (by (try simp only [List.map_toArray, List.map_cons, List.map_nil]); first | done | rfl | (simp only [List.length_drop, List.length_take]; rfl)) ?_; (with_reducible refine (chain_Get.calls kj27 _ _ x9_7 t167 t168 t169 t170 t171 _ ?side1 ?side2 A31.out).mono ?_); (case side1 => repeat (first | exact (Kd.R_reads' HO_9.out).2.2 | (with_reducible refine Kd.C_alloc ?_ _) | (with_reducible refine Kd.C_drewN ?_ _) | (with_reducible refine Kd.C_drew ?_))); (case side2 => exact (Kd.R_reads' HO_9.out).2.1); rintro e w34 ⟨rfl, hb⟩; refine ⟨_, rfl, ?_⟩; have n0_ := Aside0.mk (ChMap.MK_below (by (with_reducible repeat (first | apply ChMap.MK_alloc | apply ChMap.MK_drewN | apply ChMap.MK_drew)); exact HO_4.out) hb); have n1_ := Aside0.mk (Kd.R_below (by (with_reducible repeat (first | apply Kd.R_alloc | apply Kd.R_drewN | apply Kd.R_drew)); exact HO_9.out) hb); have n2_ := Aside0.mk (blk_below (g := gb152) (o := .cells #[.int .u64 x153000_27, .string x153001_7, .bool x153002_7, .int .i64 t151] 25 (0, 0)) (by (with_reducible repeat (first | refine blk_drewN ?_ _ | refine blk_drew ?_ | refine blk_alloc ?_ _)); exact BK152.out) hb); have n3_ := Aside0.mk (below_step (by repeat (first | (with_reducible first | exact HB.out | apply below_alloc | apply pw_below_drewN | apply below_drew1 | refine below_set ?_ GE152.out) | exact HB.out)) hb); clear HO_4; clear HO_9; clear BK152; clear HB; have HO_4 := n0_; have HO_9 := n1_; have BK152 := n2_; have HB := n3_; clear n0_ n1_ n2_ n3_; (try clear hb); (try clear hb2); (try clear hk); (try clear hi)) | ((with_reducible refine gate_dst (N := 11) rfl ?_); (try (refine gate_guard (by rfl) ?_; dsimp only)); refine box_event ?hg (N := 11) ?hd (cs := #[.int .u64 0, .string (⟨#[]⟩ : ByteArray), .bool false, .int .i64 0]) (t := 25) ?hr ?_; (case hd => rfl); (case hg => rfl); (case hr => first | (go_simp; done) | (go_simp; rfl)); intro gb172 hg w35 hbox hb; have n0_ := Aside0.mk (ChMap.MK_below (by (with_reducible repeat (first | apply ChMap.MK_alloc | apply ChMap.MK_drewN | apply ChMap.MK_drew)); exact HO_4.out) hb); have n1_ := Aside0.mk (Kd.R_below (Kd.R_elderB (by (with_reducible repeat (first | apply Kd.R_alloc | apply Kd.R_drewN | apply Kd.R_drew)); exact HO_9.out) gb172 (Nat.le_of_eq hg.symm)) hb); have n2_ := Aside0.mk (blk_below (g := gb152) (o := .cells #[.int .u64 x153000_27, .string x153001_7, .bool x153002_7, .int .i64 t151] 25 (0, 0)) (by (with_reducible repeat (first | refine blk_drewN ?_ _ | refine blk_drew ?_ | refine blk_alloc ?_ _)); exact BK152.out) hb); have n3_ := Aside0.mk (below_step (by repeat (first | (with_reducible first | exact HB.out | apply below_alloc | apply pw_below_drewN | apply below_drew1 | refine below_set ?_ GE152.out) | exact HB.out)) hb); have n4_ := Aside0.mk (hbox); have n5_ := Aside0.mk ((by rw [hg]; exact (below_size (by repeat (first | (with_reducible first | exact HB.out | apply below_alloc | apply pw_below_drewN | apply below_drew1 | refine below_set ?_ GE152.out) | exact HB.out))) : w.heap.size ≤ gb172)); have n6_ := Aside0.mk ((by rw [hg]; exact (below_size (by repeat (first | (with_reducible first | exact HB.out | apply below_alloc | apply pw_below_drewN | apply below_drew1 | refine below_set ?_ GE152.out) | exact HB.out))) : w.heap.size ≤ gb172)); have n7_ := Aside0.mk ((by rw [hg]; exact Nat.ne_of_lt (blk_lt (g := gb152) (o := .cells #[.int .u64 x153000_27, .string x153001_7, .bool x153002_7, .int .i64 t151] 25 (0, 0)) (by (with_reducible repeat (first | refine blk_drewN ?_ _ | refine blk_drew ?_ | refine blk_alloc ?_ _)); exact BK152.out)) : gb152 ≠ gb172)); have n8_ := Aside0.mk ((by rw [hg]; exact Nat.ne_of_gt (blk_lt (g := gb152) (o := .cells #[.int .u64 x153000_27, .string x153001_7, .bool x153002_7, .int .i64 t151] 25 (0, 0)) (by (with_reducible repeat (first | refine blk_drewN ?_ _ | refine blk_drew ?_ | refine blk_alloc ?_ _)); exact BK152.out)) : gb172 ≠ gb152)); clear HO_4; clear HO_9; clear BK152; clear HB; have HO_4 := n0_; have HO_9 := n1_; have BK152 := n2_; have HB := n3_; have BK172 := n4_; have GW172 := n5_; have GE172 := n6_; have NB152_172 := n7_; have NB172_152 := n8_; clear n0_ n1_ n2_ n3_ n4_ n5_ n6_ n7_ n8_; clear hb hbox hg; have hnb36 := NB172_152.out; have hnc36 := NB152_172.out; have hcz37_0 : w35.cell? ⟨gb172, 0, none⟩ = some (.int .u64 0) := (blk_cell BK172.out 0).trans rfl; have hcz37_1 : w35.cell? ⟨gb172, 1, none⟩ = some (.string (⟨#[]⟩ : ByteArray)) := (blk_cell BK172.out 1).trans rfl; have hcz37_2 : w35.cell? ⟨gb172, 2, none⟩ = some (.bool false) := (blk_cell BK172.out 2).trans rfl; have hcz37_3 : w35.cell? ⟨gb172, 3, none⟩ = some (.int .i64 0) := (blk_cell BK172.out 3).trans rfl; have hfz37_0 := blk_frozen BK172.out 0; have hfz37_1 := blk_frozen BK172.out 1; have hfz37_2 := blk_frozen BK172.out 2; have hfz37_3 := blk_frozen BK172.out 3))
               (try simp only [Act.put, List.setIfInBounds_toArray, List.set_cons_zero, List.set_cons_succ])
               go_cut [123] (fun v123 wc => ∃ (kq : Nat) (x123_31 : Bool), v123 = .bool x123_31 ∧ Aside0 (cellarerlaw05_ChainKeeps.j6 kq l0 x4_22 x5_1 x9_7 t171 x123_31 x153000_27 x153001_7 x153002_7 t151 t167 t168 t169 t170 = some r) ∧ Aside0 (kq ≤ kj27) ∧ Aside0 (ChMap.MK wc w.heap.size x4_22) ∧ Aside0 (Kd.R k25 25 wc w.heap.size (fun k_ => some k_ ≠ (.map (some w.heap.size) : Value).ownBlock ∧ k_ ≠ gb152 ∧ k_ ≠ gb172) (.slice Ao33 x9_7.length co33) x9_7) ∧ Aside0 (wc.heap[gb152]? = some (.cells #[.int .u64 x153000_27, .string x153001_7, .bool x153002_7, .int .i64 t151] 25 (0, 0))) ∧ Aside0 (wc.heap[gb172]? = some (.cells #[.int .u64 t167, .string t168, .bool t169, .int .i64 t170] 25 (0, 0))) ∧ Aside0 (Below w.heap.size w wc))
               case first => as_aux_lemma =>
                have H := HC32.out
                clear HC32
                by_cases c38 : (wrap64 (Int.tmod ((rd_T42 l0 x5_1).f0) 3)) = 0
                ·rw [if_pos c38] at H
                 have c38b0 : ((wrap64 (Int.tmod ((rd_T42 l0 x5_1).f0) 3)) == 0) = true := beq_iff_eq.mpr c38
                 have c38b1 : ((wrap64 (Int.tmod ((rd_T42 l0 x5_1).f0) 3)) != 0) = false := bne_eq_false_iff_eq.mpr c38
                 clear c38
                 (first | rw [c38b0] | rw [c38b1] | (simp only [i64_w, i32_w]; rw [c38b0]) | skip)
                 by_cases c39 : 0 ≤ x5_1
                 ·rw [if_pos c39] at H
                  have c39b0 : decide (0 ≤ x5_1) = true := decide_eq_true c39
                  clear c39
                  by_cases c40 : x5_1 < (l0.length : Int)
                  ·rw [if_pos c40] at H
                   have c40b0 : decide (x5_1 < (l0.length : Int)) = true := decide_eq_true c40
                   clear c40
                   have H' := Aside0.mk H
                   clear H
                   have p173 : 0 ≤ (x5_1 : Int) := of_decide_eq_true (by first | (with_reducible assumption) | assumption)
                   have q173 : x5_1 < (l0.length : Int) := of_decide_eq_true (by first | (with_reducible assumption) | assumption)
                   obtain ⟨ad173, e173, hx173_0, hx173_1, hx173_2⟩ := at_T42 HR0.out x5_1 p173 q173
                   obtain rfl : ad146 = ad173 := (by injection e173)
                   have hn173_0 : ad146.block ≠ gb172 := Nat.ne_of_lt (Nat.lt_of_lt_of_le (by have := World.block_lt_of_cell? _ _ hx173_0; first | rwa [add_block] at this | exact this) GW172.out)
                   have hn173_1 : ad146.block ≠ gb172 := Nat.ne_of_lt (Nat.lt_of_lt_of_le (by have := World.block_lt_of_cell? _ _ hx173_0; first | rwa [add_block] at this | exact this) GW172.out)
                   have hn173_2 : ad146.block ≠ gb172 := Nat.ne_of_lt (Nat.lt_of_lt_of_le (by have := World.block_lt_of_cell? _ _ hx173_0; first | rwa [add_block] at this | exact this) GW172.out)
                   have hn173_3 : ad146.block ≠ gb172 := Nat.ne_of_lt (Nat.lt_of_lt_of_le (by have := World.block_lt_of_cell? _ _ hx173_0; first | rwa [add_block] at this | exact this) GW172.out)
                   replace hx173_0 := (HB.out.cell (World.block_lt_of_cell? w _ hx173_0)).trans hx173_0
                   replace hx173_1 := (HB.out.cell (World.block_lt_of_cell? w _ hx173_1)).trans hx173_1
                   replace hx173_2 := (HB.out.cell (World.block_lt_of_cell? w _ hx173_2)).trans hx173_2
                   replace hx173_0 := (cell_far (p := ⟨gb172, 0, none⟩) (by first | (rw [add_block]; exact hn173_0) | (show (Addr.add _ _).block ≠ _; rw [add_block]; exact hn173_0) | exact hn173_0) (.int .u64 t167)).trans hx173_0
                   replace hx173_1 := (cell_far (p := ⟨gb172, 0, none⟩) (by first | (rw [add_block]; exact hn173_0) | (show (Addr.add _ _).block ≠ _; rw [add_block]; exact hn173_0) | exact hn173_0) (.int .u64 t167)).trans hx173_1
                   replace hx173_2 := (cell_far (p := ⟨gb172, 0, none⟩) (by first | (rw [add_block]; exact hn173_0) | (show (Addr.add _ _).block ≠ _; rw [add_block]; exact hn173_0) | exact hn173_0) (.int .u64 t167)).trans hx173_2
                   replace hx173_0 := (cell_far (p := ⟨gb172, 1, none⟩) (by first | (rw [add_block]; exact hn173_1) | (show (Addr.add _ _).block ≠ _; rw [add_block]; exact hn173_1) | exact hn173_1) (.string t168)).trans hx173_0
                   replace hx173_1 := (cell_far (p := ⟨gb172, 1, none⟩) (by first | (rw [add_block]; exact hn173_1) | (show (Addr.add _ _).block ≠ _; rw [add_block]; exact hn173_1) | exact hn173_1) (.string t168)).trans hx173_1
                   replace hx173_2 := (cell_far (p := ⟨gb172, 1, none⟩) (by first | (rw [add_block]; exact hn173_1) | (show (Addr.add _ _).block ≠ _; rw [add_block]; exact hn173_1) | exact hn173_1) (.string t168)).trans hx173_2
                   replace hx173_0 := (cell_far (p := ⟨gb172, 2, none⟩) (by first | (rw [add_block]; exact hn173_2) | (show (Addr.add _ _).block ≠ _; rw [add_block]; exact hn173_2) | exact hn173_2) (.bool t169)).trans hx173_0
                   replace hx173_1 := (cell_far (p := ⟨gb172, 2, none⟩) (by first | (rw [add_block]; exact hn173_2) | (show (Addr.add _ _).block ≠ _; rw [add_block]; exact hn173_2) | exact hn173_2) (.bool t169)).trans hx173_1
                   replace hx173_2 := (cell_far (p := ⟨gb172, 2, none⟩) (by first | (rw [add_block]; exact hn173_2) | (show (Addr.add _ _).block ≠ _; rw [add_block]; exact hn173_2) | exact hn173_2) (.bool t169)).trans hx173_2
                   replace hx173_0 := (cell_far (p := ⟨gb172, 3, none⟩) (by first | (rw [add_block]; exact hn173_3) | (show (Addr.add _ _).block ≠ _; rw [add_block]; exact hn173_3) | exact hn173_3) (.int .i64 t170)).trans hx173_0
                   replace hx173_1 := (cell_far (p := ⟨gb172, 3, none⟩) (by first | (rw [add_block]; exact hn173_3) | (show (Addr.add _ _).block ≠ _; rw [add_block]; exact hn173_3) | exact hn173_3) (.int .i64 t170)).trans hx173_1
                   replace hx173_2 := (cell_far (p := ⟨gb172, 3, none⟩) (by first | (rw [add_block]; exact hn173_3) | (show (Addr.add _ _).block ≠ _; rw [add_block]; exact hn173_3) | exact hn173_3) (.int .i64 t170)).trans hx173_2
                   clear hn173_0
                   clear hn173_1
                   clear hn173_2
                   clear hn173_3
                   replace p173 := eq_true p173
                   replace q173 := eq_true q173
                   go_wp2
                   go_meet
                   case rel => exact ⟨_, (!((rd_T42 l0 x5_1).f1)), (by first | rfl | (simp; done) | (simp [*]; done)), H', ⟨by have := HK1.out; have := HJ1.out; have := HJ7.out; have := HJ22.out; have := HJ27.out; first | omega | exact Nat.le_refl _⟩, ⟨(by (with_reducible repeat (first | apply ChMap.MK_alloc | apply ChMap.MK_drewN | apply ChMap.MK_drew)); exact (ChMap.MK_far (ChMap.MK_far (ChMap.MK_far (ChMap.MK_far HO_4.out (ChMap.ne HO_4.out BK172.out) 0 (.int .u64 t167)) (ChMap.ne HO_4.out BK172.out) 1 (.string t168)) (ChMap.ne HO_4.out BK172.out) 2 (.bool t169)) (ChMap.ne HO_4.out BK172.out) 3 (.int .i64 t170)))⟩, ⟨by (with_reducible repeat (first | apply Kd.R_alloc | apply Kd.R_drewN | apply Kd.R_drew)); exact Kd.R_mono (Kd.R_far (p := ⟨gb172, 3, none⟩) (Kd.R_far (p := ⟨gb172, 2, none⟩) (Kd.R_far (p := ⟨gb172, 1, none⟩) (Kd.R_far (p := ⟨gb172, 0, none⟩) (Kd.R_mono HO_9.out (fun k_ hk => (⟨hk, hk.2⟩ : _ ∧ k_ ≠ gb172))) (fun _ hk => hk.2) (.int .u64 t167)) (fun _ hk => hk.2) (.string t168)) (fun _ hk => hk.2) (.bool t169)) (fun _ hk => hk.2) (.int .i64 t170)) (fun _ hk => ⟨hk.1.1.1, ⟨hk.1.1.2, hk.1.2⟩⟩)⟩, ⟨by (with_reducible repeat (first | refine blk_drewN ?_ _ | refine blk_drew ?_ | refine blk_alloc ?_ _)); refine blk_far ?_ NB152_172.out _; (with_reducible repeat (first | refine blk_drewN ?_ _ | refine blk_drew ?_ | refine blk_alloc ?_ _)); refine blk_far ?_ NB152_172.out _; (with_reducible repeat (first | refine blk_drewN ?_ _ | refine blk_drew ?_ | refine blk_alloc ?_ _)); refine blk_far ?_ NB152_172.out _; (with_reducible repeat (first | refine blk_drewN ?_ _ | refine blk_drew ?_ | refine blk_alloc ?_ _)); refine blk_far ?_ NB152_172.out _; (with_reducible repeat (first | refine blk_drewN ?_ _ | refine blk_drew ?_ | refine blk_alloc ?_ _)); exact BK152.out⟩, ⟨by (with_reducible repeat (first | refine blk_drewN ?_ _ | refine blk_drew ?_ | refine blk_alloc ?_ _)); refine blk_put (cs := #[.int .u64 t167, .string t168, .bool t169, .int .i64 0]) ?_ 3 _ rfl; (with_reducible repeat (first | refine blk_drewN ?_ _ | refine blk_drew ?_ | refine blk_alloc ?_ _)); refine blk_put (cs := #[.int .u64 t167, .string t168, .bool false, .int .i64 0]) ?_ 2 _ rfl; (with_reducible repeat (first | refine blk_drewN ?_ _ | refine blk_drew ?_ | refine blk_alloc ?_ _)); refine blk_put (cs := #[.int .u64 t167, .string (⟨#[]⟩ : ByteArray), .bool false, .int .i64 0]) ?_ 1 _ rfl; (with_reducible repeat (first | refine blk_drewN ?_ _ | refine blk_drew ?_ | refine blk_alloc ?_ _)); refine blk_put (cs := #[.int .u64 0, .string (⟨#[]⟩ : ByteArray), .bool false, .int .i64 0]) ?_ 0 _ rfl; (with_reducible repeat (first | refine blk_drewN ?_ _ | refine blk_drew ?_ | refine blk_alloc ?_ _)); exact BK172.out⟩, ⟨by repeat (first | (with_reducible first | exact HB.out | apply below_alloc | apply pw_below_drewN | apply below_drew1 | refine below_set ?_ GE152.out | refine below_set ?_ GE172.out) | exact HB.out)⟩⟩
                  ·rw [if_neg c40] at H
                   exact absurd H (by simp)
                 ·rw [if_neg c39] at H
                  exact absurd H (by simp)
                ·rw [if_neg c38] at H
                 have c38b0 : ((wrap64 (Int.tmod ((rd_T42 l0 x5_1).f0) 3)) == 0) = false := beq_eq_false_iff_ne.mpr c38
                 have c38b1 : ((wrap64 (Int.tmod ((rd_T42 l0 x5_1).f0) 3)) != 0) = true := bne_iff_ne.mpr c38
                 (first | rw [c38b0] | rw [c38b1] | (simp only [i64_w, i32_w]; rw [c38b0]) | skip)
                 have H' := Aside0.mk H
                 clear H
                 go_wp2
                 go_meet
                 case rel => exact ⟨_, (true), (by first | rfl | (simp; done) | (simp [*]; done)), H', ⟨by have := HK1.out; have := HJ1.out; have := HJ7.out; have := HJ22.out; have := HJ27.out; first | omega | exact Nat.le_refl _⟩, ⟨(by (with_reducible repeat (first | apply ChMap.MK_alloc | apply ChMap.MK_drewN | apply ChMap.MK_drew)); exact (ChMap.MK_far (ChMap.MK_far (ChMap.MK_far (ChMap.MK_far HO_4.out (ChMap.ne HO_4.out BK172.out) 0 (.int .u64 t167)) (ChMap.ne HO_4.out BK172.out) 1 (.string t168)) (ChMap.ne HO_4.out BK172.out) 2 (.bool t169)) (ChMap.ne HO_4.out BK172.out) 3 (.int .i64 t170)))⟩, ⟨by (with_reducible repeat (first | apply Kd.R_alloc | apply Kd.R_drewN | apply Kd.R_drew)); exact Kd.R_mono (Kd.R_far (p := ⟨gb172, 3, none⟩) (Kd.R_far (p := ⟨gb172, 2, none⟩) (Kd.R_far (p := ⟨gb172, 1, none⟩) (Kd.R_far (p := ⟨gb172, 0, none⟩) (Kd.R_mono HO_9.out (fun k_ hk => (⟨hk, hk.2⟩ : _ ∧ k_ ≠ gb172))) (fun _ hk => hk.2) (.int .u64 t167)) (fun _ hk => hk.2) (.string t168)) (fun _ hk => hk.2) (.bool t169)) (fun _ hk => hk.2) (.int .i64 t170)) (fun _ hk => ⟨hk.1.1.1, ⟨hk.1.1.2, hk.1.2⟩⟩)⟩, ⟨by (with_reducible repeat (first | refine blk_drewN ?_ _ | refine blk_drew ?_ | refine blk_alloc ?_ _)); refine blk_far ?_ NB152_172.out _; (with_reducible repeat (first | refine blk_drewN ?_ _ | refine blk_drew ?_ | refine blk_alloc ?_ _)); refine blk_far ?_ NB152_172.out _; (with_reducible repeat (first | refine blk_drewN ?_ _ | refine blk_drew ?_ | refine blk_alloc ?_ _)); refine blk_far ?_ NB152_172.out _; (with_reducible repeat (first | refine blk_drewN ?_ _ | refine blk_drew ?_ | refine blk_alloc ?_ _)); refine blk_far ?_ NB152_172.out _; (with_reducible repeat (first | refine blk_drewN ?_ _ | refine blk_drew ?_ | refine blk_alloc ?_ _)); exact BK152.out⟩, ⟨by (with_reducible repeat (first | refine blk_drewN ?_ _ | refine blk_drew ?_ | refine blk_alloc ?_ _)); refine blk_put (cs := #[.int .u64 t167, .string t168, .bool t169, .int .i64 0]) ?_ 3 _ rfl; (with_reducible repeat (first | refine blk_drewN ?_ _ | refine blk_drew ?_ | refine blk_alloc ?_ _)); refine blk_put (cs := #[.int .u64 t167, .string t168, .bool false, .int .i64 0]) ?_ 2 _ rfl; (with_reducible repeat (first | refine blk_drewN ?_ _ | refine blk_drew ?_ | refine blk_alloc ?_ _)); refine blk_put (cs := #[.int .u64 t167, .string (⟨#[]⟩ : ByteArray), .bool false, .int .i64 0]) ?_ 1 _ rfl; (with_reducible repeat (first | refine blk_drewN ?_ _ | refine blk_drew ?_ | refine blk_alloc ?_ _)); refine blk_put (cs := #[.int .u64 0, .string (⟨#[]⟩ : ByteArray), .bool false, .int .i64 0]) ?_ 0 _ rfl; (with_reducible repeat (first | refine blk_drewN ?_ _ | refine blk_drew ?_ | refine blk_alloc ?_ _)); exact BK172.out⟩, ⟨by repeat (first | (with_reducible first | exact HB.out | apply below_alloc | apply pw_below_drewN | apply below_drew1 | refine below_set ?_ GE152.out | refine below_set ?_ GE172.out) | exact HB.out)⟩⟩
               case rest =>
                clear HC32
                try clear c1
                try clear p1
                try clear q1
                try clear hx1
                try clear c2
                try clear p2
                try clear c3
                try clear c3b0
                try clear c4
                try clear c5
                try clear c5b0
                try clear c6
                try clear c6b0
                try clear p6
                try clear c7
                try clear c11
                try clear c12
                try clear q12
                try clear c13
                try clear c14
                try clear p14
                try clear q14
                try clear hx14
                try clear p15
                try clear q15
                try clear hx15
                try clear p17
                try clear q17
                try clear hx17
                try clear c22
                try clear c22b0
                try clear c22b1
                try clear c24
                try clear c24b0
                try clear c24b1
                try clear c25
                try clear c29
                try clear c29b0
                try clear c29b1
                try clear c36
                try clear c38
                try clear c38b0
                try clear c38b1
                try clear c39
                try clear c39b0
                try clear c40
                try clear c40b0
                try clear hcz11_0
                try clear hcz11_1
                try clear hcz11_2
                try clear hcz11_3
                try clear hcz15_0
                try clear hcz15_1
                try clear hcz15_2
                try clear hcz15_3
                try clear hcz19_0
                try clear hcz19_1
                try clear hcz19_2
                try clear hcz19_3
                try clear hcz26_0
                try clear hcz26_1
                try clear hcz26_2
                try clear hcz26_3
                try clear hcz30_0
                try clear hcz30_1
                try clear hcz30_2
                try clear hcz30_3
                try clear hcz37_0
                try clear hcz37_1
                try clear hcz37_2
                try clear hcz37_3
                try clear hfz11_0
                try clear hfz11_1
                try clear hfz11_2
                try clear hfz11_3
                try clear hfz15_0
                try clear hfz15_1
                try clear hfz15_2
                try clear hfz15_3
                try clear hfz19_0
                try clear hfz19_1
                try clear hfz19_2
                try clear hfz19_3
                try clear hfz26_0
                try clear hfz26_1
                try clear hfz26_2
                try clear hfz26_3
                try clear hfz30_0
                try clear hfz30_1
                try clear hfz30_2
                try clear hfz30_3
                try clear hfz37_0
                try clear hfz37_1
                try clear hfz37_2
                try clear hfz37_3
                try clear hx146_0
                try clear hx146_1
                try clear hx146_2
                try clear hx147_0
                try clear hx147_1
                try clear hx147_2
                try clear hx153_0
                try clear hx153_1
                try clear hx153_2
                try clear hx173_0
                try clear hx173_1
                try clear hx173_2
                try clear p1
                try clear p14
                try clear p146
                try clear p147
                try clear p15
                try clear p153
                try clear p173
                try clear p2
                try clear p6
                try clear q1
                try clear q12
                try clear q14
                try clear q146
                try clear q147
                try clear q15
                try clear q153
                try clear q173
                obtain ⟨kq, x123_31, rfl, HA, HJ31, HO_4, HO_9, BK152, BK172, HB⟩ := hcut
                cases kq with
                | zero => exact absurd HA.out (by simp [cellarerlaw05_ChainKeeps.j6])
                | succ kj31 =>
                 have H := HA.out
                 clear HA
                 simp only [cellarerlaw05_ChainKeeps.j6] at H
                 have HC41 := Aside0.mk H
                 clear H
                 go_upto_if 123 with (fail)
                 go_cut [] (fun wc => ∃ (kq : Nat), Aside0 (cellarerlaw05_ChainKeeps.j7 kq l0 x4_22 x5_1 x9_7 = some r) ∧ Aside0 (kq ≤ kj31) ∧ Aside0 (ChMap.MK wc w.heap.size x4_22) ∧ Aside0 (Kd.R k25 25 wc w.heap.size (fun k_ => some k_ ≠ (.map (some w.heap.size) : Value).ownBlock ∧ k_ ≠ gb152 ∧ k_ ≠ gb172) (.slice Ao33 x9_7.length co33) x9_7) ∧ Aside0 (wc.heap[gb152]? = some (.cells #[.int .u64 x153000_27, .string x153001_7, .bool x153002_7, .int .i64 t151] 25 (0, 0))) ∧ Aside0 (wc.heap[gb172]? = some (.cells #[.int .u64 t167, .string t168, .bool t169, .int .i64 t170] 25 (0, 0))) ∧ Aside0 (Below w.heap.size w wc))
                 case first => as_aux_lemma =>
                  have H := HC41.out
                  clear HC41
                  by_cases c42 : x123_31 = true
                  ·subst c42
                   have H1 : (if (!(t167 == x153000_27) || (!(t168.toList == x153001_7.toList) || (!(t169 == x153002_7) || (!(t170 == t151))))) = true then (some false) else (if ((t171 == 13) != x153002_7) = true then (some false) else (cellarerlaw05_ChainKeeps.j7 kj31 l0 x4_22 x5_1 x9_7))) = some r := by rw [if_pos rfl] at H; exact H
                   clear H
                   have H := H1
                   clear H1
                   by_cases c43 : (!(t167 == x153000_27) || (!(t168.toList == x153001_7.toList) || (!(t169 == x153002_7) || (!(t170 == t151))))) = true
                   ·rw [if_pos c43] at H
                    have c43b0 : (!(t167 == x153000_27) || (!(t168.toList == x153001_7.toList) || (!(t169 == x153002_7) || (!(t170 == t151))))) = true := c43
                    clear c43
                    (first | rw [c43b0] | (simp only [i64_w, i32_w]; rw [c43b0]) | skip)
                    obtain rfl := Option.some.inj H
                    exact absurd HTR_.out (by decide)
                   ·rw [if_neg c43] at H
                    have c43b0 : (!(t167 == x153000_27) || (!(t168.toList == x153001_7.toList) || (!(t169 == x153002_7) || (!(t170 == t151))))) = false := by simpa using c43
                    clear c43
                    (first | rw [c43b0] | (simp only [i64_w, i32_w]; rw [c43b0]) | skip)
                    by_cases c47 : ((t171 == 13) != x153002_7) = true
                    ·rw [if_pos c47] at H
                     have c47b0 : ((t171 == 13) != x153002_7) = true := c47
                     (try (have c47b1 : decide ((t171 == 13) = x153002_7) = false := by simpa using c47))
                     (try (have c47b2 : ((t171 == 13) == x153002_7) = false := by simpa using c47))
                     (try (have c47b3 : ¬ ((t171 == 13) = x153002_7) := by simpa using c47))
                     clear c47
                     obtain rfl := Option.some.inj H
                     exact absurd HTR_.out (by decide)
                    ·rw [if_neg c47] at H
                     have c47b0 : ((t171 == 13) != x153002_7) = false := by simpa using c47
                     (try (have c47b1 : decide ((t171 == 13) = x153002_7) = true := by simpa using c47))
                     (try (have c47b2 : ((t171 == 13) == x153002_7) = true := by simpa using c47))
                     clear c47
                     have H' := Aside0.mk H
                     clear H
                     have hnb51 := NB172_152.out
                     have hnc51 := NB152_172.out
                     have hcz52_0 : wc.cell? ⟨gb172, 0, none⟩ = some (.int .u64 t167) := (blk_cell BK172.out 0).trans rfl
                     have hcz52_1 : wc.cell? ⟨gb172, 1, none⟩ = some (.string t168) := (blk_cell BK172.out 1).trans rfl
                     have hcz52_2 : wc.cell? ⟨gb172, 2, none⟩ = some (.bool t169) := (blk_cell BK172.out 2).trans rfl
                     have hcz52_3 : wc.cell? ⟨gb172, 3, none⟩ = some (.int .i64 t170) := (blk_cell BK172.out 3).trans rfl
                     have hfz52_0 := blk_frozen BK172.out 0
                     have hfz52_1 := blk_frozen BK172.out 1
                     have hfz52_2 := blk_frozen BK172.out 2
                     have hfz52_3 := blk_frozen BK172.out 3
                     have hcz53_0 : wc.cell? ⟨gb152, 0, none⟩ = some (.int .u64 x153000_27) := (blk_cell BK152.out 0).trans rfl
                     have hcz53_1 : wc.cell? ⟨gb152, 1, none⟩ = some (.string x153001_7) := (blk_cell BK152.out 1).trans rfl
                     have hcz53_2 : wc.cell? ⟨gb152, 2, none⟩ = some (.bool x153002_7) := (blk_cell BK152.out 2).trans rfl
                     have hcz53_3 : wc.cell? ⟨gb152, 3, none⟩ = some (.int .i64 t151) := (blk_cell BK152.out 3).trans rfl
                     have hfz53_0 := blk_frozen BK152.out 0
                     have hfz53_1 := blk_frozen BK152.out 1
                     have hfz53_2 := blk_frozen BK152.out 2
                     have hfz53_3 := blk_frozen BK152.out 3
                     go_wp2
                     go_meet
                     case rel => exact ⟨_, H', ⟨by have := HK1.out; have := HJ1.out; have := HJ7.out; have := HJ22.out; have := HJ27.out; have := HJ31.out; first | omega | exact Nat.le_refl _⟩, ⟨(by (with_reducible repeat (first | apply ChMap.MK_alloc | apply ChMap.MK_drewN | apply ChMap.MK_drew)); exact HO_4.out)⟩, ⟨by (with_reducible repeat (first | apply Kd.R_alloc | apply Kd.R_drewN | apply Kd.R_drew)); exact HO_9.out⟩, ⟨by (with_reducible repeat (first | refine blk_drewN ?_ _ | refine blk_drew ?_ | refine blk_alloc ?_ _)); exact BK152.out⟩, ⟨by (with_reducible repeat (first | refine blk_drewN ?_ _ | refine blk_drew ?_ | refine blk_alloc ?_ _)); exact BK172.out⟩, ⟨by repeat (first | (with_reducible first | exact HB.out | apply below_alloc | apply pw_below_drewN | apply below_drew1 | refine below_set ?_ GE152.out | refine below_set ?_ GE172.out) | exact HB.out)⟩⟩
                  ·replace c42 := Bool.eq_false_iff.mpr c42
                   subst c42
                   have H1 : (cellarerlaw05_ChainKeeps.j7 kj31 l0 x4_22 x5_1 x9_7) = some r := by rw [if_neg (show ¬ (false = true) by decide)] at H; exact H
                   clear H
                   have H := H1
                   clear H1
                   have H' := Aside0.mk H
                   clear H
                   go_wp2
                   go_meet
                   case rel => exact ⟨_, H', ⟨by have := HK1.out; have := HJ1.out; have := HJ7.out; have := HJ22.out; have := HJ27.out; have := HJ31.out; first | omega | exact Nat.le_refl _⟩, ⟨(by (with_reducible repeat (first | apply ChMap.MK_alloc | apply ChMap.MK_drewN | apply ChMap.MK_drew)); exact HO_4.out)⟩, ⟨by (with_reducible repeat (first | apply Kd.R_alloc | apply Kd.R_drewN | apply Kd.R_drew)); exact HO_9.out⟩, ⟨by (with_reducible repeat (first | refine blk_drewN ?_ _ | refine blk_drew ?_ | refine blk_alloc ?_ _)); exact BK152.out⟩, ⟨by (with_reducible repeat (first | refine blk_drewN ?_ _ | refine blk_drew ?_ | refine blk_alloc ?_ _)); exact BK172.out⟩, ⟨by repeat (first | (with_reducible first | exact HB.out | apply below_alloc | apply pw_below_drewN | apply below_drew1 | refine below_set ?_ GE152.out | refine below_set ?_ GE172.out) | exact HB.out)⟩⟩
                 case rest =>
                  clear HC41
                  try clear c1
                  try clear p1
                  try clear q1
                  try clear hx1
                  try clear c2
                  try clear p2
                  try clear c3
                  try clear c3b0
                  try clear c4
                  try clear c5
                  try clear c5b0
                  try clear c6
                  try clear c6b0
                  try clear p6
                  try clear c7
                  try clear c11
                  try clear c12
                  try clear q12
                  try clear c13
                  try clear c14
                  try clear p14
                  try clear q14
                  try clear hx14
                  try clear p15
                  try clear q15
                  try clear hx15
                  try clear p17
                  try clear q17
                  try clear hx17
                  try clear c22
                  try clear c22b0
                  try clear c22b1
                  try clear c24
                  try clear c24b0
                  try clear c24b1
                  try clear c25
                  try clear c29
                  try clear c29b0
                  try clear c29b1
                  try clear c36
                  try clear c38
                  try clear c38b0
                  try clear c38b1
                  try clear c39
                  try clear c39b0
                  try clear c40
                  try clear c40b0
                  try clear c42
                  try clear c43
                  try clear c43b0
                  try clear c44
                  try clear c47
                  try clear c47b0
                  try clear c47b1
                  try clear c47b2
                  try clear c48
                  try clear c51
                  try clear hcz11_0
                  try clear hcz11_1
                  try clear hcz11_2
                  try clear hcz11_3
                  try clear hcz15_0
                  try clear hcz15_1
                  try clear hcz15_2
                  try clear hcz15_3
                  try clear hcz19_0
                  try clear hcz19_1
                  try clear hcz19_2
                  try clear hcz19_3
                  try clear hcz26_0
                  try clear hcz26_1
                  try clear hcz26_2
                  try clear hcz26_3
                  try clear hcz30_0
                  try clear hcz30_1
                  try clear hcz30_2
                  try clear hcz30_3
                  try clear hcz37_0
                  try clear hcz37_1
                  try clear hcz37_2
                  try clear hcz37_3
                  try clear hcz45_0
                  try clear hcz45_1
                  try clear hcz45_2
                  try clear hcz45_3
                  try clear hcz46_0
                  try clear hcz46_1
                  try clear hcz46_2
                  try clear hcz46_3
                  try clear hcz49_0
                  try clear hcz49_1
                  try clear hcz49_2
                  try clear hcz49_3
                  try clear hcz50_0
                  try clear hcz50_1
                  try clear hcz50_2
                  try clear hcz50_3
                  try clear hcz52_0
                  try clear hcz52_1
                  try clear hcz52_2
                  try clear hcz52_3
                  try clear hcz53_0
                  try clear hcz53_1
                  try clear hcz53_2
                  try clear hcz53_3
                  try clear hfz11_0
                  try clear hfz11_1
                  try clear hfz11_2
                  try clear hfz11_3
                  try clear hfz15_0
                  try clear hfz15_1
                  try clear hfz15_2
                  try clear hfz15_3
                  try clear hfz19_0
                  try clear hfz19_1
                  try clear hfz19_2
                  try clear hfz19_3
                  try clear hfz26_0
                  try clear hfz26_1
                  try clear hfz26_2
                  try clear hfz26_3
                  try clear hfz30_0
                  try clear hfz30_1
                  try clear hfz30_2
                  try clear hfz30_3
                  try clear hfz37_0
                  try clear hfz37_1
                  try clear hfz37_2
                  try clear hfz37_3
                  try clear hfz45_0
                  try clear hfz45_1
                  try clear hfz45_2
                  try clear hfz45_3
                  try clear hfz46_0
                  try clear hfz46_1
                  try clear hfz46_2
                  try clear hfz46_3
                  try clear hfz49_0
                  try clear hfz49_1
                  try clear hfz49_2
                  try clear hfz49_3
                  try clear hfz50_0
                  try clear hfz50_1
                  try clear hfz50_2
                  try clear hfz50_3
                  try clear hfz52_0
                  try clear hfz52_1
                  try clear hfz52_2
                  try clear hfz52_3
                  try clear hfz53_0
                  try clear hfz53_1
                  try clear hfz53_2
                  try clear hfz53_3
                  try clear hx146_0
                  try clear hx146_1
                  try clear hx146_2
                  try clear hx147_0
                  try clear hx147_1
                  try clear hx147_2
                  try clear hx153_0
                  try clear hx153_1
                  try clear hx153_2
                  try clear hx173_0
                  try clear hx173_1
                  try clear hx173_2
                  try clear p1
                  try clear p14
                  try clear p146
                  try clear p147
                  try clear p15
                  try clear p153
                  try clear p17
                  try clear p173
                  try clear p2
                  try clear p6
                  try clear q1
                  try clear q12
                  try clear q14
                  try clear q146
                  try clear q147
                  try clear q15
                  try clear q153
                  try clear q17
                  try clear q173
                  obtain ⟨kq, HA, HJ40, HO_4, HO_9, BK152, BK172, HB⟩ := hcut
                  cases kq with
                  | zero => exact absurd HA.out (by simp [cellarerlaw05_ChainKeeps.j7])
                  | succ kj40 =>
                   have H := HA.out
                   clear HA
                   simp only [cellarerlaw05_ChainKeeps.j7] at H
                   replace H := Option.bind_eq_some_iff.mp H
                   obtain ⟨t174, A540, H⟩ := H
                   replace H : (if t174 = true then ((chain_Check.f kj40 x9_7).bind fun t175 => (if t175 = 0 then (cellarerlaw05_ChainKeeps.l0 kj40 l0 x9_7 x4_22 (wrap64 (x5_1 + 1))) else (some false))) else (some false)) = some r := H
                   have A54 := Aside0.mk A540
                   clear A540
                   by_cases c55 : t174 = true
                   ·subst c55
                    have H1 : ((chain_Check.f kj40 x9_7).bind fun t175 => (if t175 = 0 then (cellarerlaw05_ChainKeeps.l0 kj40 l0 x9_7 x4_22 (wrap64 (x5_1 + 1))) else (some false))) = some r := by rw [if_pos rfl] at H; exact H
                    clear H
                    have H := H1
                    clear H1
                    replace H := Option.bind_eq_some_iff.mp H
                    obtain ⟨t175, A560, H⟩ := H
                    replace H : (if t175 = 0 then (cellarerlaw05_ChainKeeps.l0 kj40 l0 x9_7 x4_22 (wrap64 (x5_1 + 1))) else (some false)) = some r := H
                    have A56 := Aside0.mk A560
                    clear A560
                    by_cases c57 : t175 = 0
                    ·rw [if_pos c57] at H
                     have c57b0 : (t175 == 0) = true := beq_iff_eq.mpr c57
                     have c57b1 : (t175 != 0) = false := bne_eq_false_iff_eq.mpr c57
                     clear c57
                     have H' := Aside0.mk H
                     clear H
                     obtain ⟨_, d_, hown_, rfl, hhas_⟩ := HO_4.out
                     have meets_ := ChMap.meets A54.out hhas_
                     go_wp2_with (first | (at_range; refine wpList_range_own (H := Unit) _ rfl _ 54 rfl 23 25 ChMap.law ChMap.map_is ChMap.verElem w.heap.size x4_22.length d_ rfl ?own_ ?_; (case own_ => exact hown_); intro w0_ hrg0_ hg0_ hs0_))
                     (try go_frame)
                     have hbr_ : Below wc.heap.size wc w0_ := (Below.refl _ _).grown hg0_ (Nat.le_refl _) (fun j hj => by cases hj)
                     go_loopw [] (fun wr => ∃ (left : Lit → Bool) (cnt : Nat), wr.ranges Try.prog 23 ChMap.verElem w.heap.size wc.heap.size x4_22.length d_ left cnt ∧ (∀ kl, left kl = true → Go.Maps.has d_ kl = true) ∧ Below wc.heap.size wc wr) (fun wr => wr.rangeLeft w.heap.size wc.heap.size)
                     case atStart => exact ⟨_, _, hrg0_, fun _ h => h, hbr_⟩
                     case round =>
                      obtain ⟨left_, cnt_, hrg_, hleft_, hb⟩ := hrel
                      go_wp2_with (first | (at_next; refine wpList_next_ranges (α := Int) (β := S25) _ rfl _ rfl 23 ChMap.law ChMap.verElem (Value.int .u64) ver (fun key kl hkey => by obtain ⟨x, h1, _⟩ := Go.Maps.keyOf_int_inv Try.underlying23 hkey; exact ⟨x, h1⟩) (fun v y hv => by obtain ⟨c, h1, _⟩ := ChMap.verElem_inv hv; exact ⟨c, h1⟩) w.heap.size wc.heap.size x4_22.length d_ left_ cnt_ rfl hrg_ ?_ ?_))
                      · intro hc0_ hl0_
                        have n0_ := Aside0.mk (ChMap.MK_below HO_4.out hb); have n1_ := Aside0.mk (Kd.R_below HO_9.out hb); have n2_ := Aside0.mk (blk_below BK152.out hb); have n3_ := Aside0.mk (blk_below BK172.out hb); have n4_ := Aside0.mk (below_step HB.out hb)
                        clear HO_4; clear HO_9; clear BK152; clear BK172; clear HB; have HO_4 := n0_; have HO_9 := n1_; have BK152 := n2_; have BK172 := n3_; have HB := n4_; clear n0_ n1_ n2_ n3_ n4_
                        go_wp2_with (first | ((with_reducible refine gate_callee (f := 17) rfl ?_); refine goesL_ (some 151) rfl rfl Try.func17 (by kernel_rfl) rfl #[.slice Ao33 x9_7.length co33] rfl (by (try simp only [List.map_toArray, List.map_cons, List.map_nil]); first | done | rfl | (simp only [List.length_drop, List.length_take]; rfl)) ?_; (with_reducible refine (chain_Check.calls kj40 _ _ x9_7 t175 _ ?side1 ?side2 A56.out).mono ?_); (case side1 => repeat (first | exact (Kd.R_reads' HO_9.out).2.2 | (with_reducible refine Kd.C_alloc ?_ _) | (with_reducible refine Kd.C_drewN ?_ _) | (with_reducible refine Kd.C_drew ?_))); (case side2 => exact (Kd.R_reads' HO_9.out).2.1); rintro e w60 ⟨rfl, hb⟩; refine ⟨_, rfl, ?_⟩; have n0_ := Aside0.mk (ChMap.MK_below (by (with_reducible repeat (first | apply ChMap.MK_alloc | apply ChMap.MK_drewN | apply ChMap.MK_drew)); exact HO_4.out) hb); have n1_ := Aside0.mk (Kd.R_below (by (with_reducible repeat (first | apply Kd.R_alloc | apply Kd.R_drewN | apply Kd.R_drew)); exact HO_9.out) hb); have n2_ := Aside0.mk (blk_below (g := gb152) (o := .cells #[.int .u64 x153000_27, .string x153001_7, .bool x153002_7, .int .i64 t151] 25 (0, 0)) (by (with_reducible repeat (first | refine blk_drewN ?_ _ | refine blk_drew ?_ | refine blk_alloc ?_ _)); exact BK152.out) hb); have n3_ := Aside0.mk (blk_below (g := gb172) (o := .cells #[.int .u64 t167, .string t168, .bool t169, .int .i64 t170] 25 (0, 0)) (by (with_reducible repeat (first | refine blk_drewN ?_ _ | refine blk_drew ?_ | refine blk_alloc ?_ _)); exact BK172.out) hb); have n4_ := Aside0.mk (below_step (by repeat (first | (with_reducible first | exact HB.out | apply below_alloc | apply pw_below_drewN | apply below_drew1 | refine below_set ?_ GE152.out | refine below_set ?_ GE172.out) | exact HB.out)) hb); clear HO_4; clear HO_9; clear BK152; clear BK172; clear HB; have HO_4 := n0_; have HO_9 := n1_; have BK152 := n2_; have BK172 := n3_; have HB := n4_; clear n0_ n1_ n2_ n3_ n4_; (try clear hb); (try clear hb2); (try clear hk); (try clear hi)))
                        go_roundg kj40
                        case measure => have := HK1.out; have := HJ1.out; have := HJ7.out; have := HJ22.out; have := HJ27.out; have := HJ31.out; have := HJ40.out; omega
                        case rel => exact ⟨(x9_7), (x4_22), (wrap64 (x5_1 + 1)), (by first | rfl | (simp; done) | (simp [*]; done)), H', ⟨by have := HK1.out; have := HJ1.out; have := HJ7.out; have := HJ22.out; have := HJ27.out; have := HJ31.out; have := HJ40.out; omega⟩, ⟨by (with_reducible repeat (first | apply Kd.R_alloc | apply Kd.R_drewN | apply Kd.R_drew)); exact Kd.R_mono HO_9.out (fun _ hk => hk.1)⟩, ⟨(by (with_reducible repeat (first | apply ChMap.MK_alloc | apply ChMap.MK_drewN | apply ChMap.MK_drew)); exact HO_4.out)⟩, ⟨by repeat (first | (with_reducible first | exact HB.out | apply below_alloc | apply pw_below_drewN | apply below_drew1 | refine below_set ?_ GE152.out | refine below_set ?_ GE172.out) | exact HB.out)⟩⟩
                      · intro x_ c_ kl_ ya_ yb_ w1_ cnt1_ hkey_ hlk_ hv_ hat_ hrg1_ hlt_ hg1_ hs1_ hen_
                        obtain rfl := ChMap.keyOf_u64 hkey_
                        obtain ⟨kf_, hkf_⟩ := meets_.at_ x_ c_ (hleft_ _ hlk_) (fun z => (hat_ z).trans (by have := (ChMap.verElem_mk c_).symm.trans hv_; cases this; rfl))
                        have hbw_ : Below wc.heap.size wc w1_ := hb.grown hg1_ hb.size (fun j hj => by cases hj; exact Nat.le_refl _)
                        have hn9_ := Aside0.mk (Kd.R_below HO_9.out hbw_)
                        have HB1_ := Aside0.mk (Below.refl w1_.heap.size w1_)
                        have heq_ : (!(c_.f0 == c_.f0) || (!(c_.f1.toList == c_.f1.toList) || (!(c_.f2 == c_.f2) || (!(c_.f3 == c_.f3))))) = false := by simp
                        simp only [ver] at hen_
                        clear hv_ hat_ hkey_ hlk_
                        go_wp2_with (first
                          | ((with_reducible refine gate_dst (N := 14) rfl ?_); (try (refine gate_guard (by rfl) ?_; dsimp only)); (refine box_event ?hg (N := 14) ?hd (cs := #[.int .u64 0, .string (⟨#[]⟩ : ByteArray), .bool false, .int .i64 0]) (t := 25) ?hr ?_; (case hd => rfl); (case hg => rfl); (case hr => first | (go_simp; done) | (go_simp; rfl)); intro ga_ hga_ wA_ hboxa_ hba_; have n0_ := Aside0.mk (Kd.R_below (Kd.R_elderB (by (with_reducible repeat (first | apply Kd.R_alloc | apply Kd.R_drewN | apply Kd.R_drew)); exact hn9_.out) ga_ (Nat.le_of_eq hga_.symm)) hba_); have n1_ := Aside0.mk (below_step HB1_.out hba_); have BKa_ := Aside0.mk hboxa_; have GEa_ := Aside0.mk ((by rw [hga_]; exact (below_size HB1_.out)) : w1_.heap.size ≤ ga_); clear hn9_ HB1_; have hn9_ := n0_; have HB1_ := n1_; clear n0_ n1_ hba_ hboxa_ hga_; have hza_0 : wA_.cell? ⟨ga_, 0, none⟩ = some (.int .u64 0) := (blk_cell BKa_.out 0).trans rfl; have hza_1 : wA_.cell? ⟨ga_, 1, none⟩ = some (.string (⟨#[]⟩ : ByteArray)) := (blk_cell BKa_.out 1).trans rfl; have hza_2 : wA_.cell? ⟨ga_, 2, none⟩ = some (.bool false) := (blk_cell BKa_.out 2).trans rfl; have hza_3 : wA_.cell? ⟨ga_, 3, none⟩ = some (.int .i64 0) := (blk_cell BKa_.out 3).trans rfl; have hfa_0 := blk_frozen BKa_.out 0; have hfa_1 := blk_frozen BKa_.out 1; have hfa_2 := blk_frozen BKa_.out 2; have hfa_3 := blk_frozen BKa_.out 3))
                          | ((with_reducible refine gate_callee (f := 24) rfl ?_); (refine goesL_ (some 144) rfl rfl Try.func24 (by kernel_rfl) rfl #[.slice Ao33 x9_7.length co33, .int .u64 x_] rfl (by (try simp only [List.map_toArray, List.map_cons, List.map_nil]); first | done | rfl | (simp only [List.length_drop, List.length_take]; rfl)) ?_; have hr9_ := (Kd.R_far (p := ⟨ga_, 3, none⟩) (Kd.R_far (p := ⟨ga_, 2, none⟩) (Kd.R_far (p := ⟨ga_, 1, none⟩) (Kd.R_far (p := ⟨ga_, 0, none⟩) hn9_.out (fun _ hk => hk.2) (.int .u64 c_.f0)) (fun _ hk => hk.2) (.string c_.f1)) (fun _ hk => hk.2) (.bool c_.f2)) (fun _ hk => hk.2) (.int .i64 c_.f3)); (with_reducible refine (chain_Find.calls kf_ _ _ x9_7 x_ c_.f0 c_.f1 c_.f2 c_.f3 _ _ ?side1 ?side2 hkf_).mono ?_); (case side1 => exact (Kd.R_reads' hr9_).2.2); (case side2 => exact (Kd.R_reads' hr9_).2.1); rintro e wF_ ⟨rfl, hbf_⟩; refine ⟨_, rfl, ?_⟩; have n0_ := Aside0.mk (below_step (by repeat (first | (with_reducible first | exact HB1_.out | apply below_alloc | apply pw_below_drewN | apply below_drew1 | refine below_set ?_ GEa_.out) | exact HB1_.out)) hbf_); have n1_ := Aside0.mk (blk_below (g := ga_) (o := .cells #[.int .u64 c_.f0, .string c_.f1, .bool c_.f2, .int .i64 c_.f3] 25 (0, 0)) (by (refine blk_put (cs := #[.int .u64 c_.f0, .string c_.f1, .bool c_.f2, .int .i64 0]) ?_ 3 _ rfl; refine blk_put (cs := #[.int .u64 c_.f0, .string c_.f1, .bool false, .int .i64 0]) ?_ 2 _ rfl; refine blk_put (cs := #[.int .u64 c_.f0, .string (⟨#[]⟩ : ByteArray), .bool false, .int .i64 0]) ?_ 1 _ rfl; refine blk_put (cs := #[.int .u64 0, .string (⟨#[]⟩ : ByteArray), .bool false, .int .i64 0]) ?_ 0 _ rfl; exact BKa_.out)) hbf_); clear hr9_ hn9_ HB1_ BKa_; have HB1_ := n0_; have BKa_ := n1_; clear n0_ n1_ hbf_; clear hza_0 hza_1 hza_2 hza_3 hfa_0 hfa_1 hfa_2 hfa_3))
                          | ((with_reducible refine gate_dst (N := 15) rfl ?_); (try (refine gate_guard (by rfl) ?_; dsimp only)); (refine box_event ?hg (N := 15) ?hd (cs := #[.int .u64 0, .string (⟨#[]⟩ : ByteArray), .bool false, .int .i64 0]) (t := 25) ?hr ?_; (case hd => rfl); (case hg => rfl); (case hr => first | (go_simp; done) | (go_simp; rfl)); intro gb_ hgb_ wB_ hboxb_ hbb_; have n1_ := Aside0.mk (below_step HB1_.out hbb_); have hnab_ : ga_ ≠ gb_ := (by rw [hgb_]; exact Nat.ne_of_lt (blk_lt BKa_.out)); have hnba_ : gb_ ≠ ga_ := hnab_.symm; have n2_ := Aside0.mk (blk_below BKa_.out hbb_); have BKb_ := Aside0.mk hboxb_; have GEb_ := Aside0.mk ((by rw [hgb_]; exact (below_size HB1_.out)) : w1_.heap.size ≤ gb_); clear HB1_ BKa_; have HB1_ := n1_; have BKa_ := n2_; clear n1_ n2_ hbb_ hboxb_ hgb_; have hza_0 : wB_.cell? ⟨ga_, 0, none⟩ = some (.int .u64 c_.f0) := (blk_cell BKa_.out 0).trans rfl; have hza_1 : wB_.cell? ⟨ga_, 1, none⟩ = some (.string c_.f1) := (blk_cell BKa_.out 1).trans rfl; have hza_2 : wB_.cell? ⟨ga_, 2, none⟩ = some (.bool c_.f2) := (blk_cell BKa_.out 2).trans rfl; have hza_3 : wB_.cell? ⟨ga_, 3, none⟩ = some (.int .i64 c_.f3) := (blk_cell BKa_.out 3).trans rfl; have hfa_0 := blk_frozen BKa_.out 0; have hfa_1 := blk_frozen BKa_.out 1; have hfa_2 := blk_frozen BKa_.out 2; have hfa_3 := blk_frozen BKa_.out 3; have hzb_0 : wB_.cell? ⟨gb_, 0, none⟩ = some (.int .u64 0) := (blk_cell BKb_.out 0).trans rfl; have hzb_1 : wB_.cell? ⟨gb_, 1, none⟩ = some (.string (⟨#[]⟩ : ByteArray)) := (blk_cell BKb_.out 1).trans rfl; have hzb_2 : wB_.cell? ⟨gb_, 2, none⟩ = some (.bool false) := (blk_cell BKb_.out 2).trans rfl; have hzb_3 : wB_.cell? ⟨gb_, 3, none⟩ = some (.int .i64 0) := (blk_cell BKb_.out 3).trans rfl; have hfb_0 := blk_frozen BKb_.out 0; have hfb_1 := blk_frozen BKb_.out 1; have hfb_2 := blk_frozen BKb_.out 2; have hfb_3 := blk_frozen BKb_.out 3)))
                        have HE_ : Below w1_.heap.size w1_ (((((wB_.setCell ⟨gb_, 0, none⟩ (.int .u64 c_.f0)).setCell ⟨gb_, 1, none⟩ (.string c_.f1)).setCell ⟨gb_, 2, none⟩ (.bool c_.f2)).setCell ⟨gb_, 3, none⟩ (.int .i64 c_.f3))) := below_set (below_set (below_set (below_set HB1_.out GEb_.out) GEb_.out) GEb_.out) GEb_.out
                        have hrgE_ := hrg1_.kept (grown_of_below HE_ none) (by simp) (by simp)
                        have hl2_ : ∀ kl, (left_ kl && !kl.sameKey (.int .u64 x_)) = true → Go.Maps.has d_ kl = true := fun kl h => hleft_ kl ((Bool.and_eq_true_iff.mp h).1)
                        have hb2_ := below_step hbw_ HE_
                        have hm2_ := hrgE_.left_eq
                        have hm3_ := hrg_.left_eq
                        go_roundw
                        case rel => exact ⟨_, cnt1_, hrgE_, hl2_, hb2_⟩
                        case measure => rw [hm2_, hm3_]; exact hlt_
                    ·rw [if_neg c57] at H
                     have c57b0 : (t175 == 0) = false := beq_eq_false_iff_ne.mpr c57
                     have c57b1 : (t175 != 0) = true := bne_iff_ne.mpr c57
                     obtain rfl := Option.some.inj H
                     exact absurd HTR_.out (by decide)
                   ·replace c55 := Bool.eq_false_iff.mpr c55
                    subst c55
                    have H1 : (some false) = some r := by rw [if_neg (show ¬ (false = true) by decide)] at H; exact H
                    clear H
                    have H := H1
                    clear H1
                    obtain rfl := Option.some.inj H
                    exact absurd HTR_.out (by decide)
          ·rw [if_neg c22] at H
           have c22b0 : (x10_7 == 0) = false := beq_eq_false_iff_ne.mpr c22
           have c22b1 : (x10_7 != 0) = true := bne_iff_ne.mpr c22
           have HC66 := Aside0.mk H
           clear H
           go_upto_region 14 with (fail)
           go_cut [100] (fun v100 wc => ∃ (kq : Nat) (x100_65 : Bool), v100 = .bool x100_65 ∧ Aside0 (cellarerlaw05_ChainKeeps.j3 kq l0 x3_1 x4_1 x5_1 x100_65 = some r) ∧ Aside0 (kq ≤ kj7) ∧ Aside0 (Kd.R k25 25 wc w.heap.size (fun k_ => some k_ ≠ (.map (some w.heap.size) : Value).ownBlock ∧ k_ ≠ gb152) u3 x3_1) ∧ Aside0 (ChMap.MK wc w.heap.size x4_1) ∧ Aside0 (wc.heap[gb152]? = some (.cells #[.int .u64 t148, .string x153001_7, .bool x153002_7, .int .i64 t151] 25 (0, 0))) ∧ Aside0 (Below w.heap.size w wc))
           case first => as_aux_lemma =>
            have H := HC66.out
            clear HC66
            by_cases c67 : x10_7 = 6
            ·rw [if_pos c67] at H
             have c67b0 : (x10_7 == 6) = true := beq_iff_eq.mpr c67
             have c67b1 : (x10_7 != 6) = false := bne_eq_false_iff_eq.mpr c67
             clear c67
             (first | rw [c67b0] | rw [c67b1] | (simp only [i64_w, i32_w]; rw [c67b0]) | skip)
             by_cases c68 : (x3_1.length : Int) < 20
             ·rw [if_pos c68] at H
              have c68b0 : decide ((x3_1.length : Int) < 20) = true := decide_eq_true c68
              have c68b1 : decide (x3_1.length < 20) = true := decide_eq_true (by omega)
              clear c68
              have H' := Aside0.mk H
              clear H
              obtain ⟨Ao69, co69, eo69⟩ := Kd.R_slice HO_3.out
              subst eo69
              go_wp2
              go_meet
              case rel => exact ⟨_, (true), (by first | rfl | (simp; done) | (simp [*]; done)), H', ⟨by have := HK1.out; have := HJ1.out; have := HJ7.out; first | omega | exact Nat.le_refl _⟩, ⟨by (with_reducible repeat (first | apply Kd.R_alloc | apply Kd.R_drewN | apply Kd.R_drew)); exact HO_3.out⟩, ⟨(by (with_reducible repeat (first | apply ChMap.MK_alloc | apply ChMap.MK_drewN | apply ChMap.MK_drew)); exact HO_4.out)⟩, ⟨by (with_reducible repeat (first | refine blk_drewN ?_ _ | refine blk_drew ?_ | refine blk_alloc ?_ _)); exact BK152.out⟩, ⟨by repeat (first | (with_reducible first | exact HB.out | apply below_alloc | apply pw_below_drewN | apply below_drew1 | refine below_set ?_ GE152.out) | exact HB.out)⟩⟩
             ·rw [if_neg c68] at H
              have c68b0 : decide ((x3_1.length : Int) < 20) = false := decide_eq_false c68
              have c68b1 : decide (x3_1.length < 20) = false := decide_eq_false (by omega)
              clear c68
              by_cases c70 : x10_7 = 4
              ·rw [if_pos c70] at H
               have c70b0 : (x10_7 == 4) = true := beq_iff_eq.mpr c70
               have c70b1 : (x10_7 != 4) = false := bne_eq_false_iff_eq.mpr c70
               clear c70
               by_cases c71 : 0 ≤ x5_1
               ·rw [if_pos c71] at H
                have c71b0 : decide (0 ≤ x5_1) = true := decide_eq_true c71
                clear c71
                by_cases c72 : x5_1 < (l0.length : Int)
                ·rw [if_pos c72] at H
                 have c72b0 : decide (x5_1 < (l0.length : Int)) = true := decide_eq_true c72
                 clear c72
                 obtain ⟨bq73, hbq73⟩ : ∃ b_ : Bool, b_ = ((rd_T42 l0 x5_1).f1) := ⟨_, rfl⟩
                 replace H : (if (bq73 = true) then (if x10_7 = 1 then (cellarerlaw05_ChainKeeps.j3 kj7 l0 x3_1 x4_1 x5_1 (decide ((x153001_7.size : Int) ≤ 2000))) else (cellarerlaw05_ChainKeeps.j3 kj7 l0 x3_1 x4_1 x5_1 false)) else (cellarerlaw05_ChainKeeps.j3 kj7 l0 x3_1 x4_1 x5_1 true)) = some r := by rw [← hbq73] at H; exact H
                 have Nbq73 := Aside0.mk hbq73
                 clear hbq73
                 by_cases c74 : (bq73 = true)
                 ·subst c74
                  have H1 : (if x10_7 = 1 then (cellarerlaw05_ChainKeeps.j3 kj7 l0 x3_1 x4_1 x5_1 (decide ((x153001_7.size : Int) ≤ 2000))) else (cellarerlaw05_ChainKeeps.j3 kj7 l0 x3_1 x4_1 x5_1 false)) = some r := by rw [if_pos rfl] at H; exact H
                  clear H
                  have H := H1
                  clear H1
                  by_cases c75 : x10_7 = 1
                  ·rw [if_pos c75] at H
                   have c75b0 : (x10_7 == 1) = true := beq_iff_eq.mpr c75
                   have c75b1 : (x10_7 != 1) = false := bne_eq_false_iff_eq.mpr c75
                   clear c75
                   have H' := Aside0.mk H
                   clear H
                   obtain ⟨Ao76, co76, eo76⟩ := Kd.R_slice HO_3.out
                   subst eo76
                   have p162 : 0 ≤ (x5_1 : Int) := of_decide_eq_true (by first | (with_reducible assumption) | assumption)
                   have q162 : x5_1 < (l0.length : Int) := of_decide_eq_true (by first | (with_reducible assumption) | assumption)
                   obtain ⟨ad162, e162, hx162_0, hx162_1, hx162_2⟩ := at_T42 HR0.out x5_1 p162 q162
                   (try rw [← Nbq73.out] at hx162_1)
                   obtain rfl : ad146 = ad162 := (by injection e162)
                   replace hx162_0 := (HB.out.cell (World.block_lt_of_cell? w _ hx162_0)).trans hx162_0
                   replace hx162_1 := (HB.out.cell (World.block_lt_of_cell? w _ hx162_1)).trans hx162_1
                   replace hx162_2 := (HB.out.cell (World.block_lt_of_cell? w _ hx162_2)).trans hx162_2
                   replace p162 := eq_true p162
                   replace q162 := eq_true q162
                   have hcz77_0 : wc.cell? ⟨gb152, 0, none⟩ = some (.int .u64 t148) := (blk_cell BK152.out 0).trans rfl
                   have hcz77_1 : wc.cell? ⟨gb152, 1, none⟩ = some (.string x153001_7) := (blk_cell BK152.out 1).trans rfl
                   have hcz77_2 : wc.cell? ⟨gb152, 2, none⟩ = some (.bool x153002_7) := (blk_cell BK152.out 2).trans rfl
                   have hcz77_3 : wc.cell? ⟨gb152, 3, none⟩ = some (.int .i64 t151) := (blk_cell BK152.out 3).trans rfl
                   have hfz77_0 := blk_frozen BK152.out 0
                   have hfz77_1 := blk_frozen BK152.out 1
                   have hfz77_2 := blk_frozen BK152.out 2
                   have hfz77_3 := blk_frozen BK152.out 3
                   go_wp2
                   go_meet
                   case rel => exact ⟨_, (decide ((x153001_7.size : Int) ≤ 2000)), (by first | rfl | (simp; done) | (simp [*]; done)), H', ⟨by have := HK1.out; have := HJ1.out; have := HJ7.out; first | omega | exact Nat.le_refl _⟩, ⟨by (with_reducible repeat (first | apply Kd.R_alloc | apply Kd.R_drewN | apply Kd.R_drew)); exact HO_3.out⟩, ⟨(by (with_reducible repeat (first | apply ChMap.MK_alloc | apply ChMap.MK_drewN | apply ChMap.MK_drew)); exact HO_4.out)⟩, ⟨by (with_reducible repeat (first | refine blk_drewN ?_ _ | refine blk_drew ?_ | refine blk_alloc ?_ _)); exact BK152.out⟩, ⟨by repeat (first | (with_reducible first | exact HB.out | apply below_alloc | apply pw_below_drewN | apply below_drew1 | refine below_set ?_ GE152.out) | exact HB.out)⟩⟩
                  ·rw [if_neg c75] at H
                   have c75b0 : (x10_7 == 1) = false := beq_eq_false_iff_ne.mpr c75
                   have c75b1 : (x10_7 != 1) = true := bne_iff_ne.mpr c75
                   have H' := Aside0.mk H
                   clear H
                   obtain ⟨Ao78, co78, eo78⟩ := Kd.R_slice HO_3.out
                   subst eo78
                   have p162 : 0 ≤ (x5_1 : Int) := of_decide_eq_true (by first | (with_reducible assumption) | assumption)
                   have q162 : x5_1 < (l0.length : Int) := of_decide_eq_true (by first | (with_reducible assumption) | assumption)
                   obtain ⟨ad162, e162, hx162_0, hx162_1, hx162_2⟩ := at_T42 HR0.out x5_1 p162 q162
                   (try rw [← Nbq73.out] at hx162_1)
                   obtain rfl : ad146 = ad162 := (by injection e162)
                   replace hx162_0 := (HB.out.cell (World.block_lt_of_cell? w _ hx162_0)).trans hx162_0
                   replace hx162_1 := (HB.out.cell (World.block_lt_of_cell? w _ hx162_1)).trans hx162_1
                   replace hx162_2 := (HB.out.cell (World.block_lt_of_cell? w _ hx162_2)).trans hx162_2
                   replace p162 := eq_true p162
                   replace q162 := eq_true q162
                   go_wp2
                   go_meet
                   case rel => exact ⟨_, (false), (by first | rfl | (simp; done) | (simp [*]; done)), H', ⟨by have := HK1.out; have := HJ1.out; have := HJ7.out; first | omega | exact Nat.le_refl _⟩, ⟨by (with_reducible repeat (first | apply Kd.R_alloc | apply Kd.R_drewN | apply Kd.R_drew)); exact HO_3.out⟩, ⟨(by (with_reducible repeat (first | apply ChMap.MK_alloc | apply ChMap.MK_drewN | apply ChMap.MK_drew)); exact HO_4.out)⟩, ⟨by (with_reducible repeat (first | refine blk_drewN ?_ _ | refine blk_drew ?_ | refine blk_alloc ?_ _)); exact BK152.out⟩, ⟨by repeat (first | (with_reducible first | exact HB.out | apply below_alloc | apply pw_below_drewN | apply below_drew1 | refine below_set ?_ GE152.out) | exact HB.out)⟩⟩
                 ·replace c74 := Bool.eq_false_iff.mpr c74
                  subst c74
                  have H1 : (cellarerlaw05_ChainKeeps.j3 kj7 l0 x3_1 x4_1 x5_1 true) = some r := by rw [if_neg (show ¬ (false = true) by decide)] at H; exact H
                  clear H
                  have H := H1
                  clear H1
                  have H' := Aside0.mk H
                  clear H
                  obtain ⟨Ao79, co79, eo79⟩ := Kd.R_slice HO_3.out
                  subst eo79
                  have p162 : 0 ≤ (x5_1 : Int) := of_decide_eq_true (by first | (with_reducible assumption) | assumption)
                  have q162 : x5_1 < (l0.length : Int) := of_decide_eq_true (by first | (with_reducible assumption) | assumption)
                  obtain ⟨ad162, e162, hx162_0, hx162_1, hx162_2⟩ := at_T42 HR0.out x5_1 p162 q162
                  (try rw [← Nbq73.out] at hx162_1)
                  obtain rfl : ad146 = ad162 := (by injection e162)
                  replace hx162_0 := (HB.out.cell (World.block_lt_of_cell? w _ hx162_0)).trans hx162_0
                  replace hx162_1 := (HB.out.cell (World.block_lt_of_cell? w _ hx162_1)).trans hx162_1
                  replace hx162_2 := (HB.out.cell (World.block_lt_of_cell? w _ hx162_2)).trans hx162_2
                  replace p162 := eq_true p162
                  replace q162 := eq_true q162
                  go_wp2
                  go_meet
                  case rel => exact ⟨_, (true), (by first | rfl | (simp; done) | (simp [*]; done)), H', ⟨by have := HK1.out; have := HJ1.out; have := HJ7.out; first | omega | exact Nat.le_refl _⟩, ⟨by (with_reducible repeat (first | apply Kd.R_alloc | apply Kd.R_drewN | apply Kd.R_drew)); exact HO_3.out⟩, ⟨(by (with_reducible repeat (first | apply ChMap.MK_alloc | apply ChMap.MK_drewN | apply ChMap.MK_drew)); exact HO_4.out)⟩, ⟨by (with_reducible repeat (first | refine blk_drewN ?_ _ | refine blk_drew ?_ | refine blk_alloc ?_ _)); exact BK152.out⟩, ⟨by repeat (first | (with_reducible first | exact HB.out | apply below_alloc | apply pw_below_drewN | apply below_drew1 | refine below_set ?_ GE152.out) | exact HB.out)⟩⟩
                ·rw [if_neg c72] at H
                 exact absurd H (by simp)
               ·rw [if_neg c71] at H
                exact absurd H (by simp)
              ·rw [if_neg c70] at H
               have c70b0 : (x10_7 == 4) = false := beq_eq_false_iff_ne.mpr c70
               have c70b1 : (x10_7 != 4) = true := bne_iff_ne.mpr c70
               by_cases c80 : x10_7 = 1
               ·rw [if_pos c80] at H
                have c80b0 : (x10_7 == 1) = true := beq_iff_eq.mpr c80
                have c80b1 : (x10_7 != 1) = false := bne_eq_false_iff_eq.mpr c80
                clear c80
                have H' := Aside0.mk H
                clear H
                obtain ⟨Ao81, co81, eo81⟩ := Kd.R_slice HO_3.out
                subst eo81
                have hcz82_0 : wc.cell? ⟨gb152, 0, none⟩ = some (.int .u64 t148) := (blk_cell BK152.out 0).trans rfl
                have hcz82_1 : wc.cell? ⟨gb152, 1, none⟩ = some (.string x153001_7) := (blk_cell BK152.out 1).trans rfl
                have hcz82_2 : wc.cell? ⟨gb152, 2, none⟩ = some (.bool x153002_7) := (blk_cell BK152.out 2).trans rfl
                have hcz82_3 : wc.cell? ⟨gb152, 3, none⟩ = some (.int .i64 t151) := (blk_cell BK152.out 3).trans rfl
                have hfz82_0 := blk_frozen BK152.out 0
                have hfz82_1 := blk_frozen BK152.out 1
                have hfz82_2 := blk_frozen BK152.out 2
                have hfz82_3 := blk_frozen BK152.out 3
                go_wp2
                go_meet
                case rel => exact ⟨_, (decide ((x153001_7.size : Int) ≤ 2000)), (by first | rfl | (simp; done) | (simp [*]; done)), H', ⟨by have := HK1.out; have := HJ1.out; have := HJ7.out; first | omega | exact Nat.le_refl _⟩, ⟨by (with_reducible repeat (first | apply Kd.R_alloc | apply Kd.R_drewN | apply Kd.R_drew)); exact HO_3.out⟩, ⟨(by (with_reducible repeat (first | apply ChMap.MK_alloc | apply ChMap.MK_drewN | apply ChMap.MK_drew)); exact HO_4.out)⟩, ⟨by (with_reducible repeat (first | refine blk_drewN ?_ _ | refine blk_drew ?_ | refine blk_alloc ?_ _)); exact BK152.out⟩, ⟨by repeat (first | (with_reducible first | exact HB.out | apply below_alloc | apply pw_below_drewN | apply below_drew1 | refine below_set ?_ GE152.out) | exact HB.out)⟩⟩
               ·rw [if_neg c80] at H
                have c80b0 : (x10_7 == 1) = false := beq_eq_false_iff_ne.mpr c80
                have c80b1 : (x10_7 != 1) = true := bne_iff_ne.mpr c80
                have H' := Aside0.mk H
                clear H
                obtain ⟨Ao83, co83, eo83⟩ := Kd.R_slice HO_3.out
                subst eo83
                go_wp2
                go_meet
                case rel => exact ⟨_, (false), (by first | rfl | (simp; done) | (simp [*]; done)), H', ⟨by have := HK1.out; have := HJ1.out; have := HJ7.out; first | omega | exact Nat.le_refl _⟩, ⟨by (with_reducible repeat (first | apply Kd.R_alloc | apply Kd.R_drewN | apply Kd.R_drew)); exact HO_3.out⟩, ⟨(by (with_reducible repeat (first | apply ChMap.MK_alloc | apply ChMap.MK_drewN | apply ChMap.MK_drew)); exact HO_4.out)⟩, ⟨by (with_reducible repeat (first | refine blk_drewN ?_ _ | refine blk_drew ?_ | refine blk_alloc ?_ _)); exact BK152.out⟩, ⟨by repeat (first | (with_reducible first | exact HB.out | apply below_alloc | apply pw_below_drewN | apply below_drew1 | refine below_set ?_ GE152.out) | exact HB.out)⟩⟩
            ·rw [if_neg c67] at H
             have c67b0 : (x10_7 == 6) = false := beq_eq_false_iff_ne.mpr c67
             have c67b1 : (x10_7 != 6) = true := bne_iff_ne.mpr c67
             (first | rw [c67b0] | rw [c67b1] | (simp only [i64_w, i32_w]; rw [c67b0]) | skip)
             by_cases c84 : x10_7 = 4
             ·rw [if_pos c84] at H
              have c84b0 : (x10_7 == 4) = true := beq_iff_eq.mpr c84
              have c84b1 : (x10_7 != 4) = false := bne_eq_false_iff_eq.mpr c84
              clear c84
              by_cases c85 : 0 ≤ x5_1
              ·rw [if_pos c85] at H
               have c85b0 : decide (0 ≤ x5_1) = true := decide_eq_true c85
               clear c85
               by_cases c86 : x5_1 < (l0.length : Int)
               ·rw [if_pos c86] at H
                have c86b0 : decide (x5_1 < (l0.length : Int)) = true := decide_eq_true c86
                clear c86
                obtain ⟨bq87, hbq87⟩ : ∃ b_ : Bool, b_ = ((rd_T42 l0 x5_1).f1) := ⟨_, rfl⟩
                replace H : (if (bq87 = true) then (if x10_7 = 1 then (cellarerlaw05_ChainKeeps.j3 kj7 l0 x3_1 x4_1 x5_1 (decide ((x153001_7.size : Int) ≤ 2000))) else (cellarerlaw05_ChainKeeps.j3 kj7 l0 x3_1 x4_1 x5_1 false)) else (cellarerlaw05_ChainKeeps.j3 kj7 l0 x3_1 x4_1 x5_1 true)) = some r := by rw [← hbq87] at H; exact H
                have Nbq87 := Aside0.mk hbq87
                clear hbq87
                by_cases c88 : (bq87 = true)
                ·subst c88
                 have H1 : (if x10_7 = 1 then (cellarerlaw05_ChainKeeps.j3 kj7 l0 x3_1 x4_1 x5_1 (decide ((x153001_7.size : Int) ≤ 2000))) else (cellarerlaw05_ChainKeeps.j3 kj7 l0 x3_1 x4_1 x5_1 false)) = some r := by rw [if_pos rfl] at H; exact H
                 clear H
                 have H := H1
                 clear H1
                 by_cases c89 : x10_7 = 1
                 ·rw [if_pos c89] at H
                  have c89b0 : (x10_7 == 1) = true := beq_iff_eq.mpr c89
                  have c89b1 : (x10_7 != 1) = false := bne_eq_false_iff_eq.mpr c89
                  clear c89
                  have H' := Aside0.mk H
                  clear H
                  have p163 : 0 ≤ (x5_1 : Int) := of_decide_eq_true (by first | (with_reducible assumption) | assumption)
                  have q163 : x5_1 < (l0.length : Int) := of_decide_eq_true (by first | (with_reducible assumption) | assumption)
                  obtain ⟨ad163, e163, hx163_0, hx163_1, hx163_2⟩ := at_T42 HR0.out x5_1 p163 q163
                  (try rw [← Nbq87.out] at hx163_1)
                  obtain rfl : ad146 = ad163 := (by injection e163)
                  replace hx163_0 := (HB.out.cell (World.block_lt_of_cell? w _ hx163_0)).trans hx163_0
                  replace hx163_1 := (HB.out.cell (World.block_lt_of_cell? w _ hx163_1)).trans hx163_1
                  replace hx163_2 := (HB.out.cell (World.block_lt_of_cell? w _ hx163_2)).trans hx163_2
                  replace p163 := eq_true p163
                  replace q163 := eq_true q163
                  have hcz90_0 : wc.cell? ⟨gb152, 0, none⟩ = some (.int .u64 t148) := (blk_cell BK152.out 0).trans rfl
                  have hcz90_1 : wc.cell? ⟨gb152, 1, none⟩ = some (.string x153001_7) := (blk_cell BK152.out 1).trans rfl
                  have hcz90_2 : wc.cell? ⟨gb152, 2, none⟩ = some (.bool x153002_7) := (blk_cell BK152.out 2).trans rfl
                  have hcz90_3 : wc.cell? ⟨gb152, 3, none⟩ = some (.int .i64 t151) := (blk_cell BK152.out 3).trans rfl
                  have hfz90_0 := blk_frozen BK152.out 0
                  have hfz90_1 := blk_frozen BK152.out 1
                  have hfz90_2 := blk_frozen BK152.out 2
                  have hfz90_3 := blk_frozen BK152.out 3
                  go_wp2
                  go_meet
                  case rel => exact ⟨_, (decide ((x153001_7.size : Int) ≤ 2000)), (by first | rfl | (simp; done) | (simp [*]; done)), H', ⟨by have := HK1.out; have := HJ1.out; have := HJ7.out; first | omega | exact Nat.le_refl _⟩, ⟨by (with_reducible repeat (first | apply Kd.R_alloc | apply Kd.R_drewN | apply Kd.R_drew)); exact HO_3.out⟩, ⟨(by (with_reducible repeat (first | apply ChMap.MK_alloc | apply ChMap.MK_drewN | apply ChMap.MK_drew)); exact HO_4.out)⟩, ⟨by (with_reducible repeat (first | refine blk_drewN ?_ _ | refine blk_drew ?_ | refine blk_alloc ?_ _)); exact BK152.out⟩, ⟨by repeat (first | (with_reducible first | exact HB.out | apply below_alloc | apply pw_below_drewN | apply below_drew1 | refine below_set ?_ GE152.out) | exact HB.out)⟩⟩
                 ·rw [if_neg c89] at H
                  have c89b0 : (x10_7 == 1) = false := beq_eq_false_iff_ne.mpr c89
                  have c89b1 : (x10_7 != 1) = true := bne_iff_ne.mpr c89
                  have H' := Aside0.mk H
                  clear H
                  have p163 : 0 ≤ (x5_1 : Int) := of_decide_eq_true (by first | (with_reducible assumption) | assumption)
                  have q163 : x5_1 < (l0.length : Int) := of_decide_eq_true (by first | (with_reducible assumption) | assumption)
                  obtain ⟨ad163, e163, hx163_0, hx163_1, hx163_2⟩ := at_T42 HR0.out x5_1 p163 q163
                  (try rw [← Nbq87.out] at hx163_1)
                  obtain rfl : ad146 = ad163 := (by injection e163)
                  replace hx163_0 := (HB.out.cell (World.block_lt_of_cell? w _ hx163_0)).trans hx163_0
                  replace hx163_1 := (HB.out.cell (World.block_lt_of_cell? w _ hx163_1)).trans hx163_1
                  replace hx163_2 := (HB.out.cell (World.block_lt_of_cell? w _ hx163_2)).trans hx163_2
                  replace p163 := eq_true p163
                  replace q163 := eq_true q163
                  go_wp2
                  go_meet
                  case rel => exact ⟨_, (false), (by first | rfl | (simp; done) | (simp [*]; done)), H', ⟨by have := HK1.out; have := HJ1.out; have := HJ7.out; first | omega | exact Nat.le_refl _⟩, ⟨by (with_reducible repeat (first | apply Kd.R_alloc | apply Kd.R_drewN | apply Kd.R_drew)); exact HO_3.out⟩, ⟨(by (with_reducible repeat (first | apply ChMap.MK_alloc | apply ChMap.MK_drewN | apply ChMap.MK_drew)); exact HO_4.out)⟩, ⟨by (with_reducible repeat (first | refine blk_drewN ?_ _ | refine blk_drew ?_ | refine blk_alloc ?_ _)); exact BK152.out⟩, ⟨by repeat (first | (with_reducible first | exact HB.out | apply below_alloc | apply pw_below_drewN | apply below_drew1 | refine below_set ?_ GE152.out) | exact HB.out)⟩⟩
                ·replace c88 := Bool.eq_false_iff.mpr c88
                 subst c88
                 have H1 : (cellarerlaw05_ChainKeeps.j3 kj7 l0 x3_1 x4_1 x5_1 true) = some r := by rw [if_neg (show ¬ (false = true) by decide)] at H; exact H
                 clear H
                 have H := H1
                 clear H1
                 have H' := Aside0.mk H
                 clear H
                 have p163 : 0 ≤ (x5_1 : Int) := of_decide_eq_true (by first | (with_reducible assumption) | assumption)
                 have q163 : x5_1 < (l0.length : Int) := of_decide_eq_true (by first | (with_reducible assumption) | assumption)
                 obtain ⟨ad163, e163, hx163_0, hx163_1, hx163_2⟩ := at_T42 HR0.out x5_1 p163 q163
                 (try rw [← Nbq87.out] at hx163_1)
                 obtain rfl : ad146 = ad163 := (by injection e163)
                 replace hx163_0 := (HB.out.cell (World.block_lt_of_cell? w _ hx163_0)).trans hx163_0
                 replace hx163_1 := (HB.out.cell (World.block_lt_of_cell? w _ hx163_1)).trans hx163_1
                 replace hx163_2 := (HB.out.cell (World.block_lt_of_cell? w _ hx163_2)).trans hx163_2
                 replace p163 := eq_true p163
                 replace q163 := eq_true q163
                 go_wp2
                 go_meet
                 case rel => exact ⟨_, (true), (by first | rfl | (simp; done) | (simp [*]; done)), H', ⟨by have := HK1.out; have := HJ1.out; have := HJ7.out; first | omega | exact Nat.le_refl _⟩, ⟨by (with_reducible repeat (first | apply Kd.R_alloc | apply Kd.R_drewN | apply Kd.R_drew)); exact HO_3.out⟩, ⟨(by (with_reducible repeat (first | apply ChMap.MK_alloc | apply ChMap.MK_drewN | apply ChMap.MK_drew)); exact HO_4.out)⟩, ⟨by (with_reducible repeat (first | refine blk_drewN ?_ _ | refine blk_drew ?_ | refine blk_alloc ?_ _)); exact BK152.out⟩, ⟨by repeat (first | (with_reducible first | exact HB.out | apply below_alloc | apply pw_below_drewN | apply below_drew1 | refine below_set ?_ GE152.out) | exact HB.out)⟩⟩
               ·rw [if_neg c86] at H
                exact absurd H (by simp)
              ·rw [if_neg c85] at H
               exact absurd H (by simp)
             ·rw [if_neg c84] at H
              have c84b0 : (x10_7 == 4) = false := beq_eq_false_iff_ne.mpr c84
              have c84b1 : (x10_7 != 4) = true := bne_iff_ne.mpr c84
              by_cases c91 : x10_7 = 1
              ·rw [if_pos c91] at H
               have c91b0 : (x10_7 == 1) = true := beq_iff_eq.mpr c91
               have c91b1 : (x10_7 != 1) = false := bne_eq_false_iff_eq.mpr c91
               clear c91
               have H' := Aside0.mk H
               clear H
               have hcz92_0 : wc.cell? ⟨gb152, 0, none⟩ = some (.int .u64 t148) := (blk_cell BK152.out 0).trans rfl
               have hcz92_1 : wc.cell? ⟨gb152, 1, none⟩ = some (.string x153001_7) := (blk_cell BK152.out 1).trans rfl
               have hcz92_2 : wc.cell? ⟨gb152, 2, none⟩ = some (.bool x153002_7) := (blk_cell BK152.out 2).trans rfl
               have hcz92_3 : wc.cell? ⟨gb152, 3, none⟩ = some (.int .i64 t151) := (blk_cell BK152.out 3).trans rfl
               have hfz92_0 := blk_frozen BK152.out 0
               have hfz92_1 := blk_frozen BK152.out 1
               have hfz92_2 := blk_frozen BK152.out 2
               have hfz92_3 := blk_frozen BK152.out 3
               go_wp2
               go_meet
               case rel => exact ⟨_, (decide ((x153001_7.size : Int) ≤ 2000)), (by first | rfl | (simp; done) | (simp [*]; done)), H', ⟨by have := HK1.out; have := HJ1.out; have := HJ7.out; first | omega | exact Nat.le_refl _⟩, ⟨by (with_reducible repeat (first | apply Kd.R_alloc | apply Kd.R_drewN | apply Kd.R_drew)); exact HO_3.out⟩, ⟨(by (with_reducible repeat (first | apply ChMap.MK_alloc | apply ChMap.MK_drewN | apply ChMap.MK_drew)); exact HO_4.out)⟩, ⟨by (with_reducible repeat (first | refine blk_drewN ?_ _ | refine blk_drew ?_ | refine blk_alloc ?_ _)); exact BK152.out⟩, ⟨by repeat (first | (with_reducible first | exact HB.out | apply below_alloc | apply pw_below_drewN | apply below_drew1 | refine below_set ?_ GE152.out) | exact HB.out)⟩⟩
              ·rw [if_neg c91] at H
               have c91b0 : (x10_7 == 1) = false := beq_eq_false_iff_ne.mpr c91
               have c91b1 : (x10_7 != 1) = true := bne_iff_ne.mpr c91
               have H' := Aside0.mk H
               clear H
               go_wp2
               go_meet
               case rel => exact ⟨_, (false), (by first | rfl | (simp; done) | (simp [*]; done)), H', ⟨by have := HK1.out; have := HJ1.out; have := HJ7.out; first | omega | exact Nat.le_refl _⟩, ⟨by (with_reducible repeat (first | apply Kd.R_alloc | apply Kd.R_drewN | apply Kd.R_drew)); exact HO_3.out⟩, ⟨(by (with_reducible repeat (first | apply ChMap.MK_alloc | apply ChMap.MK_drewN | apply ChMap.MK_drew)); exact HO_4.out)⟩, ⟨by (with_reducible repeat (first | refine blk_drewN ?_ _ | refine blk_drew ?_ | refine blk_alloc ?_ _)); exact BK152.out⟩, ⟨by repeat (first | (with_reducible first | exact HB.out | apply below_alloc | apply pw_below_drewN | apply below_drew1 | refine below_set ?_ GE152.out) | exact HB.out)⟩⟩
           case rest =>
            clear HC66
            try clear c1
            try clear p1
            try clear q1
            try clear hx1
            try clear c2
            try clear p2
            try clear c3
            try clear c3b0
            try clear c4
            try clear c5
            try clear c5b0
            try clear c6
            try clear c6b0
            try clear p6
            try clear c7
            try clear q7
            try clear c8
            try clear q8
            try clear c9
            try clear c11
            try clear c12
            try clear q12
            try clear c13
            try clear c14
            try clear p14
            try clear q14
            try clear hx14
            try clear p15
            try clear q15
            try clear hx15
            try clear p16
            try clear q16
            try clear hx16
            try clear c17
            try clear p17
            try clear q17
            try clear hx17
            try clear c22
            try clear c22b0
            try clear c22b1
            try clear c24
            try clear c24b0
            try clear c24b1
            try clear c25
            try clear c29
            try clear c29b0
            try clear c29b1
            try clear c36
            try clear c38
            try clear c38b0
            try clear c38b1
            try clear c39
            try clear c39b0
            try clear c40
            try clear c40b0
            try clear c42
            try clear c43
            try clear c43b0
            try clear c44
            try clear c47
            try clear c47b0
            try clear c47b1
            try clear c47b2
            try clear c48
            try clear c51
            try clear c55
            try clear c57
            try clear c57b0
            try clear c57b1
            try clear p64
            try clear c67
            try clear c67b0
            try clear c67b1
            try clear c68
            try clear c68b0
            try clear c68b1
            try clear c70
            try clear c70b0
            try clear c70b1
            try clear c71
            try clear c71b0
            try clear c72
            try clear c72b0
            try clear q73
            try clear c74
            try clear c75
            try clear c75b0
            try clear c75b1
            try clear c80
            try clear c80b0
            try clear c80b1
            try clear c84
            try clear c84b0
            try clear c84b1
            try clear c85
            try clear c85b0
            try clear c86
            try clear c86b0
            try clear q87
            try clear c88
            try clear c89
            try clear c89b0
            try clear c89b1
            try clear c91
            try clear c91b0
            try clear c91b1
            try clear hcz11_0
            try clear hcz11_1
            try clear hcz11_2
            try clear hcz11_3
            try clear hcz15_0
            try clear hcz15_1
            try clear hcz15_2
            try clear hcz15_3
            try clear hcz19_0
            try clear hcz19_1
            try clear hcz19_2
            try clear hcz19_3
            try clear hcz26_0
            try clear hcz26_1
            try clear hcz26_2
            try clear hcz26_3
            try clear hcz30_0
            try clear hcz30_1
            try clear hcz30_2
            try clear hcz30_3
            try clear hcz37_0
            try clear hcz37_1
            try clear hcz37_2
            try clear hcz37_3
            try clear hcz45_0
            try clear hcz45_1
            try clear hcz45_2
            try clear hcz45_3
            try clear hcz46_0
            try clear hcz46_1
            try clear hcz46_2
            try clear hcz46_3
            try clear hcz49_0
            try clear hcz49_1
            try clear hcz49_2
            try clear hcz49_3
            try clear hcz50_0
            try clear hcz50_1
            try clear hcz50_2
            try clear hcz50_3
            try clear hcz52_0
            try clear hcz52_1
            try clear hcz52_2
            try clear hcz52_3
            try clear hcz53_0
            try clear hcz53_1
            try clear hcz53_2
            try clear hcz53_3
            try clear hcz77_0
            try clear hcz77_1
            try clear hcz77_2
            try clear hcz77_3
            try clear hcz82_0
            try clear hcz82_1
            try clear hcz82_2
            try clear hcz82_3
            try clear hcz90_0
            try clear hcz90_1
            try clear hcz90_2
            try clear hcz90_3
            try clear hcz92_0
            try clear hcz92_1
            try clear hcz92_2
            try clear hcz92_3
            try clear hfz11_0
            try clear hfz11_1
            try clear hfz11_2
            try clear hfz11_3
            try clear hfz15_0
            try clear hfz15_1
            try clear hfz15_2
            try clear hfz15_3
            try clear hfz19_0
            try clear hfz19_1
            try clear hfz19_2
            try clear hfz19_3
            try clear hfz26_0
            try clear hfz26_1
            try clear hfz26_2
            try clear hfz26_3
            try clear hfz30_0
            try clear hfz30_1
            try clear hfz30_2
            try clear hfz30_3
            try clear hfz37_0
            try clear hfz37_1
            try clear hfz37_2
            try clear hfz37_3
            try clear hfz45_0
            try clear hfz45_1
            try clear hfz45_2
            try clear hfz45_3
            try clear hfz46_0
            try clear hfz46_1
            try clear hfz46_2
            try clear hfz46_3
            try clear hfz49_0
            try clear hfz49_1
            try clear hfz49_2
            try clear hfz49_3
            try clear hfz50_0
            try clear hfz50_1
            try clear hfz50_2
            try clear hfz50_3
            try clear hfz52_0
            try clear hfz52_1
            try clear hfz52_2
            try clear hfz52_3
            try clear hfz53_0
            try clear hfz53_1
            try clear hfz53_2
            try clear hfz53_3
            try clear hfz77_0
            try clear hfz77_1
            try clear hfz77_2
            try clear hfz77_3
            try clear hfz82_0
            try clear hfz82_1
            try clear hfz82_2
            try clear hfz82_3
            try clear hfz90_0
            try clear hfz90_1
            try clear hfz90_2
            try clear hfz90_3
            try clear hfz92_0
            try clear hfz92_1
            try clear hfz92_2
            try clear hfz92_3
            try clear hx146_0
            try clear hx146_1
            try clear hx146_2
            try clear hx147_0
            try clear hx147_1
            try clear hx147_2
            try clear hx153_0
            try clear hx153_1
            try clear hx153_2
            try clear hx162_0
            try clear hx162_1
            try clear hx162_2
            try clear hx163_0
            try clear hx163_1
            try clear hx163_2
            try clear hx173_0
            try clear hx173_1
            try clear hx173_2
            try clear p1
            try clear p14
            try clear p146
            try clear p147
            try clear p15
            try clear p153
            try clear p162
            try clear p163
            try clear p17
            try clear p173
            try clear p2
            try clear p6
            try clear q1
            try clear q12
            try clear q14
            try clear q146
            try clear q147
            try clear q15
            try clear q153
            try clear q162
            try clear q163
            try clear q17
            try clear q173
            obtain ⟨kq, x100_65, rfl, HA, HJ65, HO_3, HO_4, BK152, HB⟩ := hcut
            cases kq with
            | zero => exact absurd HA.out (by simp [cellarerlaw05_ChainKeeps.j3])
            | succ kj65 =>
             have H := HA.out
             clear HA
             simp only [cellarerlaw05_ChainKeeps.j3] at H
             by_cases c93 : x100_65 = true
             ·subst c93
              have H1 : (some false) = some r := by rw [if_pos rfl] at H; exact H
              clear H
              have H := H1
              clear H1
              obtain rfl := Option.some.inj H
              exact absurd HTR_.out (by decide)
             ·replace c93 := Bool.eq_false_iff.mpr c93
              subst c93
              have H1 : (cellarerlaw05_ChainKeeps.l0 kj65 l0 x3_1 x4_1 (wrap64 (x5_1 + 1))) = some r := by rw [if_neg (show ¬ (false = true) by decide)] at H; exact H
              clear H
              have H := H1
              clear H1
              have H' := Aside0.mk H
              clear H
              go_wp2
              go_roundg kj65
              case measure => have := HK1.out; have := HJ1.out; have := HJ7.out; have := HJ65.out; omega
              case rel => exact ⟨(x3_1), (x4_1), (wrap64 (x5_1 + 1)), (by first | rfl | (simp; done) | (simp [*]; done)), H', ⟨by have := HK1.out; have := HJ1.out; have := HJ7.out; have := HJ65.out; omega⟩, ⟨by (with_reducible repeat (first | apply Kd.R_alloc | apply Kd.R_drewN | apply Kd.R_drew)); exact Kd.R_mono HO_3.out (fun _ hk => hk.1)⟩, ⟨(by (with_reducible repeat (first | apply ChMap.MK_alloc | apply ChMap.MK_drewN | apply ChMap.MK_drew)); exact HO_4.out)⟩, ⟨by repeat (first | (with_reducible first | exact HB.out | apply below_alloc | apply pw_below_drewN | apply below_drew1 | refine below_set ?_ GE152.out) | exact HB.out)⟩⟩
       ·rw [if_neg c6] at H
        exact absurd H (by simp)
      ·rw [if_neg c5] at H
       exact absurd H (by simp)
     ·replace c4 := Bool.eq_false_iff.mpr c4
      subst c4
      have H1 : ((cellarerlaw05_awake.f).bind fun t145 => (some t145)) = some r := by rw [if_neg (show ¬ (false = true) by decide)] at H; exact H
      clear H
      have H := H1
      clear H1
      replace H := Option.bind_eq_some_iff.mp H
      obtain ⟨t145, A940, H⟩ := H
      replace H : (some t145) = some r := H
      have A94 := Aside0.mk A940
      clear A940
      obtain rfl := Option.some.inj H
      go_wp2_with (first | ((with_reducible refine gate_callee (f := 19) rfl ?_); refine goesL_ (some 154) rfl rfl Try.func19 (by kernel_rfl) rfl #[] rfl (by (try simp only [List.map_toArray, List.map_cons, List.map_nil]); first | done | rfl | (simp only [List.length_drop, List.length_take]; rfl)) ?_; (with_reducible refine (cellarerlaw05_awake.calls  t145 _ A94.out).mono ?_); rintro e w95 ⟨rfl, hb⟩; refine ⟨_, rfl, ?_⟩; have n0_ := Aside0.mk (Kd.R_below (by (with_reducible repeat (first | apply Kd.R_alloc | apply Kd.R_drewN | apply Kd.R_drew)); exact HO_3.out) hb); have n1_ := Aside0.mk (ChMap.MK_below (by (with_reducible repeat (first | apply ChMap.MK_alloc | apply ChMap.MK_drewN | apply ChMap.MK_drew)); exact HO_4.out) hb); have n2_ := Aside0.mk (below_step (by repeat (first | (with_reducible first | exact HB.out | apply below_alloc | apply pw_below_drewN | apply below_drew1) | exact HB.out)) hb); clear HO_3; clear HO_4; clear HB; have HO_3 := n0_; have HO_4 := n1_; have HB := n2_; clear n0_ n1_ n2_; (try clear hb); (try clear hb2); (try clear hk); (try clear hi)))
      go_ret
      exact ⟨by first | rfl | (simp [errW_none, errW_some] <;> rfl) | (simp [*, errW_none, errW_some] <;> rfl), by repeat (first | (with_reducible first | exact HB.out | apply below_alloc | apply pw_below_drewN | apply below_drew1) | exact HB.out)⟩
end Go.Proofs.Ytldmidoemcdaaaa.P
