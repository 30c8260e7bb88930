/- Printed by a program of this session (wip/tools/gprint.py, over the kit's print) out of the translation: functions and their contracts. -/
import Derived.Test.YtcnnijkgiioniaaPx0
import Derived.Test.YtcnnijkgiioniaaPx10
namespace Go.Proofs.Ytcnnijkgiioniaa.P
open Go.RowKit Go.Proofs.YtcnnijkgiioniaaW.PrintWords Go.Proofs.YtcnnijkgiioniaaW.PrintLast Go.Proofs.YtcnnijkgiioniaaW.PrintMore
attribute [local go_sem] max2_int min2_int max_two min_two max_three min_three max_four min_four   -- for this text's walks alone
set_option linter.unusedVariables false
set_option linter.unusedSimpArgs false

/-! ### cellarerref07_All: function 40 -/
mutual
def cellarerref07_All.l0 : Nat → List (S50) → ByteArray → List (S65) → Int → Option ((List (S65)))
  | 0, _, _, _, _ => none
  | k + 1, x0, x1, x5, x6 => if x6 < (x0.length : Int) then (cellarerref07_All.l1 k x0 x1 x5 x6 0) else (some x5)
def cellarerref07_All.l1 : Nat → List (S50) → ByteArray → List (S65) → Int → Int → Option ((List (S65)))
  | 0, _, _, _, _, _ => none
  | k + 1, x0, x1, x5, x6, x7 => if 0 ≤ x6 then (if x6 < (x0.length : Int) then (if x7 < (((rd_T50 x0 x6).f1).length : Int) then ((cellarerref01_Under.f ((rd_T50 x0 x6).f0) x1).bind fun t416 => (if t416 = true then (if 0 ≤ x7 then (if x5.length < 3518437208883 then (cellarerref07_All.l1 k x0 x1 (x5 ++ [(⟨(rd_T50 x0 x6).f0, (rd_T52 ((rd_T50 x0 x6).f1) x7).f0, (x7 == 0), (rd_T52 ((rd_T50 x0 x6).f1) x7).f2, (((rd_T52 ((rd_T50 x0 x6).f1) x7).f1).size : Int)⟩ : S65)]) x6 (wrap64 (x7 + 1))) else (none)) else (none)) else (cellarerref07_All.l0 k x0 x1 x5 (wrap64 (x6 + 1))))) else (cellarerref07_All.l0 k x0 x1 x5 (wrap64 (x6 + 1)))) else (none)) else (none)
end
def cellarerref07_All.f (k : Nat) (l0 : List (S50)) (a1 : ByteArray) : Option ((List (S65))) := cellarerref07_All.l0 k l0 a1 ([] : List (S65)) 0
theorem cellarerref07_All.mono_l : ∀ k, (∀ y0 y1 y2 y3, LeO (cellarerref07_All.l0 k y0 y1 y2 y3) (cellarerref07_All.l0 (k + 1) y0 y1 y2 y3)) ∧ (∀ y0 y1 y2 y3 y4, LeO (cellarerref07_All.l1 k y0 y1 y2 y3 y4) (cellarerref07_All.l1 (k + 1) y0 y1 y2 y3 y4))
  | 0 => ⟨fun _ _ _ _ r h => by simp [cellarerref07_All.l0] at h, fun _ _ _ _ _ r h => by simp [cellarerref07_All.l1] at h⟩
  | k + 1 => by
    obtain ⟨ih0, ih1⟩ := cellarerref07_All.mono_l k
    refine ⟨?_, ?_⟩
    · intro y0 y1 y2 y3
      unfold cellarerref07_All.l0
      repeat' first
      | (with_reducible exact ih0 _ _ _ _)
      | (with_reducible exact ih1 _ _ _ _ _)
      | (with_reducible exact LeO.refl _)
      | (with_reducible exact LeO.none _)
      | (with_reducible refine LeO.ite ?_ ?_)
      | (with_reducible refine LeO.bind ?_ (fun _ => ?_))
      | exact ih0 _ _ _ _
      | exact ih1 _ _ _ _ _
      | exact LeO.none _
      | refine LeO.ite ?_ ?_
      | refine LeO.bind ?_ (fun _ => ?_)
    · intro y0 y1 y2 y3 y4
      unfold cellarerref07_All.l1
      repeat' first
      | (with_reducible exact ih0 _ _ _ _)
      | (with_reducible exact ih1 _ _ _ _ _)
      | (with_reducible exact LeO.refl _)
      | (with_reducible exact LeO.none _)
      | (with_reducible refine LeO.ite ?_ ?_)
      | (with_reducible refine LeO.bind ?_ (fun _ => ?_))
      | exact ih0 _ _ _ _
      | exact ih1 _ _ _ _ _
      | exact LeO.none _
      | refine LeO.ite ?_ ?_
      | refine LeO.bind ?_ (fun _ => ?_)
theorem cellarerref07_All.mono : ∀ a0 a1 k, LeO (cellarerref07_All.f k a0 a1) (cellarerref07_All.f (k + 1) a0 a1) := by
  intro a0 a1 k
  obtain ⟨ih0, ih1⟩ := cellarerref07_All.mono_l k
  unfold cellarerref07_All.f
  repeat' first
      | (with_reducible exact ih0 _ _ _ _)
      | (with_reducible exact ih1 _ _ _ _ _)
      | (with_reducible exact LeO.refl _)
      | (with_reducible exact LeO.none _)
      | (with_reducible refine LeO.ite ?_ ?_)
      | (with_reducible refine LeO.bind ?_ (fun _ => ?_))
      | exact ih0 _ _ _ _
      | exact ih1 _ _ _ _ _
      | exact LeO.none _
      | refine LeO.ite ?_ ?_
      | refine LeO.bind ?_ (fun _ => ?_)
def cellarerref07_All.T9 : Bool × List (List Nat × List Nat) := (true, [([], []), ([], []), ([], []), ([1, 2], [1, 2]), ([3], [3]), ([4], [4]), ([], []), ([6], [6]), ([], []), ([8], [8]), ([], []), ([10], [10]), ([], []), ([12], [12]), ([13], [13]), ([5, 7, 9, 11, 14], [5, 7, 9, 11, 14]), ([15], [15]), ([0, 16], [0, 16]), ([17, 17, 0, 1, 2, 3, 4, 5, 6, 7, 8, 9, 10, 11, 12, 13, 14, 15, 16, 17], [0, 17])])
def cellarerref07_All.B9 : List Nat := [0, 0, 0, 6, 14, 30, 0, 64, 0, 256, 0, 1024, 0, 4096, 12288, 32766, 65534, 131071, 262143]
theorem cellarerref07_All.tab9 : rtab .any (opsOf Try.f40 9) = cellarerref07_All.T9 := by kernel_rfl
theorem cellarerref07_All.bits9 : waitsOk cellarerref07_All.T9.2 cellarerref07_All.B9 = true := by kernel_rfl
def cellarerref07_All.bs (n m : Nat) : Array Bool := ((List.range n).map fun i => m.testBit i).toArray
set_option maxHeartbeats 8000000 in
set_option maxRecDepth 100000 in
theorem cellarerref07_All.calls (k : Nat) (A0 : Option Addr) (c0 : Nat) (l0 : List (S50)) (a1 : ByteArray) (r : List (S65)) (w : World) (hr0 : Kd.C k50 w A0 l0.length l0) (hc0 : l0.length ≤ c0) (h : cellarerref07_All.f k l0 a1 = some r) :
  Calls Try.prog 40 #[.slice A0 l0.length c0, .string a1] w fun e w' => ∃ v0_ : Value, e = .returned (v0_) ∧ Kd.R k65 65 w' w.heap.size (fun _ => True) v0_ r ∧ Below w.heap.size w w' := by
 have hu52 := Try.underlying52
 have hu65 := Try.underlying65
 have HR0 := Aside0.mk hr0
 have HC0 := Aside0.mk hc0
 clear hr0 hc0
 have HB := Aside0.mk (Below.refl w.heap.size w)
 have H : (cellarerref07_All.l0 k l0 a1 ([] : List (S65)) 0) = some r := h
 clear h
 have H' := Aside0.mk H
 clear H
 go_enter Try.func40, Try.ntmps40
 go_wp2
 go_loopg [5, 6] k (fun kq v5 v6 w' => ∃ (x5_1 : List (S65)) (x6_1 : Int), v6 = .int .i64 x6_1 ∧ Aside0 (cellarerref07_All.l0 kq l0 a1 x5_1 x6_1 = some r) ∧ Aside0 (kq ≤ k) ∧ Aside0 (Kd.R k65 65 w' w.heap.size (fun _ => True) v5 x5_1) ∧ Aside0 (Below w.heap.size w w'))
 case atStart => exact ⟨(([] : List (S65))), (0), (by first | rfl | (simp; done) | (simp [*]; done)), H', ⟨Nat.le_refl _⟩, ⟨by first | exact Kd.R_nil _ _ _ _ _ | exact Kd.N_nil _ _ _ _ _ | exact Kd.V_nil _ _ _ _ _ | exact Kd.Q_nil _ _ _ _ _ | exact Kd.S_nil _ _ _ _ _⟩, ⟨by repeat (first | (with_reducible first | exact HB.out | apply below_alloc | apply pw_below_drewN | apply below_drew1) | exact HB.out)⟩⟩
 case round =>
  clear H'
  try clear p2
  obtain ⟨x5_1, x6_1, rfl, HA, HK1, HO_5, HB⟩ := hrel
  cases gk with
  | zero => exact absurd HA.out (by simp [cellarerref07_All.l0])
  | succ k1 =>
   have H := HA.out
   clear HA
   simp only [cellarerref07_All.l0] at H
   by_cases c3 : x6_1 < (l0.length : Int)
   ·rw [if_pos c3] at H
    have c3b0 : decide (x6_1 < (l0.length : Int)) = true := decide_eq_true c3
    clear c3
    have H' := Aside0.mk H
    clear H
    go_wp2
    go_loopg [5, 7] k1 (fun kq v5 v7 w' => ∃ (x5_2 : List (S65)) (x7_2 : Int), v7 = .int .i64 x7_2 ∧ Aside0 (cellarerref07_All.l1 kq l0 a1 x5_2 x6_1 x7_2 = some r) ∧ Aside0 (kq ≤ k1) ∧ Aside0 (Kd.R k65 65 w' w.heap.size (fun _ => True) v5 x5_2) ∧ Aside0 (Below w.heap.size w w'))
    case atStart => exact ⟨(x5_1), (0), (by first | rfl | (simp; done) | (simp [*]; done)), H', ⟨Nat.le_refl _⟩, ⟨by (with_reducible repeat (first | apply Kd.R_alloc | apply Kd.R_drewN | apply Kd.R_drew)); exact HO_5.out⟩, ⟨by repeat (first | (with_reducible first | exact HB.out | apply below_alloc | apply pw_below_drewN | apply below_drew1) | exact HB.out)⟩⟩
    case round =>
     clear H'
     try clear p2
     try clear c3
     try clear c3b0
     try clear p2
     obtain ⟨x5_2, x7_2, rfl, HA, HK2, HO_5, HB⟩ := hrel
     cases gk with
     | zero => exact absurd HA.out (by simp [cellarerref07_All.l1])
     | succ k2 =>
      have H := HA.out
      clear HA
      simp only [cellarerref07_All.l1] at H
      by_cases c4 : 0 ≤ x6_1
      ·rw [if_pos c4] at H
       have c4b0 : decide (0 ≤ x6_1) = true := decide_eq_true c4
       clear c4
       by_cases c5 : x6_1 < (l0.length : Int)
       ·rw [if_pos c5] at H
        have c5b0 : decide (x6_1 < (l0.length : Int)) = true := decide_eq_true c5
        clear c5
        by_cases c6 : x7_2 < (((rd_T50 l0 x6_1).f1).length : Int)
        ·rw [if_pos c6] at H
         have c6b0 : decide (x7_2 < (((rd_T50 l0 x6_1).f1).length : Int)) = true := decide_eq_true c6
         clear c6
         replace H := Option.bind_eq_some_iff.mp H
         obtain ⟨t416, A70, H⟩ := H
         replace H : (if t416 = true then (if 0 ≤ x7_2 then (if x5_2.length < 3518437208883 then (cellarerref07_All.l1 k2 l0 a1 (x5_2 ++ [(⟨(rd_T50 l0 x6_1).f0, (rd_T52 ((rd_T50 l0 x6_1).f1) x7_2).f0, (x7_2 == 0), (rd_T52 ((rd_T50 l0 x6_1).f1) x7_2).f2, (((rd_T52 ((rd_T50 l0 x6_1).f1) x7_2).f1).size : Int)⟩ : S65)]) x6_1 (wrap64 (x7_2 + 1))) else (none)) else (none)) else (cellarerref07_All.l0 k2 l0 a1 x5_2 (wrap64 (x6_1 + 1)))) = some r := H
         have A7 := Aside0.mk A70
         clear A70
         by_cases c8 : t416 = true
         ·subst c8
          have H1 : (if 0 ≤ x7_2 then (if x5_2.length < 3518437208883 then (cellarerref07_All.l1 k2 l0 a1 (x5_2 ++ [(⟨(rd_T50 l0 x6_1).f0, (rd_T52 ((rd_T50 l0 x6_1).f1) x7_2).f0, (x7_2 == 0), (rd_T52 ((rd_T50 l0 x6_1).f1) x7_2).f2, (((rd_T52 ((rd_T50 l0 x6_1).f1) x7_2).f1).size : Int)⟩ : S65)]) x6_1 (wrap64 (x7_2 + 1))) else (none)) else (none)) = some r := by rw [if_pos rfl] at H; exact H
          clear H
          have H := H1
          clear H1
          by_cases c9 : 0 ≤ x7_2
          ·rw [if_pos c9] at H
           have c9b0 : decide (0 ≤ x7_2) = true := decide_eq_true c9
           clear c9
           by_cases c10 : x5_2.length < 3518437208883
           ·rw [if_pos c10] at H
            have LMc10 := Aside0.mk c10
            clear c10
            obtain ⟨y421, hy421⟩ : ∃ y_ : List (S65), y_ = (x5_2 ++ [(⟨(rd_T50 l0 x6_1).f0, (rd_T52 ((rd_T50 l0 x6_1).f1) x7_2).f0, (x7_2 == 0), (rd_T52 ((rd_T50 l0 x6_1).f1) x7_2).f2, (((rd_T52 ((rd_T50 l0 x6_1).f1) x7_2).f1).size : Int)⟩ : S65)]) := ⟨_, rfl⟩
            replace H : (cellarerref07_All.l1 k2 l0 a1 y421 x6_1 (wrap64 (x7_2 + 1))) = some r := by first | (rw [hy421]; with_reducible exact H) | (have H2_ := (Option.bind_some _ _).symm.trans H; rw [hy421]; with_reducible exact H2_) | (have H2_ := (Option.bind_some _ _).symm.trans H; with_reducible exact H2_) | with_reducible exact H | (rw [hy421]; exact H) | exact H
            have Ny421 := Aside0.mk hy421
            clear hy421
            have H' := Aside0.mk H
            clear H
            have p414 : 0 ≤ (x6_1 : Int) := of_decide_eq_true (by first | (with_reducible assumption) | assumption)
            have q414 : x6_1 < (l0.length : Int) := of_decide_eq_true (by first | (with_reducible assumption) | assumption)
            obtain ⟨ad414, A414_1, c414_1, e414, hx414_0, hx414_1, hl414_1, hi414_1⟩ := at_T50 HR0.out x6_1 p414 q414
            cases e414
            have hx414_0w_ := hx414_0; replace hx414_0 := (HB.out.cell (World.block_lt_of_cell? w _ hx414_0)).trans hx414_0
            have hx414_1w_ := hx414_1; replace hx414_1 := (HB.out.cell (World.block_lt_of_cell? w _ hx414_1)).trans hx414_1
            have HR414_1 := Aside0.mk hi414_1
            have HC414_1 := Aside0.mk hl414_1
            clear hi414_1 hl414_1
            replace p414 := eq_true p414
            replace q414 := eq_true q414
            have p415 : 0 ≤ (x6_1 : Int) := of_decide_eq_true (by first | (with_reducible assumption) | assumption)
            have q415 : x6_1 < (l0.length : Int) := of_decide_eq_true (by first | (with_reducible assumption) | assumption)
            obtain ⟨ad415, A415_1, c415_1, e415, hx415_0, hx415_1, hl415_1, hi415_1⟩ := at_T50 HR0.out x6_1 p415 q415
            obtain rfl : ad414 = ad415 := (by injection e415)
            have hx415_0w_ := hx415_0; replace hx415_0 := (HB.out.cell (World.block_lt_of_cell? w _ hx415_0)).trans hx415_0
            have hx415_1w_ := hx415_1; replace hx415_1 := (HB.out.cell (World.block_lt_of_cell? w _ hx415_1)).trans hx415_1
            have HR415_1 := Aside0.mk hi415_1
            have HC415_1 := Aside0.mk hl415_1
            clear hi415_1 hl415_1
            replace p415 := eq_true p415
            replace q415 := eq_true q415
            have ea_ := Option.some.inj (hx414_1w_.symm.trans hx415_1w_)
            injection ea_ with ea_ en_ ec_
            subst ea_
            subst ec_
            clear en_
            try go_wp2_with (first | (go_at_call 21; (with_reducible refine (cellarerref01_Under.calls ((rd_T50 l0 x6_1).f0) a1 true _ A7.out).mono ?_); rintro e w' ⟨rfl, ⟨nd, rfl⟩⟩; (try (rw [drewN_self wr]; generalize hq_ : World.drewN wr _ = wr; have n0_ : Aside0 (Kd.R k65 65 wr w.heap.size (fun _ => True) u5 x5_2) := ⟨by rw [← hq_]; exact (by (with_reducible repeat (first | apply Kd.R_alloc | apply Kd.R_drewN | apply Kd.R_drew)); exact HO_5.out)⟩; have n1_ : Aside0 (Below w.heap.size w wr) := ⟨by rw [← hq_]; exact (by repeat (first | (with_reducible first | exact HB.out | apply below_alloc | apply pw_below_drewN | apply below_drew1) | exact HB.out))⟩; clear HO_5 HB hq_; have HO_5 := n0_; have HB := n1_; clear n0_ n1_)); have p417 : 0 ≤ (x6_1 : Int) := of_decide_eq_true (by first | (with_reducible assumption) | assumption); have q417 : x6_1 < (l0.length : Int) := of_decide_eq_true (by first | (with_reducible assumption) | assumption); obtain ⟨ad417, A417_1, c417_1, e417, hx417_0, hx417_1, hl417_1, hi417_1⟩ := at_T50 HR0.out x6_1 p417 q417; obtain rfl : ad414 = ad417 := (by injection e417); have hx417_0w_ := hx417_0; replace hx417_0 := (HB.out.cell (World.block_lt_of_cell? w _ hx417_0)).trans hx417_0; have hx417_1w_ := hx417_1; replace hx417_1 := (HB.out.cell (World.block_lt_of_cell? w _ hx417_1)).trans hx417_1; have HR417_1 := Aside0.mk hi417_1; have HC417_1 := Aside0.mk hl417_1; clear hi417_1 hl417_1; replace p417 := eq_true p417; replace q417 := eq_true q417; have ea_ := Option.some.inj (hx414_1w_.symm.trans hx417_1w_); injection ea_ with ea_ en_ ec_; subst ea_; subst ec_; clear en_; have p418 : 0 ≤ (x7_2 : Int) := of_decide_eq_true (by first | (with_reducible assumption) | assumption); have q418 : x7_2 < (((rd_T50 l0 x6_1).f1).length : Int) := of_decide_eq_true (by first | (with_reducible assumption) | assumption); obtain ⟨ad418, e418, hx418_0, hx418_1, hx418_2, hx418_3⟩ := at_T52 HR417_1.out x7_2 p418 q418; cases e418; have hx418_0w_ := hx418_0; replace hx418_0 := (HB.out.cell (World.block_lt_of_cell? w _ hx418_0)).trans hx418_0; have hx418_1w_ := hx418_1; replace hx418_1 := (HB.out.cell (World.block_lt_of_cell? w _ hx418_1)).trans hx418_1; have hx418_2w_ := hx418_2; replace hx418_2 := (HB.out.cell (World.block_lt_of_cell? w _ hx418_2)).trans hx418_2; have hx418_3w_ := hx418_3; replace hx418_3 := (HB.out.cell (World.block_lt_of_cell? w _ hx418_3)).trans hx418_3; replace p418 := eq_true p418; replace q418 := eq_true q418) | ((with_reducible refine gate_dst (N := 8) rfl ?_); refine box_event ?hg (N := 8) ?hd (cs := #[.int .u64 0, .string (⟨#[]⟩ : ByteArray), .bool false, .int .i64 0]) (t := 52) ?hr ?_; (case hd => rfl); (case hg => rfl); (case hr => first | (go_simp; done) | (go_simp; rfl)); intro gb419 hg w11 hbox hb; have n0_ := Aside0.mk (Kd.R_below (by (with_reducible repeat (first | apply Kd.R_alloc | apply Kd.R_drewN | apply Kd.R_drew)); exact HO_5.out) hb); have n1_ := Aside0.mk (below_step (by repeat (first | (with_reducible first | exact HB.out | apply below_alloc | apply pw_below_drewN | apply below_drew1) | exact HB.out)) hb); have n2_ := Aside0.mk (hbox); have n3_ := Aside0.mk ((by rw [hg]; exact (below_size (by repeat (first | (with_reducible first | exact HB.out | apply below_alloc | apply pw_below_drewN | apply below_drew1) | exact HB.out))) : w.heap.size ≤ gb419)); have n4_ := Aside0.mk ((by rw [hg]; exact (below_size (by repeat (first | (with_reducible first | exact HB.out | apply below_alloc | apply pw_below_drewN | apply below_drew1) | exact HB.out))) : w.heap.size ≤ gb419)); clear HO_5; clear HB; have HO_5 := n0_; have HB := n1_; have BK419 := n2_; have GW419 := n3_; have GE419 := n4_; clear n0_ n1_ n2_ n3_ n4_; clear hb hbox hg; have hcz12_0 : w11.cell? ⟨gb419, 0, none⟩ = some (.int .u64 0) := (blk_cell BK419.out 0).trans rfl; have hcz12_1 : w11.cell? ⟨gb419, 1, none⟩ = some (.string (⟨#[]⟩ : ByteArray)) := (blk_cell BK419.out 1).trans rfl; have hcz12_2 : w11.cell? ⟨gb419, 2, none⟩ = some (.bool false) := (blk_cell BK419.out 2).trans rfl; have hcz12_3 : w11.cell? ⟨gb419, 3, none⟩ = some (.int .i64 0) := (blk_cell BK419.out 3).trans rfl; have hfz12_0 := blk_frozen BK419.out 0; have hfz12_1 := blk_frozen BK419.out 1; have hfz12_2 := blk_frozen BK419.out 2; have hfz12_3 := blk_frozen BK419.out 3))
            have n0_ : Aside0 (Kd.R k65 65 ((((w11.setCell ⟨gb419, 0, none⟩ (.int .u64 ((rd_T52 ((rd_T50 l0 x6_1).f1) x7_2).f0))).setCell ⟨gb419, 1, none⟩ (.string ((rd_T52 ((rd_T50 l0 x6_1).f1) x7_2).f1))).setCell ⟨gb419, 2, none⟩ (.bool ((rd_T52 ((rd_T50 l0 x6_1).f1) x7_2).f2))).setCell ⟨gb419, 3, none⟩ (.int .i64 ((rd_T52 ((rd_T50 l0 x6_1).f1) x7_2).f3))) w.heap.size (fun _ => True) u5 x5_2) := ⟨by (with_reducible repeat (first | apply Kd.R_alloc | apply Kd.R_drewN | apply Kd.R_drew)); exact Kd.R_mono (Kd.R_far (p := ⟨gb419, 3, none⟩) (Kd.R_far (p := ⟨gb419, 2, none⟩) (Kd.R_far (p := ⟨gb419, 1, none⟩) (Kd.R_far (p := ⟨gb419, 0, none⟩) (Kd.R_types HO_5.out BK419.out (by decide)) (fun _ hk => hk.2) (.int .u64 ((rd_T52 ((rd_T50 l0 x6_1).f1) x7_2).f0))) (fun _ hk => hk.2) (.string ((rd_T52 ((rd_T50 l0 x6_1).f1) x7_2).f1))) (fun _ hk => hk.2) (.bool ((rd_T52 ((rd_T50 l0 x6_1).f1) x7_2).f2))) (fun _ hk => hk.2) (.int .i64 ((rd_T52 ((rd_T50 l0 x6_1).f1) x7_2).f3))) (fun _ hk => trivial)⟩
            have n1_ : Aside0 (((((w11.setCell ⟨gb419, 0, none⟩ (.int .u64 ((rd_T52 ((rd_T50 l0 x6_1).f1) x7_2).f0))).setCell ⟨gb419, 1, none⟩ (.string ((rd_T52 ((rd_T50 l0 x6_1).f1) x7_2).f1))).setCell ⟨gb419, 2, none⟩ (.bool ((rd_T52 ((rd_T50 l0 x6_1).f1) x7_2).f2))).setCell ⟨gb419, 3, none⟩ (.int .i64 ((rd_T52 ((rd_T50 l0 x6_1).f1) x7_2).f3))).heap[gb419]? = some (.cells #[.int .u64 ((rd_T52 ((rd_T50 l0 x6_1).f1) x7_2).f0), .string ((rd_T52 ((rd_T50 l0 x6_1).f1) x7_2).f1), .bool ((rd_T52 ((rd_T50 l0 x6_1).f1) x7_2).f2), .int .i64 ((rd_T52 ((rd_T50 l0 x6_1).f1) x7_2).f3)] 52 (0, 0))) := ⟨by (with_reducible repeat (first | refine blk_drewN ?_ _ | refine blk_drew ?_ | refine blk_alloc ?_ _)); refine blk_put (cs := #[.int .u64 ((rd_T52 ((rd_T50 l0 x6_1).f1) x7_2).f0), .string ((rd_T52 ((rd_T50 l0 x6_1).f1) x7_2).f1), .bool ((rd_T52 ((rd_T50 l0 x6_1).f1) x7_2).f2), .int .i64 0]) ?_ 3 _ rfl; (with_reducible repeat (first | refine blk_drewN ?_ _ | refine blk_drew ?_ | refine blk_alloc ?_ _)); refine blk_put (cs := #[.int .u64 ((rd_T52 ((rd_T50 l0 x6_1).f1) x7_2).f0), .string ((rd_T52 ((rd_T50 l0 x6_1).f1) x7_2).f1), .bool false, .int .i64 0]) ?_ 2 _ rfl; (with_reducible repeat (first | refine blk_drewN ?_ _ | refine blk_drew ?_ | refine blk_alloc ?_ _)); refine blk_put (cs := #[.int .u64 ((rd_T52 ((rd_T50 l0 x6_1).f1) x7_2).f0), .string (⟨#[]⟩ : ByteArray), .bool false, .int .i64 0]) ?_ 1 _ rfl; (with_reducible repeat (first | refine blk_drewN ?_ _ | refine blk_drew ?_ | refine blk_alloc ?_ _)); refine blk_put (cs := #[.int .u64 0, .string (⟨#[]⟩ : ByteArray), .bool false, .int .i64 0]) ?_ 0 _ rfl; (with_reducible repeat (first | refine blk_drewN ?_ _ | refine blk_drew ?_ | refine blk_alloc ?_ _)); exact BK419.out⟩
            have n2_ : Aside0 (Below w.heap.size w ((((w11.setCell ⟨gb419, 0, none⟩ (.int .u64 ((rd_T52 ((rd_T50 l0 x6_1).f1) x7_2).f0))).setCell ⟨gb419, 1, none⟩ (.string ((rd_T52 ((rd_T50 l0 x6_1).f1) x7_2).f1))).setCell ⟨gb419, 2, none⟩ (.bool ((rd_T52 ((rd_T50 l0 x6_1).f1) x7_2).f2))).setCell ⟨gb419, 3, none⟩ (.int .i64 ((rd_T52 ((rd_T50 l0 x6_1).f1) x7_2).f3)))) := ⟨by repeat (first | (with_reducible first | exact HB.out | apply below_alloc | apply pw_below_drewN | apply below_drew1 | refine below_set ?_ GE419.out) | exact HB.out)⟩
            (try clear HO_5)
            (try clear BK419)
            (try clear HB)
            generalize ((((w11.setCell ⟨gb419, 0, none⟩ (.int .u64 ((rd_T52 ((rd_T50 l0 x6_1).f1) x7_2).f0))).setCell ⟨gb419, 1, none⟩ (.string ((rd_T52 ((rd_T50 l0 x6_1).f1) x7_2).f1))).setCell ⟨gb419, 2, none⟩ (.bool ((rd_T52 ((rd_T50 l0 x6_1).f1) x7_2).f2))).setCell ⟨gb419, 3, none⟩ (.int .i64 ((rd_T52 ((rd_T50 l0 x6_1).f1) x7_2).f3))) = w13 at n0_ n1_ n2_ ⊢
            have HO_5 := n0_
            have BK419 := n1_
            have HB := n2_
            clear n0_ n1_ n2_
            have n0_ := Aside0.mk (Kd.R_drew HO_5.out)
            have n1_ := Aside0.mk (blk_drew BK419.out)
            have n2_ := Aside0.mk (below_drew1 HB.out)
            clear HO_5
            clear BK419
            clear HB
            have HO_5 := n0_
            have BK419 := n1_
            have HB := n2_
            clear n0_ n1_ n2_
            have p420 : 0 ≤ (x6_1 : Int) := of_decide_eq_true (by first | (with_reducible assumption) | assumption)
            have q420 : x6_1 < (l0.length : Int) := of_decide_eq_true (by first | (with_reducible assumption) | assumption)
            obtain ⟨ad420, A420_1, c420_1, e420, hx420_0, hx420_1, hl420_1, hi420_1⟩ := at_T50 HR0.out x6_1 p420 q420
            have hw420_1 := hx420_1
            have hw420_0 := hx420_0
            obtain rfl : ad414 = ad420 := (by injection e420)
            have hx420_0w_ := hx420_0; replace hx420_0 := (HB.out.cell (World.block_lt_of_cell? w _ hx420_0)).trans hx420_0
            have hx420_1w_ := hx420_1; replace hx420_1 := (HB.out.cell (World.block_lt_of_cell? w _ hx420_1)).trans hx420_1
            have HR420_1 := Aside0.mk hi420_1
            have HC420_1 := Aside0.mk hl420_1
            clear hi420_1 hl420_1
            replace p420 := eq_true p420
            replace q420 := eq_true q420
            refine start_ (n := 19) (S := fun w' => w'.cell? ⟨gb419, 0, none⟩ = some (.int .u64 ((rd_T52 ((rd_T50 l0 x6_1).f1) x7_2).f0)) ∧ w'.cell? ⟨gb419, 1, none⟩ = some (.string ((rd_T52 ((rd_T50 l0 x6_1).f1) x7_2).f1)) ∧ w'.cell? ⟨gb419, 2, none⟩ = some (.bool ((rd_T52 ((rd_T50 l0 x6_1).f1) x7_2).f2)) ∧ w'.cell? ⟨gb419, 3, none⟩ = some (.int .i64 ((rd_T52 ((rd_T50 l0 x6_1).f1) x7_2).f3)) ∧ w'.cell? (ad414.add ((x6_1).toNat * 2)) = some (.string ((rd_T50 l0 x6_1).f0)) ∧ w'.cell? ⟨(ad414.add ((x6_1).toNat * 2)).block, (ad414.add ((x6_1).toNat * 2)).off + 1, none⟩ = some (.slice A420_1 ((rd_T50 l0 x6_1).f1).length c420_1)) (ds := []) #[false, false, false, false, false, false, false, false, false, false, false, false, false, false, false, false, false, false, false] (by kernel_rfl) rfl rfl ⟨(blk_cell BK419.out 0).trans rfl, (blk_cell BK419.out 1).trans rfl, (blk_cell BK419.out 2).trans rfl, (blk_cell BK419.out 3).trans rfl, ((HB.out.cell (World.block_lt_of_cell? w _ hw420_0)).trans hw420_0), ((HB.out.cell (World.block_lt_of_cell? w _ hw420_1)).trans hw420_1)⟩ (fun hHeld => ?_); refine with_tabW cellarerref07_All.tab9 cellarerref07_All.bits9 (fun HT_ HW_ => ?_)
            generalize w13.drew = w14 at HO_5 BK419 HB HR420_1 hx420_0 hx420_1 hHeld ⊢
            refine pure_ (i := 0) (N := some 42) (v := ?_) (a' := ?_) (cellarerref07_All.bs 19 1) rfl rfl (any_of HT_.out (by kernel_rfl)) (fun _ _ _ h => h) (Or.inl ⟨by rfl, ?_⟩) ?_ ?_
            rotate_left
            ·intro w'
             go_simp
             with_reducible rfl
            rotate_left
            ·simp only [Act.put, List.setIfInBounds_toArray, List.set_cons_zero, List.set_cons_succ, i64_w, i32_w]
             rfl
            refine pure_ (i := 1) (N := some 43) (v := ?_) (a' := ?_) (cellarerref07_All.bs 19 3) rfl rfl (any_of HT_.out (by kernel_rfl)) (fun _ _ _ h => h) (Or.inl ⟨by rfl, ?_⟩) ?_ ?_
            rotate_left
            ·intro w'
             go_simp
             with_reducible rfl
            rotate_left
            ·simp only [Act.put, List.setIfInBounds_toArray, List.set_cons_zero, List.set_cons_succ, i64_w, i32_w]
             rfl
            refine pure_ (i := 2) (N := some 44) (v := ?_) (a' := ?_) (cellarerref07_All.bs 19 7) rfl rfl (any_of HT_.out (by kernel_rfl)) (fun _ _ _ h => h) (Or.inl ⟨by rfl, ?_⟩) ?_ ?_
            rotate_left
            ·intro w'
             go_simp
             with_reducible rfl
            rotate_left
            ·simp only [Act.put, List.setIfInBounds_toArray, List.set_cons_zero, List.set_cons_succ, i64_w, i32_w]
             rfl
            refine pure_ (i := 3) (N := some 45) (v := ?_) (a' := ?_) (cellarerref07_All.bs 19 15) rfl rfl (any_of HT_.out (by kernel_rfl)) (fun _ _ _ h => h) (Or.inl ⟨by rfl, ?_⟩) ?_ ?_
            rotate_left
            ·intro w'
             go_simp
             with_reducible rfl
            rotate_left
            ·simp only [Act.put, List.setIfInBounds_toArray, List.set_cons_zero, List.set_cons_succ, i64_w, i32_w]
             rfl
            refine pure_ (i := 4) (N := some 46) (v := ?_) (a' := ?_) (cellarerref07_All.bs 19 31) rfl rfl (any_of HT_.out (by kernel_rfl)) (fun _ _ _ h => h) (Or.inl ⟨by rfl, ?_⟩) ?_ ?_
            rotate_left
            ·intro w'
             go_simp
             with_reducible rfl
            rotate_left
            ·simp only [Act.put, List.setIfInBounds_toArray, List.set_cons_zero, List.set_cons_succ, i64_w, i32_w]
             rfl
            refine pure_ (i := 6) (N := some 48) (v := ?_) (a' := ?_) (cellarerref07_All.bs 19 95) rfl rfl (any_of HT_.out (by kernel_rfl)) (fun _ _ _ h => h) (Or.inl ⟨by rfl, ?_⟩) ?_ ?_
            rotate_left
            ·intro w'
             go_simp
             with_reducible rfl
            rotate_left
            ·simp only [Act.put, List.setIfInBounds_toArray, List.set_cons_zero, List.set_cons_succ, i64_w, i32_w]
             rfl
            refine pure_ (i := 8) (N := some 50) (v := ?_) (a' := ?_) (cellarerref07_All.bs 19 351) rfl rfl (any_of HT_.out (by kernel_rfl)) (fun _ _ _ h => h) (Or.inl ⟨by rfl, ?_⟩) ?_ ?_
            rotate_left
            ·intro w'
             go_simp
             with_reducible rfl
            rotate_left
            ·simp only [Act.put, List.setIfInBounds_toArray, List.set_cons_zero, List.set_cons_succ, i64_w, i32_w]
             rfl
            refine pure_ (i := 9) (N := some 51) (v := ?_) (a' := ?_) (cellarerref07_All.bs 19 863) rfl rfl (any_of HT_.out (by kernel_rfl)) (fun _ _ _ h => h) (Or.inl ⟨by rfl, ?_⟩) ?_ ?_
            rotate_left
            ·intro w'
             go_simp
             with_reducible rfl
            rotate_left
            ·simp only [Act.put, List.setIfInBounds_toArray, List.set_cons_zero, List.set_cons_succ, i64_w, i32_w]
             rfl
            refine pure_ (i := 10) (N := some 52) (v := ?_) (a' := ?_) (cellarerref07_All.bs 19 1887) rfl rfl (any_of HT_.out (by kernel_rfl)) (fun _ _ _ h => h) (Or.inl ⟨by rfl, ?_⟩) ?_ ?_
            rotate_left
            ·intro w'
             go_simp
             with_reducible rfl
            rotate_left
            ·simp only [Act.put, List.setIfInBounds_toArray, List.set_cons_zero, List.set_cons_succ, i64_w, i32_w]
             rfl
            refine pure_ (i := 12) (N := some 54) (v := ?_) (a' := ?_) (cellarerref07_All.bs 19 5983) rfl rfl (any_of HT_.out (by kernel_rfl)) (fun _ _ _ h => h) (Or.inl ⟨by rfl, ?_⟩) ?_ ?_
            rotate_left
            ·intro w'
             go_simp
             with_reducible rfl
            rotate_left
            ·simp only [Act.put, List.setIfInBounds_toArray, List.set_cons_zero, List.set_cons_succ, i64_w, i32_w]
             rfl
            refine take_ (i := 5) (N := some 47) (v := ?_) (a' := ?_) (cellarerref07_All.bs 19 6015) rfl rfl (take_ofW HT_.out HW_.out (by kernel_rfl)) (fun _ _ _ h => h) (Or.inl ⟨by rfl, ?_⟩) hHeld ?_ ?_
            rotate_left
            ·rintro w' ⟨s0, s1, s2, s3, s4, s5⟩
             go_simp
             with_reducible rfl
            rotate_left
            ·simp only [Act.put, List.setIfInBounds_toArray, List.set_cons_zero, List.set_cons_succ, i64_w, i32_w]
             rfl
            refine take_ (i := 7) (N := some 49) (v := ?_) (a' := ?_) (cellarerref07_All.bs 19 6143) rfl rfl (take_ofW HT_.out HW_.out (by kernel_rfl)) (fun _ _ _ h => h) (Or.inl ⟨by rfl, ?_⟩) hHeld ?_ ?_
            rotate_left
            ·rintro w' ⟨s0, s1, s2, s3, s4, s5⟩
             go_simp
             with_reducible rfl
            rotate_left
            ·simp only [Act.put, List.setIfInBounds_toArray, List.set_cons_zero, List.set_cons_succ, i64_w, i32_w]
             rfl
            refine take_ (i := 11) (N := some 53) (v := ?_) (a' := ?_) (cellarerref07_All.bs 19 8191) rfl rfl (take_ofW HT_.out HW_.out (by kernel_rfl)) (fun _ _ _ h => h) (Or.inl ⟨by rfl, ?_⟩) hHeld ?_ ?_
            rotate_left
            ·rintro w' ⟨s0, s1, s2, s3, s4, s5⟩
             go_simp
             with_reducible rfl
            rotate_left
            ·simp only [Act.put, List.setIfInBounds_toArray, List.set_cons_zero, List.set_cons_succ, i64_w, i32_w]
             rfl
            refine take_ (i := 13) (N := some 55) (v := ?_) (a' := ?_) (cellarerref07_All.bs 19 16383) rfl rfl (take_ofW HT_.out HW_.out (by kernel_rfl)) (fun _ _ _ h => h) (Or.inl ⟨by rfl, ?_⟩) hHeld ?_ ?_
            rotate_left
            ·rintro w' ⟨s0, s1, s2, s3, s4, s5⟩
             go_simp
             with_reducible rfl
            rotate_left
            ·simp only [Act.put, List.setIfInBounds_toArray, List.set_cons_zero, List.set_cons_succ, i64_w, i32_w]
             rfl
            refine pure_ (i := 14) (N := some 56) (v := ?_) (a' := ?_) (cellarerref07_All.bs 19 32767) rfl rfl (any_of HT_.out (by kernel_rfl)) (fun _ _ _ h => h) (Or.inl ⟨by rfl, ?_⟩) ?_ ?_
            rotate_left
            ·intro w'
             go_simp
             with_reducible rfl
            rotate_left
            ·simp only [Act.put, List.setIfInBounds_toArray, List.set_cons_zero, List.set_cons_succ, i64_w, i32_w]
             rfl
            refine pure_ (i := 15) (N := some 57) (v := ?_) (a' := ?_) (cellarerref07_All.bs 19 65535) rfl rfl (any_of HT_.out (by kernel_rfl)) (fun _ _ _ h => h) (Or.inl ⟨by rfl, ?_⟩) ?_ ?_
            rotate_left
            ·intro w'
             go_simp
             with_reducible rfl
            rotate_left
            ·simp only [Act.put, List.setIfInBounds_toArray, List.set_cons_zero, List.set_cons_succ, i64_w, i32_w]
             rfl
            refine one_ (i := 16) (N := some 58) (cellarerref07_All.bs 19 131071) rfl rfl (one_of HT_.out (by kernel_rfl)) (by decide) (fun K hK => ?_)
            refine value_ (w1 := ?_) (v := ?_) (by rfl) rfl ?_ ?_
            rotate_left 2
            ·go_simp
             constructor
             ·rfl
             ·rfl
            refine hK.out _ _ ⟨(blk_cell (blk_alloc BK419.out _) 0).trans rfl, (blk_cell (blk_alloc BK419.out _) 1).trans rfl, (blk_cell (blk_alloc BK419.out _) 2).trans rfl, (blk_cell (blk_alloc BK419.out _) 3).trans rfl, (World.cell?_alloc_lt _ _ _ (World.block_lt_of_cell? _ _ (((HB.out.cell (World.block_lt_of_cell? w _ hw420_0)).trans hw420_0)))).trans (((HB.out.cell (World.block_lt_of_cell? w _ hw420_0)).trans hw420_0)), (World.cell?_alloc_lt _ _ _ (World.block_lt_of_cell? _ _ (((HB.out.cell (World.block_lt_of_cell? w _ hw420_1)).trans hw420_1)))).trans (((HB.out.cell (World.block_lt_of_cell? w _ hw420_1)).trans hw420_1))⟩ (fun hHeld => ?_)
            clear hK K
            refine norm_ (a' := ?_) ?_ ?_
            rotate_left
            ·show Act.put _ (some 58) _ = _
             simp only [Act.put, List.setIfInBounds_toArray, List.set_cons_zero, List.set_cons_succ, i64_w, i32_w]
             rfl
            refine one_ (i := 17) (N := some 59) (cellarerref07_All.bs 19 262143) rfl rfl (one_of HT_.out (by kernel_rfl)) (by decide) (fun K hK => ?_)
            refine Kd.R_append_step k65 (w0 := w) w.heap.size (by rfl) (.tmp 42) (.tmp 58) 56 65 (.agg #[(.string ⟨#[]⟩), (.int .u64 0), (.bool false), (.bool false), (.int .i64 0)]) 40 rfl Try.underlying56 info65 rfl (by decide) (by omega) u5 x5_2 (⟨(rd_T50 l0 x6_1).f0, (rd_T52 ((rd_T50 l0 x6_1).f1) x7_2).f0, (x7_2 == 0), (rd_T52 ((rd_T50 l0 x6_1).f1) x7_2).f2, (((rd_T52 ((rd_T50 l0 x6_1).f1) x7_2).f1).size : Int)⟩ : S65) [.string ((rd_T50 l0 x6_1).f0), .int .u64 ((rd_T52 ((rd_T50 l0 x6_1).f1) x7_2).f0), .bool (x7_2 == 0), .bool ((rd_T52 ((rd_T50 l0 x6_1).f1) x7_2).f2), .int .i64 (((rd_T52 ((rd_T50 l0 x6_1).f1) x7_2).f1).size : Int)] (fun _ => True) (fun _ => False) rfl rfl ?aP (fun _ hk => hk.elim) ?aF ?aO ?aB ?aS ?aL ?_
            (case aP => exact k65_mkM _ _ _ (⟨(rd_T50 l0 x6_1).f0, (rd_T52 ((rd_T50 l0 x6_1).f1) x7_2).f0, (x7_2 == 0), (rd_T52 ((rd_T50 l0 x6_1).f1) x7_2).f2, (((rd_T52 ((rd_T50 l0 x6_1).f1) x7_2).f1).size : Int)⟩ : S65))
            (case aB => exact (by repeat (first | (with_reducible first | exact HB.out | apply below_alloc | apply pw_below_drewN | apply below_drew1 | refine below_set ?_ GE419.out) | exact HB.out)))
            (case aF => exact (fun _ _ => trivial))
            (case aO => exact (by (with_reducible repeat (first | apply Kd.R_alloc | apply Kd.R_drewN | apply Kd.R_drew)); exact HO_5.out))
            (case aS => exact (below_size (by repeat (first | (with_reducible first | exact HB.out | apply below_alloc | apply pw_below_drewN | apply below_drew1 | refine below_set ?_ GE419.out) | exact HB.out))))
            (case aL => have := LMc10.out; omega)
            intro v422 w15 ho hb hg hat
            rw [← Ny421.out] at ho
            have n0_ := Aside0.mk (blk_grown (g := gb419) (o := .cells #[.int .u64 ((rd_T52 ((rd_T50 l0 x6_1).f1) x7_2).f0), .string ((rd_T52 ((rd_T50 l0 x6_1).f1) x7_2).f1), .bool ((rd_T52 ((rd_T50 l0 x6_1).f1) x7_2).f2), .int .i64 ((rd_T52 ((rd_T50 l0 x6_1).f1) x7_2).f3)] 52 (0, 0)) (by (with_reducible repeat (first | refine blk_drewN ?_ _ | refine blk_drew ?_ | refine blk_alloc ?_ _)); exact BK419.out) hg (Kd.R_ne HO_5.out BK419.out (by decide)))
            have n1_ := Aside0.mk (hb)
            have n2_ := Aside0.mk (ho)
            clear BK419
            clear HB
            clear HO_5
            have BK419 := n0_
            have HB := n1_
            have HO423 := n2_
            clear n0_ n1_ n2_
            clear ho hb hg hat
            refine hK.out _ _ ⟨(blk_cell BK419.out 0).trans rfl, (blk_cell BK419.out 1).trans rfl, (blk_cell BK419.out 2).trans rfl, (blk_cell BK419.out 3).trans rfl, ((HB.out.cell (World.block_lt_of_cell? w _ hw420_0)).trans hw420_0), ((HB.out.cell (World.block_lt_of_cell? w _ hw420_1)).trans hw420_1)⟩ (fun hHeld => ?_)
            clear hK K
            refine norm_ (a' := ?_) ?_ ?_
            rotate_left
            ·show Act.put _ (some 59) _ = _
             simp only [Act.put, List.setIfInBounds_toArray, List.set_cons_zero, List.set_cons_succ, i64_w, i32_w]
             rfl
            refine pure_ (i := 18) (N := some 5) (v := ?_) (a' := ?_) (cellarerref07_All.bs 19 524287) rfl rfl (any_of HT_.out (by kernel_rfl)) (fun _ _ _ h => h) (Or.inl ⟨by rfl, ?_⟩) ?_ ?_
            rotate_left
            ·intro w'
             go_simp
             with_reducible rfl
            rotate_left
            ·simp only [Act.put, List.setIfInBounds_toArray, List.set_cons_zero, List.set_cons_succ, i64_w, i32_w]
             rfl
            refine done_ (done_of HT_.out (by kernel_rfl)) ?_
            try go_wp2
            go_roundg k2
            case measure => have := HK1.out; have := HK2.out; omega
            case rel => exact ⟨(y421), (wrap64 (x7_2 + 1)), (by first | rfl | (simp; done) | (simp [*]; done)), H', ⟨by have := HK1.out; have := HK2.out; omega⟩, ⟨by (with_reducible repeat (first | apply Kd.R_alloc | apply Kd.R_drewN | apply Kd.R_drew)); exact HO423.out⟩, ⟨by repeat (first | (with_reducible first | exact HB.out | apply below_alloc | apply pw_below_drewN | apply below_drew1 | refine below_set ?_ GE419.out) | exact HB.out)⟩⟩
           ·rw [if_neg c10] at H
            exact absurd H (by simp)
          ·rw [if_neg c9] at H
           exact absurd H (by simp)
         ·replace c8 := Bool.eq_false_iff.mpr c8
          subst c8
          have H1 : (cellarerref07_All.l0 k2 l0 a1 x5_2 (wrap64 (x6_1 + 1))) = some r := by rw [if_neg (show ¬ (false = true) by decide)] at H; exact H
          clear H
          have H := H1
          clear H1
          have H' := Aside0.mk H
          clear H
          have p414 : 0 ≤ (x6_1 : Int) := of_decide_eq_true (by first | (with_reducible assumption) | assumption)
          have q414 : x6_1 < (l0.length : Int) := of_decide_eq_true (by first | (with_reducible assumption) | assumption)
          obtain ⟨ad414, A414_1, c414_1, e414, hx414_0, hx414_1, hl414_1, hi414_1⟩ := at_T50 HR0.out x6_1 p414 q414
          cases e414
          have hx414_0w_ := hx414_0; replace hx414_0 := (HB.out.cell (World.block_lt_of_cell? w _ hx414_0)).trans hx414_0
          have hx414_1w_ := hx414_1; replace hx414_1 := (HB.out.cell (World.block_lt_of_cell? w _ hx414_1)).trans hx414_1
          have HR414_1 := Aside0.mk hi414_1
          have HC414_1 := Aside0.mk hl414_1
          clear hi414_1 hl414_1
          replace p414 := eq_true p414
          replace q414 := eq_true q414
          have p415 : 0 ≤ (x6_1 : Int) := of_decide_eq_true (by first | (with_reducible assumption) | assumption)
          have q415 : x6_1 < (l0.length : Int) := of_decide_eq_true (by first | (with_reducible assumption) | assumption)
          obtain ⟨ad415, A415_1, c415_1, e415, hx415_0, hx415_1, hl415_1, hi415_1⟩ := at_T50 HR0.out x6_1 p415 q415
          obtain rfl : ad414 = ad415 := (by injection e415)
          have hx415_0w_ := hx415_0; replace hx415_0 := (HB.out.cell (World.block_lt_of_cell? w _ hx415_0)).trans hx415_0
          have hx415_1w_ := hx415_1; replace hx415_1 := (HB.out.cell (World.block_lt_of_cell? w _ hx415_1)).trans hx415_1
          have HR415_1 := Aside0.mk hi415_1
          have HC415_1 := Aside0.mk hl415_1
          clear hi415_1 hl415_1
          replace p415 := eq_true p415
          replace q415 := eq_true q415
          have ea_ := Option.some.inj (hx414_1w_.symm.trans hx415_1w_)
          injection ea_ with ea_ en_ ec_
          subst ea_
          subst ec_
          clear en_
          go_wp2_with (first | (go_at_call 21; (with_reducible refine (cellarerref01_Under.calls ((rd_T50 l0 x6_1).f0) a1 false _ A7.out).mono ?_); rintro e w' ⟨rfl, ⟨nd, rfl⟩⟩))
          go_roundg k2
          case measure => have := HK1.out; have := HK2.out; omega
          case rel => exact ⟨(x5_2), (wrap64 (x6_1 + 1)), (by first | rfl | (simp; done) | (simp [*]; done)), H', ⟨by have := HK1.out; have := HK2.out; omega⟩, ⟨by (with_reducible repeat (first | apply Kd.R_alloc | apply Kd.R_drewN | apply Kd.R_drew)); exact HO_5.out⟩, ⟨by repeat (first | (with_reducible first | exact HB.out | apply below_alloc | apply pw_below_drewN | apply below_drew1) | exact HB.out)⟩⟩
        ·rw [if_neg c6] at H
         have c6b0 : decide (x7_2 < (((rd_T50 l0 x6_1).f1).length : Int)) = false := decide_eq_false c6
         clear c6
         have H' := Aside0.mk H
         clear H
         have p414 : 0 ≤ (x6_1 : Int) := of_decide_eq_true (by first | (with_reducible assumption) | assumption)
         have q414 : x6_1 < (l0.length : Int) := of_decide_eq_true (by first | (with_reducible assumption) | assumption)
         obtain ⟨ad414, A414_1, c414_1, e414, hx414_0, hx414_1, hl414_1, hi414_1⟩ := at_T50 HR0.out x6_1 p414 q414
         cases e414
         have hx414_0w_ := hx414_0; replace hx414_0 := (HB.out.cell (World.block_lt_of_cell? w _ hx414_0)).trans hx414_0
         have hx414_1w_ := hx414_1; replace hx414_1 := (HB.out.cell (World.block_lt_of_cell? w _ hx414_1)).trans hx414_1
         have HR414_1 := Aside0.mk hi414_1
         have HC414_1 := Aside0.mk hl414_1
         clear hi414_1 hl414_1
         replace p414 := eq_true p414
         replace q414 := eq_true q414
         go_wp2
         go_roundg k2
         case measure => have := HK1.out; have := HK2.out; omega
         case rel => exact ⟨(x5_2), (wrap64 (x6_1 + 1)), (by first | rfl | (simp; done) | (simp [*]; done)), H', ⟨by have := HK1.out; have := HK2.out; omega⟩, ⟨by (with_reducible repeat (first | apply Kd.R_alloc | apply Kd.R_drewN | apply Kd.R_drew)); exact HO_5.out⟩, ⟨by repeat (first | (with_reducible first | exact HB.out | apply below_alloc | apply pw_below_drewN | apply below_drew1) | exact HB.out)⟩⟩
       ·rw [if_neg c5] at H
        exact absurd H (by simp)
      ·rw [if_neg c4] at H
       exact absurd H (by simp)
   ·rw [if_neg c3] at H
    have c3b0 : decide (x6_1 < (l0.length : Int)) = false := decide_eq_false c3
    clear c3
    obtain rfl := Option.some.inj H
    go_wp2
    go_ret
    exact ⟨_, by first | rfl | (simp [errW_none, errW_some] <;> rfl) | (simp [*, errW_none, errW_some] <;> rfl), by (with_reducible repeat (first | apply Kd.R_alloc | apply Kd.R_drewN | apply Kd.R_drew)); exact HO_5.out, by repeat (first | (with_reducible first | exact HB.out | apply below_alloc | apply pw_below_drewN | apply below_drew1) | exact HB.out)⟩

/-! ### cellarerref07_Rows: function 23 -/
mutual
def cellarerref07_Rows.l0 : Nat → ByteArray → Int → Int → List (S65) → Int → Int → Option ((List (S65)) × Bool × Int)
  | 0, _, _, _, _, _, _ => none
  | k + 1, x2, x3, x4, x13, x14, x15 => if x15 < (x13.length : Int) then (cellarerref07_Rows.j1 k x2 x3 x4 x13 x14 x15 (x2.toList != ([] : List UInt8))) else (cellarerref07_Rows.j1 k x2 x3 x4 x13 x14 x15 false)
def cellarerref07_Rows.j1 : Nat → ByteArray → Int → Int → List (S65) → Int → Int → Bool → Option ((List (S65)) × Bool × Int)
  | 0, _, _, _, _, _, _, _ => none
  | k + 1, x2, x3, x4, x13, x14, x15, x28 => if x28 = true then (if 0 ≤ x15 then (if x15 < (x13.length : Int) then (if ((rd_T65 x13 x15).f0).toList = x2.toList then (if ((rd_T65 x13 x15).f1) = x3 then (cellarerref07_Rows.l0 k x2 x3 x4 x13 (wrap64 (x15 + 1)) (wrap64 (x15 + 1))) else (cellarerref07_Rows.l0 k x2 x3 x4 x13 x14 (wrap64 (x15 + 1)))) else (cellarerref07_Rows.l0 k x2 x3 x4 x13 x14 (wrap64 (x15 + 1)))) else (none)) else (none)) else (if x2.toList = ([] : List UInt8) then (cellarerref07_Rows.j2 k x4 x13 x14 false) else (cellarerref07_Rows.j2 k x4 x13 x14 (x14 == 0)))
def cellarerref07_Rows.j2 : Nat → Int → List (S65) → Int → Bool → Option ((List (S65)) × Bool × Int)
  | 0, _, _, _, _ => none
  | k + 1, x4, x13, x14, x54 => if x54 = true then (some (([] : List (S65)), false, 4)) else (cellarerref07_Rows.l1 k x4 x13 x14 ([] : List (S65)) x14)
def cellarerref07_Rows.l1 : Nat → Int → List (S65) → Int → List (S65) → Int → Option ((List (S65)) × Bool × Int)
  | 0, _, _, _, _, _ => none
  | k + 1, x4, x13, x14, x16, x17 => if x17 < (x13.length : Int) then (if x17 < (wrap64 (x14 + x4)) then (if 0 ≤ x17 then (if x16.length < 3518437208883 then (cellarerref07_Rows.l1 k x4 x13 x14 (x16 ++ [(⟨(rd_T65 x13 x17).f0, (rd_T65 x13 x17).f1, (rd_T65 x13 x17).f2, (rd_T65 x13 x17).f3, (rd_T65 x13 x17).f4⟩ : S65)]) (wrap64 (x17 + 1))) else (none)) else (none)) else (some (x16, decide ((wrap64 (x14 + x4)) < (x13.length : Int)), 0))) else (some (x16, decide ((wrap64 (x14 + x4)) < (x13.length : Int)), 0))
end
def cellarerref07_Rows.f (k : Nat) (l0 : List (S50)) (a1 : ByteArray) (a2 : ByteArray) (a3 : Int) (a4 : Int) : Option ((List (S65)) × Bool × Int) := (cellarerref07_All.f k l0 a1).bind fun t424 => (cellarerref07_Rows.l0 k a2 a3 a4 t424 0 0)
theorem cellarerref07_Rows.mono_l : ∀ k, (∀ y0 y1 y2 y3 y4 y5, LeO (cellarerref07_Rows.l0 k y0 y1 y2 y3 y4 y5) (cellarerref07_Rows.l0 (k + 1) y0 y1 y2 y3 y4 y5)) ∧ (∀ y0 y1 y2 y3 y4 y5 y6, LeO (cellarerref07_Rows.j1 k y0 y1 y2 y3 y4 y5 y6) (cellarerref07_Rows.j1 (k + 1) y0 y1 y2 y3 y4 y5 y6)) ∧ (∀ y0 y1 y2 y3, LeO (cellarerref07_Rows.j2 k y0 y1 y2 y3) (cellarerref07_Rows.j2 (k + 1) y0 y1 y2 y3)) ∧ (∀ y0 y1 y2 y3 y4, LeO (cellarerref07_Rows.l1 k y0 y1 y2 y3 y4) (cellarerref07_Rows.l1 (k + 1) y0 y1 y2 y3 y4))
  | 0 => ⟨fun _ _ _ _ _ _ r h => by simp [cellarerref07_Rows.l0] at h, fun _ _ _ _ _ _ _ r h => by simp [cellarerref07_Rows.j1] at h, fun _ _ _ _ r h => by simp [cellarerref07_Rows.j2] at h, fun _ _ _ _ _ r h => by simp [cellarerref07_Rows.l1] at h⟩
  | k + 1 => by
    obtain ⟨ih0, ih1, ih2, ih3⟩ := cellarerref07_Rows.mono_l k
    refine ⟨?_, ?_, ?_, ?_⟩
    · intro y0 y1 y2 y3 y4 y5
      unfold cellarerref07_Rows.l0
      repeat' first
      | (with_reducible exact ih0 _ _ _ _ _ _)
      | (with_reducible exact ih1 _ _ _ _ _ _ _)
      | (with_reducible exact ih2 _ _ _ _)
      | (with_reducible exact ih3 _ _ _ _ _)
      | (with_reducible exact cellarerref07_All.mono _ _ _)
      | (with_reducible exact LeO.refl _)
      | (with_reducible exact LeO.none _)
      | (with_reducible refine LeO.ite ?_ ?_)
      | (with_reducible refine LeO.bind ?_ (fun _ => ?_))
      | exact ih0 _ _ _ _ _ _
      | exact ih1 _ _ _ _ _ _ _
      | exact ih2 _ _ _ _
      | exact ih3 _ _ _ _ _
      | exact cellarerref07_All.mono _ _ _
      | exact LeO.none _
      | refine LeO.ite ?_ ?_
      | refine LeO.bind ?_ (fun _ => ?_)
    · intro y0 y1 y2 y3 y4 y5 y6
      unfold cellarerref07_Rows.j1
      repeat' first
      | (with_reducible exact ih0 _ _ _ _ _ _)
      | (with_reducible exact ih1 _ _ _ _ _ _ _)
      | (with_reducible exact ih2 _ _ _ _)
      | (with_reducible exact ih3 _ _ _ _ _)
      | (with_reducible exact cellarerref07_All.mono _ _ _)
      | (with_reducible exact LeO.refl _)
      | (with_reducible exact LeO.none _)
      | (with_reducible refine LeO.ite ?_ ?_)
      | (with_reducible refine LeO.bind ?_ (fun _ => ?_))
      | exact ih0 _ _ _ _ _ _
      | exact ih1 _ _ _ _ _ _ _
      | exact ih2 _ _ _ _
      | exact ih3 _ _ _ _ _
      | exact cellarerref07_All.mono _ _ _
      | exact LeO.none _
      | refine LeO.ite ?_ ?_
      | refine LeO.bind ?_ (fun _ => ?_)
    · intro y0 y1 y2 y3
      unfold cellarerref07_Rows.j2
      repeat' first
      | (with_reducible exact ih0 _ _ _ _ _ _)
      | (with_reducible exact ih1 _ _ _ _ _ _ _)
      | (with_reducible exact ih2 _ _ _ _)
      | (with_reducible exact ih3 _ _ _ _ _)
      | (with_reducible exact cellarerref07_All.mono _ _ _)
      | (with_reducible exact LeO.refl _)
      | (with_reducible exact LeO.none _)
      | (with_reducible refine LeO.ite ?_ ?_)
      | (with_reducible refine LeO.bind ?_ (fun _ => ?_))
      | exact ih0 _ _ _ _ _ _
      | exact ih1 _ _ _ _ _ _ _
      | exact ih2 _ _ _ _
      | exact ih3 _ _ _ _ _
      | exact cellarerref07_All.mono _ _ _
      | exact LeO.none _
      | refine LeO.ite ?_ ?_
      | refine LeO.bind ?_ (fun _ => ?_)
    · intro y0 y1 y2 y3 y4
      unfold cellarerref07_Rows.l1
      repeat' first
      | (with_reducible exact ih0 _ _ _ _ _ _)
      | (with_reducible exact ih1 _ _ _ _ _ _ _)
      | (with_reducible exact ih2 _ _ _ _)
      | (with_reducible exact ih3 _ _ _ _ _)
      | (with_reducible exact cellarerref07_All.mono _ _ _)
      | (with_reducible exact LeO.refl _)
      | (with_reducible exact LeO.none _)
      | (with_reducible refine LeO.ite ?_ ?_)
      | (with_reducible refine LeO.bind ?_ (fun _ => ?_))
      | exact ih0 _ _ _ _ _ _
      | exact ih1 _ _ _ _ _ _ _
      | exact ih2 _ _ _ _
      | exact ih3 _ _ _ _ _
      | exact cellarerref07_All.mono _ _ _
      | exact LeO.none _
      | refine LeO.ite ?_ ?_
      | refine LeO.bind ?_ (fun _ => ?_)
theorem cellarerref07_Rows.mono : ∀ a0 a1 a2 a3 a4 k, LeO (cellarerref07_Rows.f k a0 a1 a2 a3 a4) (cellarerref07_Rows.f (k + 1) a0 a1 a2 a3 a4) := by
  intro a0 a1 a2 a3 a4 k
  obtain ⟨ih0, ih1, ih2, ih3⟩ := cellarerref07_Rows.mono_l k
  unfold cellarerref07_Rows.f
  repeat' first
      | (with_reducible exact ih0 _ _ _ _ _ _)
      | (with_reducible exact ih1 _ _ _ _ _ _ _)
      | (with_reducible exact ih2 _ _ _ _)
      | (with_reducible exact ih3 _ _ _ _ _)
      | (with_reducible exact cellarerref07_All.mono _ _ _)
      | (with_reducible exact LeO.refl _)
      | (with_reducible exact LeO.none _)
      | (with_reducible refine LeO.ite ?_ ?_)
      | (with_reducible refine LeO.bind ?_ (fun _ => ?_))
      | exact ih0 _ _ _ _ _ _
      | exact ih1 _ _ _ _ _ _ _
      | exact ih2 _ _ _ _
      | exact ih3 _ _ _ _ _
      | exact cellarerref07_All.mono _ _ _
      | exact LeO.none _
      | refine LeO.ite ?_ ?_
      | refine LeO.bind ?_ (fun _ => ?_)
set_option maxHeartbeats 8000000 in
set_option maxRecDepth 100000 in
theorem cellarerref07_Rows.calls (k : Nat) (A0 : Option Addr) (c0 : Nat) (l0 : List (S50)) (a1 : ByteArray) (a2 : ByteArray) (a3 : Int) (a4 : Int) (r1 : List (S65)) (r2 : Bool) (r3 : Int) (w : World) (hr0 : Kd.C k50 w A0 l0.length l0) (hc0 : l0.length ≤ c0) (h : cellarerref07_Rows.f k l0 a1 a2 a3 a4 = some (r1, r2, r3)) :
  Calls Try.prog 23 #[.slice A0 l0.length c0, .string a1, .string a2, .int .u64 a3, .int .i64 a4] w fun e w' => ∃ v0_ : Value, e = .returned (.tuple #[v0_, .bool r2, .int .i64 r3]) ∧ Kd.R k65 65 w' w.heap.size (fun _ => True) v0_ r1 ∧ Below w.heap.size w w' := by
 have hu65 := Try.underlying65
 have HR0 := Aside0.mk hr0
 have HC0 := Aside0.mk hc0
 clear hr0 hc0
 have HB := Aside0.mk (Below.refl w.heap.size w)
 have H : ((cellarerref07_All.f k l0 a1).bind fun t424 => (cellarerref07_Rows.l0 k a2 a3 a4 t424 0 0)) = some (r1, r2, r3) := h
 clear h
 replace H := Option.bind_eq_some_iff.mp H
 obtain ⟨t424, A60, H⟩ := H
 replace H : (cellarerref07_Rows.l0 k a2 a3 a4 t424 0 0) = some (r1, r2, r3) := H
 have A6 := Aside0.mk A60
 clear A60
 have H' := Aside0.mk H
 clear H
 go_enter Try.func23, Try.ntmps23
 go_wp2_with (first | ((with_reducible refine gate_callee (f := 40) rfl ?_); refine goesL_ (some 20) rfl rfl Try.func40 (by kernel_rfl) rfl #[.slice A0 l0.length c0, .string a1] rfl (by (try simp only [List.map_toArray, List.map_cons, List.map_nil]); first | done | rfl | (simp only [List.length_drop, List.length_take]; rfl)) ?_; (with_reducible refine (cellarerref07_All.calls k _ _ l0 a1 t424 _ ?side1 ?side2 A6.out).mono ?_); (case side1 => repeat (first | exact HR0.out | (with_reducible refine Kd.C_alloc ?_ _) | (with_reducible refine Kd.C_drewN ?_ _) | (with_reducible refine Kd.C_drew ?_))); (case side2 => exact HC0.out); rintro e w7 ⟨v425, rfl, ho0, hb⟩; refine ⟨_, rfl, ?_⟩; have n0_ := Aside0.mk (Kd.R_lower ho0 (below_size (by repeat (first | (with_reducible first | exact HB.out | apply below_alloc | apply pw_below_drewN | apply below_drew1) | exact HB.out)))); have n1_ := Aside0.mk (below_step (by repeat (first | (with_reducible first | exact HB.out | apply below_alloc | apply pw_below_drewN | apply below_drew1) | exact HB.out)) hb); clear HB; have HO426 := n0_; have HB := n1_; clear n0_ n1_; (try clear hb); (try clear hb2); (try clear hk); (try clear hi); (try clear ho0)))
 go_loopg [14, 15] k (fun kq v14 v15 w' => ∃ (x14_1 : Int) (x15_1 : Int), v14 = .int .i64 x14_1 ∧ v15 = .int .i64 x15_1 ∧ Aside0 (cellarerref07_Rows.l0 kq a2 a3 a4 t424 x14_1 x15_1 = some (r1, r2, r3)) ∧ Aside0 (kq ≤ k) ∧ Aside0 (Kd.R k65 65 w' w.heap.size (fun _ => True) v425 t424) ∧ Aside0 (Below w.heap.size w w'))
 case atStart => exact ⟨(0), (0), (by first | rfl | (simp; done) | (simp [*]; done)), (by first | rfl | (simp; done) | (simp [*]; done)), H', ⟨Nat.le_refl _⟩, ⟨by (with_reducible repeat (first | apply Kd.R_alloc | apply Kd.R_drewN | apply Kd.R_drew)); exact HO426.out⟩, ⟨by repeat (first | (with_reducible first | exact HB.out | apply below_alloc | apply pw_below_drewN | apply below_drew1) | exact HB.out)⟩⟩
 case round =>
  clear H'
  try clear c2
  try clear p2
  try clear c4
  obtain ⟨x14_1, x15_1, rfl, rfl, HA, HK1, HO_13, HB⟩ := hrel
  cases gk with
  | zero => exact absurd HA.out (by simp [cellarerref07_Rows.l0])
  | succ k1 =>
   have H := HA.out
   clear HA
   simp only [cellarerref07_Rows.l0] at H
   have HC8 := Aside0.mk H
   clear H
   go_upto_region 4 with (fail)
   go_cut [28] (fun v28 wc => ∃ (kq : Nat) (x28_7 : Bool), v28 = .bool x28_7 ∧ Aside0 (cellarerref07_Rows.j1 kq a2 a3 a4 t424 x14_1 x15_1 x28_7 = some (r1, r2, r3)) ∧ Aside0 (kq ≤ k1) ∧ Aside0 (Kd.R k65 65 wc w.heap.size (fun _ => True) v425 t424) ∧ Aside0 (Below w.heap.size w wc))
   case first =>
    have H := HC8.out
    clear HC8
    by_cases c9 : x15_1 < (t424.length : Int)
    ·rw [if_pos c9] at H
     have c9b0 : decide (x15_1 < (t424.length : Int)) = true := decide_eq_true c9
     clear c9
     (first | rw [c9b0] | (simp only [i64_w, i32_w]; rw [c9b0]) | skip)
     have H' := Aside0.mk H
     clear H
     obtain ⟨Ao10, co10, eo10⟩ := Kd.R_slice HO_13.out
     subst eo10
     go_wp2
     go_meet
     case rel => exact ⟨_, ((a2.toList != ([] : List UInt8))), (by first | rfl | (cases hz_ : a2.toList <;> rfl) | (simp; done) | (simp [*]; done)), H', ⟨by have := HK1.out; first | omega | exact Nat.le_refl _⟩, ⟨by (with_reducible repeat (first | apply Kd.R_alloc | apply Kd.R_drewN | apply Kd.R_drew)); exact HO_13.out⟩, ⟨by repeat (first | (with_reducible first | exact HB.out | apply below_alloc | apply pw_below_drewN | apply below_drew1) | exact HB.out)⟩⟩
    ·rw [if_neg c9] at H
     have c9b0 : decide (x15_1 < (t424.length : Int)) = false := decide_eq_false c9
     clear c9
     (first | rw [c9b0] | (simp only [i64_w, i32_w]; rw [c9b0]) | skip)
     have H' := Aside0.mk H
     clear H
     obtain ⟨Ao11, co11, eo11⟩ := Kd.R_slice HO_13.out
     subst eo11
     go_wp2
     go_meet
     case rel => exact ⟨_, (false), (by first | rfl | (simp; done) | (simp [*]; done)), H', ⟨by have := HK1.out; first | omega | exact Nat.le_refl _⟩, ⟨by (with_reducible repeat (first | apply Kd.R_alloc | apply Kd.R_drewN | apply Kd.R_drew)); exact HO_13.out⟩, ⟨by repeat (first | (with_reducible first | exact HB.out | apply below_alloc | apply pw_below_drewN | apply below_drew1) | exact HB.out)⟩⟩
   case rest =>
    clear HC8
    try clear c2
    try clear p2
    try clear c4
    try clear c9
    try clear c9b0
    try clear p2
    obtain ⟨kq, x28_7, rfl, HA, HJ7, HO_13, HB⟩ := hcut
    cases kq with
    | zero => exact absurd HA.out (by simp [cellarerref07_Rows.j1])
    | succ kj7 =>
     have H := HA.out
     clear HA
     simp only [cellarerref07_Rows.j1] at H
     by_cases c12 : x28_7 = true
     ·subst c12
      have H1 : (if 0 ≤ x15_1 then (if x15_1 < (t424.length : Int) then (if ((rd_T65 t424 x15_1).f0).toList = a2.toList then (if ((rd_T65 t424 x15_1).f1) = a3 then (cellarerref07_Rows.l0 kj7 a2 a3 a4 t424 (wrap64 (x15_1 + 1)) (wrap64 (x15_1 + 1))) else (cellarerref07_Rows.l0 kj7 a2 a3 a4 t424 x14_1 (wrap64 (x15_1 + 1)))) else (cellarerref07_Rows.l0 kj7 a2 a3 a4 t424 x14_1 (wrap64 (x15_1 + 1)))) else (none)) else (none)) = some (r1, r2, r3) := by rw [if_pos rfl] at H; exact H
      clear H
      have H := H1
      clear H1
      by_cases c13 : 0 ≤ x15_1
      ·rw [if_pos c13] at H
       have c13b0 : decide (0 ≤ x15_1) = true := decide_eq_true c13
       clear c13
       by_cases c14 : x15_1 < (t424.length : Int)
       ·rw [if_pos c14] at H
        have c14b0 : decide (x15_1 < (t424.length : Int)) = true := decide_eq_true c14
        clear c14
        by_cases c15 : ((rd_T65 t424 x15_1).f0).toList = a2.toList
        ·rw [if_pos c15] at H
         have c15b0 : (((rd_T65 t424 x15_1).f0).toList == a2.toList) = true := beq_iff_eq.mpr c15
         have c15b1 : (((rd_T65 t424 x15_1).f0).toList != a2.toList) = false := bne_eq_false_iff_eq.mpr c15
         clear c15
         by_cases c16 : ((rd_T65 t424 x15_1).f1) = a3
         ·rw [if_pos c16] at H
          have c16b0 : (((rd_T65 t424 x15_1).f1) == a3) = true := beq_iff_eq.mpr c16
          have c16b1 : (((rd_T65 t424 x15_1).f1) != a3) = false := bne_eq_false_iff_eq.mpr c16
          clear c16
          have H' := Aside0.mk H
          clear H
          obtain ⟨Ao17, co17, eo17⟩ := Kd.R_slice HO_13.out
          subst eo17
          have p427 : 0 ≤ (x15_1 : Int) := of_decide_eq_true (by first | (with_reducible assumption) | assumption)
          have q427 : x15_1 < (t424.length : Int) := of_decide_eq_true (by first | (with_reducible assumption) | assumption)
          obtain ⟨ad427, e427, hx427_0, hx427_1, hx427_2, hx427_3, hx427_4⟩ := at_T65 (Kd.R_reads' HO_13.out).2.2 x15_1 p427 q427
          cases e427
          replace p427 := eq_true p427
          replace q427 := eq_true q427
          have p428 : 0 ≤ (x15_1 : Int) := of_decide_eq_true (by first | (with_reducible assumption) | assumption)
          have q428 : x15_1 < (t424.length : Int) := of_decide_eq_true (by first | (with_reducible assumption) | assumption)
          obtain ⟨ad428, e428, hx428_0, hx428_1, hx428_2, hx428_3, hx428_4⟩ := at_T65 (Kd.R_reads' HO_13.out).2.2 x15_1 p428 q428
          obtain rfl : ad427 = ad428 := (by injection e428)
          replace p428 := eq_true p428
          replace q428 := eq_true q428
          go_wp2
          go_roundg kj7
          case measure => have := HK1.out; have := HJ7.out; omega
          case rel => exact ⟨(wrap64 (x15_1 + 1)), (wrap64 (x15_1 + 1)), (by first | rfl | (simp; done) | (simp [*]; done)), (by first | rfl | (simp; done) | (simp [*]; done)), H', ⟨by have := HK1.out; have := HJ7.out; omega⟩, ⟨by (with_reducible repeat (first | apply Kd.R_alloc | apply Kd.R_drewN | apply Kd.R_drew)); exact HO_13.out⟩, ⟨by repeat (first | (with_reducible first | exact HB.out | apply below_alloc | apply pw_below_drewN | apply below_drew1) | exact HB.out)⟩⟩
         ·rw [if_neg c16] at H
          have c16b0 : (((rd_T65 t424 x15_1).f1) == a3) = false := beq_eq_false_iff_ne.mpr c16
          have c16b1 : (((rd_T65 t424 x15_1).f1) != a3) = true := bne_iff_ne.mpr c16
          have H' := Aside0.mk H
          clear H
          obtain ⟨Ao18, co18, eo18⟩ := Kd.R_slice HO_13.out
          subst eo18
          have p427 : 0 ≤ (x15_1 : Int) := of_decide_eq_true (by first | (with_reducible assumption) | assumption)
          have q427 : x15_1 < (t424.length : Int) := of_decide_eq_true (by first | (with_reducible assumption) | assumption)
          obtain ⟨ad427, e427, hx427_0, hx427_1, hx427_2, hx427_3, hx427_4⟩ := at_T65 (Kd.R_reads' HO_13.out).2.2 x15_1 p427 q427
          cases e427
          replace p427 := eq_true p427
          replace q427 := eq_true q427
          have p428 : 0 ≤ (x15_1 : Int) := of_decide_eq_true (by first | (with_reducible assumption) | assumption)
          have q428 : x15_1 < (t424.length : Int) := of_decide_eq_true (by first | (with_reducible assumption) | assumption)
          obtain ⟨ad428, e428, hx428_0, hx428_1, hx428_2, hx428_3, hx428_4⟩ := at_T65 (Kd.R_reads' HO_13.out).2.2 x15_1 p428 q428
          obtain rfl : ad427 = ad428 := (by injection e428)
          replace p428 := eq_true p428
          replace q428 := eq_true q428
          go_wp2
          go_roundg kj7
          case measure => have := HK1.out; have := HJ7.out; omega
          case rel => exact ⟨(x14_1), (wrap64 (x15_1 + 1)), (by first | rfl | (simp; done) | (simp [*]; done)), (by first | rfl | (simp; done) | (simp [*]; done)), H', ⟨by have := HK1.out; have := HJ7.out; omega⟩, ⟨by (with_reducible repeat (first | apply Kd.R_alloc | apply Kd.R_drewN | apply Kd.R_drew)); exact HO_13.out⟩, ⟨by repeat (first | (with_reducible first | exact HB.out | apply below_alloc | apply pw_below_drewN | apply below_drew1) | exact HB.out)⟩⟩
        ·rw [if_neg c15] at H
         have c15b0 : (((rd_T65 t424 x15_1).f0).toList == a2.toList) = false := beq_eq_false_iff_ne.mpr c15
         have c15b1 : (((rd_T65 t424 x15_1).f0).toList != a2.toList) = true := bne_iff_ne.mpr c15
         have H' := Aside0.mk H
         clear H
         obtain ⟨Ao19, co19, eo19⟩ := Kd.R_slice HO_13.out
         subst eo19
         have p427 : 0 ≤ (x15_1 : Int) := of_decide_eq_true (by first | (with_reducible assumption) | assumption)
         have q427 : x15_1 < (t424.length : Int) := of_decide_eq_true (by first | (with_reducible assumption) | assumption)
         obtain ⟨ad427, e427, hx427_0, hx427_1, hx427_2, hx427_3, hx427_4⟩ := at_T65 (Kd.R_reads' HO_13.out).2.2 x15_1 p427 q427
         cases e427
         replace p427 := eq_true p427
         replace q427 := eq_true q427
         go_wp2
         go_roundg kj7
         case measure => have := HK1.out; have := HJ7.out; omega
         case rel => exact ⟨(x14_1), (wrap64 (x15_1 + 1)), (by first | rfl | (simp; done) | (simp [*]; done)), (by first | rfl | (simp; done) | (simp [*]; done)), H', ⟨by have := HK1.out; have := HJ7.out; omega⟩, ⟨by (with_reducible repeat (first | apply Kd.R_alloc | apply Kd.R_drewN | apply Kd.R_drew)); exact HO_13.out⟩, ⟨by repeat (first | (with_reducible first | exact HB.out | apply below_alloc | apply pw_below_drewN | apply below_drew1) | exact HB.out)⟩⟩
       ·rw [if_neg c14] at H
        exact absurd H (by simp)
      ·rw [if_neg c13] at H
       exact absurd H (by simp)
     ·replace c12 := Bool.eq_false_iff.mpr c12
      subst c12
      have H1 : (if a2.toList = ([] : List UInt8) then (cellarerref07_Rows.j2 kj7 a4 t424 x14_1 false) else (cellarerref07_Rows.j2 kj7 a4 t424 x14_1 (x14_1 == 0))) = some (r1, r2, r3) := by rw [if_neg (show ¬ (false = true) by decide)] at H; exact H
      clear H
      have H := H1
      clear H1
      have HC20 := Aside0.mk H
      clear H
      go_upto_region 8 with (fail)
      go_cut [54] (fun v54 wc => ∃ (kq : Nat) (x54_19 : Bool), v54 = .bool x54_19 ∧ Aside0 (cellarerref07_Rows.j2 kq a4 t424 x14_1 x54_19 = some (r1, r2, r3)) ∧ Aside0 (kq ≤ kj7) ∧ Aside0 (Kd.R k65 65 wc w.heap.size (fun _ => True) v425 t424) ∧ Aside0 (Below w.heap.size w wc))
      case first =>
       have H := HC20.out
       clear HC20
       by_cases c21 : a2.toList = ([] : List UInt8)
       ·rw [if_pos c21] at H
        have c21b0 : (a2.toList == ([] : List UInt8)) = true := beq_iff_eq.mpr c21
        have c21b1 : (a2.toList != ([] : List UInt8)) = false := bne_eq_false_iff_eq.mpr c21
        clear c21
        (first | rw [c21b0] | rw [c21b1] | (simp only [i64_w, i32_w]; rw [c21b0]) | skip)
        have H' := Aside0.mk H
        clear H
        go_wp2
        go_meet
        case rel => exact ⟨_, (false), (by first | rfl | (simp; done) | (simp [*]; done)), H', ⟨by have := HK1.out; have := HJ7.out; first | omega | exact Nat.le_refl _⟩, ⟨by (with_reducible repeat (first | apply Kd.R_alloc | apply Kd.R_drewN | apply Kd.R_drew)); exact HO_13.out⟩, ⟨by repeat (first | (with_reducible first | exact HB.out | apply below_alloc | apply pw_below_drewN | apply below_drew1) | exact HB.out)⟩⟩
       ·rw [if_neg c21] at H
        have c21b0 : (a2.toList == ([] : List UInt8)) = false := beq_eq_false_iff_ne.mpr c21
        have c21b1 : (a2.toList != ([] : List UInt8)) = true := bne_iff_ne.mpr c21
        (first | rw [c21b0] | rw [c21b1] | (simp only [i64_w, i32_w]; rw [c21b0]) | skip)
        have H' := Aside0.mk H
        clear H
        go_wp2
        go_meet
        case rel => exact ⟨_, ((x14_1 == 0)), (by first | rfl | (simp; done) | (simp [*]; done)), H', ⟨by have := HK1.out; have := HJ7.out; first | omega | exact Nat.le_refl _⟩, ⟨by (with_reducible repeat (first | apply Kd.R_alloc | apply Kd.R_drewN | apply Kd.R_drew)); exact HO_13.out⟩, ⟨by repeat (first | (with_reducible first | exact HB.out | apply below_alloc | apply pw_below_drewN | apply below_drew1) | exact HB.out)⟩⟩
      case rest =>
       clear HC20
       try clear c1
       try clear c2
       try clear p2
       try clear c4
       try clear p4
       try clear q4
       try clear hx4
       try clear p6
       try clear c9
       try clear c9b0
       try clear c12
       try clear c13
       try clear c13b0
       try clear c14
       try clear c14b0
       try clear c15
       try clear c15b0
       try clear c15b1
       try clear c16
       try clear c16b0
       try clear c16b1
       try clear c21
       try clear c21b0
       try clear c21b1
       try clear hx427_0
       try clear hx427_1
       try clear hx427_2
       try clear hx427_3
       try clear hx427_4
       try clear hx428_0
       try clear hx428_1
       try clear hx428_2
       try clear hx428_3
       try clear hx428_4
       try clear p2
       try clear p427
       try clear p428
       try clear q427
       try clear q428
       obtain ⟨kq, x54_19, rfl, HA, HJ19, HO_13, HB⟩ := hcut
       cases kq with
       | zero => exact absurd HA.out (by simp [cellarerref07_Rows.j2])
       | succ kj19 =>
        have H := HA.out
        clear HA
        simp only [cellarerref07_Rows.j2] at H
        by_cases c22 : x54_19 = true
        ·subst c22
         have H1 : (some (([] : List (S65)), false, 4)) = some (r1, r2, r3) := by rw [if_pos rfl] at H; exact H
         clear H
         have H := H1
         clear H1
         simp only [Option.some.injEq, Prod.mk.injEq] at H
         obtain ⟨rfl, rfl, rfl⟩ := H
         go_wp2
         go_ret3
         exact ⟨_, by first | rfl | (simp [errW_none, errW_some] <;> rfl) | (simp [*, errW_none, errW_some] <;> rfl), by first | exact Kd.R_nil _ _ _ _ _ | exact Kd.N_nil _ _ _ _ _ | exact Kd.V_nil _ _ _ _ _ | exact Kd.Q_nil _ _ _ _ _ | exact Kd.S_nil _ _ _ _ _, by repeat (first | (with_reducible first | exact HB.out | apply below_alloc | apply pw_below_drewN | apply below_drew1) | exact HB.out)⟩
        ·replace c22 := Bool.eq_false_iff.mpr c22
         subst c22
         have H1 : (cellarerref07_Rows.l1 kj19 a4 t424 x14_1 ([] : List (S65)) x14_1) = some (r1, r2, r3) := by rw [if_neg (show ¬ (false = true) by decide)] at H; exact H
         clear H
         have H := H1
         clear H1
         have H' := Aside0.mk H
         clear H
         go_wp2
         go_loopg [16, 17] kj19 (fun kq v16 v17 w' => ∃ (x16_4 : List (S65)) (x17_4 : Int), v17 = .int .i64 x17_4 ∧ Aside0 (cellarerref07_Rows.l1 kq a4 t424 x14_1 x16_4 x17_4 = some (r1, r2, r3)) ∧ Aside0 (kq ≤ kj19) ∧ Aside0 (Kd.R k65 65 w' w.heap.size (fun k_ => some k_ ≠ (v16 : Value).ownBlock) v425 t424) ∧ Aside0 (Kd.R k65 65 w' w.heap.size (fun k_ => some k_ ≠ (v425 : Value).ownBlock) v16 x16_4) ∧ Aside0 (Below w.heap.size w w'))
         case atStart => exact ⟨(([] : List (S65))), (x14_1), (by first | rfl | (simp; done) | (simp [*]; done)), H', ⟨Nat.le_refl _⟩, ⟨by (with_reducible repeat (first | apply Kd.R_alloc | apply Kd.R_drewN | apply Kd.R_drew)); exact Kd.R_mono HO_13.out (fun _ hk => (by simp [Value.ownBlock]))⟩, ⟨by first | exact Kd.R_nil _ _ _ _ _ | exact Kd.N_nil _ _ _ _ _ | exact Kd.V_nil _ _ _ _ _ | exact Kd.Q_nil _ _ _ _ _ | exact Kd.S_nil _ _ _ _ _⟩, ⟨by repeat (first | (with_reducible first | exact HB.out | apply below_alloc | apply pw_below_drewN | apply below_drew1) | exact HB.out)⟩⟩
         case round =>
          clear H'
          try clear c1
          try clear c2
          try clear p2
          try clear c4
          try clear p4
          try clear q4
          try clear hx4
          try clear p6
          try clear c9
          try clear c9b0
          try clear c12
          try clear c13
          try clear c13b0
          try clear c14
          try clear c14b0
          try clear c15
          try clear c15b0
          try clear c15b1
          try clear c16
          try clear c16b0
          try clear c16b1
          try clear c21
          try clear c21b0
          try clear c21b1
          try clear c22
          try clear hx427_0
          try clear hx427_1
          try clear hx427_2
          try clear hx427_3
          try clear hx427_4
          try clear hx428_0
          try clear hx428_1
          try clear hx428_2
          try clear hx428_3
          try clear hx428_4
          try clear p2
          try clear p4
          try clear p427
          try clear p428
          try clear p6
          try clear q4
          try clear q427
          try clear q428
          obtain ⟨x16_4, x17_4, rfl, HA, HK4, HO_13, HO_16, HB⟩ := hrel
          cases gk with
          | zero => exact absurd HA.out (by simp [cellarerref07_Rows.l1])
          | succ k4 =>
           have H := HA.out
           clear HA
           simp only [cellarerref07_Rows.l1] at H
           by_cases c23 : x17_4 < (t424.length : Int)
           ·rw [if_pos c23] at H
            have c23b0 : decide (x17_4 < (t424.length : Int)) = true := decide_eq_true c23
            clear c23
            by_cases c24 : x17_4 < (wrap64 (x14_1 + a4))
            ·rw [if_pos c24] at H
             have c24b0 : decide (x17_4 < (wrap64 (x14_1 + a4))) = true := decide_eq_true c24
             clear c24
             by_cases c25 : 0 ≤ x17_4
             ·rw [if_pos c25] at H
              have c25b0 : decide (0 ≤ x17_4) = true := decide_eq_true c25
              clear c25
              by_cases c26 : x16_4.length < 3518437208883
              ·rw [if_pos c26] at H
               have LMc26 := Aside0.mk c26
               clear c26
               obtain ⟨y430, hy430⟩ : ∃ y_ : List (S65), y_ = (x16_4 ++ [(⟨(rd_T65 t424 x17_4).f0, (rd_T65 t424 x17_4).f1, (rd_T65 t424 x17_4).f2, (rd_T65 t424 x17_4).f3, (rd_T65 t424 x17_4).f4⟩ : S65)]) := ⟨_, rfl⟩
               replace H : (cellarerref07_Rows.l1 k4 a4 t424 x14_1 y430 (wrap64 (x17_4 + 1))) = some (r1, r2, r3) := by first | (rw [hy430]; with_reducible exact H) | (have H2_ := (Option.bind_some _ _).symm.trans H; rw [hy430]; with_reducible exact H2_) | (have H2_ := (Option.bind_some _ _).symm.trans H; with_reducible exact H2_) | with_reducible exact H | (rw [hy430]; exact H) | exact H
               have Ny430 := Aside0.mk hy430
               clear hy430
               have H' := Aside0.mk H
               clear H
               obtain ⟨Ao27, co27, eo27⟩ := Kd.R_slice HO_13.out
               subst eo27
               have p429 : 0 ≤ (x17_4 : Int) := of_decide_eq_true (by first | (with_reducible assumption) | assumption)
               have q429 : x17_4 < (t424.length : Int) := of_decide_eq_true (by first | (with_reducible assumption) | assumption)
               obtain ⟨ad429, e429, hx429_0, hx429_1, hx429_2, hx429_3, hx429_4⟩ := at_T65 (Kd.R_reads' HO_13.out).2.2 x17_4 p429 q429
               cases e429
               replace p429 := eq_true p429
               replace q429 := eq_true q429
               go_wp2_with (first | ((with_reducible refine gate_builtin (b := .append) (xs := #[.tmp 69, .tmp 74]) rfl ?_); at_builtin; refine Kd.R_append k65 (w0 := w) w.heap.size rfl (.tmp 69) (.tmp 74) 56 65 (.agg #[(.string ⟨#[]⟩), (.int .u64 0), (.bool false), (.bool false), (.int .i64 0)]) 40 rfl Try.underlying56 info65 rfl (by decide) (by omega) u16 x16_4 (⟨(rd_T65 t424 x17_4).f0, (rd_T65 t424 x17_4).f1, (rd_T65 t424 x17_4).f2, (rd_T65 t424 x17_4).f3, (rd_T65 t424 x17_4).f4⟩ : S65) [.string ((rd_T65 t424 x17_4).f0), .int .u64 ((rd_T65 t424 x17_4).f1), .bool ((rd_T65 t424 x17_4).f2), .bool ((rd_T65 t424 x17_4).f3), .int .i64 ((rd_T65 t424 x17_4).f4)] (fun k_ => some k_ ≠ (.slice (some ad429) t424.length co27 : Value).ownBlock) (fun _ => False) rfl rfl ?aP (fun _ hk => hk.elim) ?aF ?aO ?aB ?aS ?aL ?_; (case aP => exact k65_mkM _ _ _ (⟨(rd_T65 t424 x17_4).f0, (rd_T65 t424 x17_4).f1, (rd_T65 t424 x17_4).f2, (rd_T65 t424 x17_4).f3, (rd_T65 t424 x17_4).f4⟩ : S65)); (case aB => exact (by repeat (first | (with_reducible first | exact HB.out | apply below_alloc | apply pw_below_drewN | apply below_drew1) | exact HB.out))); (case aF => exact (fun k_ hk => Kd.fresh' (Kd.R_lt (by (with_reducible repeat (first | apply Kd.R_alloc | apply Kd.R_drewN | apply Kd.R_drew)); exact HO_13.out)) k_ hk)); (case aO => exact (by (with_reducible repeat (first | apply Kd.R_alloc | apply Kd.R_drewN | apply Kd.R_drew)); exact HO_16.out)); (case aS => exact (below_size (by repeat (first | (with_reducible first | exact HB.out | apply below_alloc | apply pw_below_drewN | apply below_drew1) | exact HB.out)))); (case aL => have := LMc26.out; omega); intro v431 w28 ho hb hg hat; rw [← Ny430.out] at ho; have n0_ := Aside0.mk (Kd.R_after (ok := (fun _ => True)) (by (with_reducible repeat (first | apply Kd.R_alloc | apply Kd.R_drewN | apply Kd.R_drew)); exact Kd.R_mono HO_13.out (fun _ hk => ⟨trivial, hk⟩)) hg hat); have n1_ := Aside0.mk (hb); have n2_ := Aside0.mk (ho); clear HO_13; clear HB; clear HO_16; have HO_13 := n0_; have HB := n1_; have HO432 := n2_; clear n0_ n1_ n2_; clear ho hb hg hat))
               go_roundg k4
               case measure => have := HK1.out; have := HJ7.out; have := HJ19.out; have := HK4.out; omega
               case rel => exact ⟨(y430), (wrap64 (x17_4 + 1)), (by first | rfl | (simp; done) | (simp [*]; done)), H', ⟨by have := HK1.out; have := HJ7.out; have := HJ19.out; have := HK4.out; omega⟩, ⟨by (with_reducible repeat (first | apply Kd.R_alloc | apply Kd.R_drewN | apply Kd.R_drew)); exact Kd.R_mono HO_13.out (fun _ hk => hk.2)⟩, ⟨by (with_reducible repeat (first | apply Kd.R_alloc | apply Kd.R_drewN | apply Kd.R_drew)); exact HO432.out⟩, ⟨by repeat (first | (with_reducible first | exact HB.out | apply below_alloc | apply pw_below_drewN | apply below_drew1) | exact HB.out)⟩⟩
              ·rw [if_neg c26] at H
               exact absurd H (by simp)
             ·rw [if_neg c25] at H
              exact absurd H (by simp)
            ·rw [if_neg c24] at H
             have c24b0 : decide (x17_4 < (wrap64 (x14_1 + a4))) = false := decide_eq_false c24
             clear c24
             simp only [Option.some.injEq, Prod.mk.injEq] at H
             obtain ⟨rfl, rfl, rfl⟩ := H
             obtain ⟨Ao29, co29, eo29⟩ := Kd.R_slice HO_13.out
             subst eo29
             go_wp2
             go_ret3
             exact ⟨_, by first | rfl | (simp [errW_none, errW_some] <;> rfl) | (simp [*, errW_none, errW_some] <;> rfl), by (with_reducible repeat (first | apply Kd.R_alloc | apply Kd.R_drewN | apply Kd.R_drew)); exact Kd.R_mono HO_16.out (fun _ hk => trivial), by repeat (first | (with_reducible first | exact HB.out | apply below_alloc | apply pw_below_drewN | apply below_drew1) | exact HB.out)⟩
           ·rw [if_neg c23] at H
            have c23b0 : decide (x17_4 < (t424.length : Int)) = false := decide_eq_false c23
            clear c23
            simp only [Option.some.injEq, Prod.mk.injEq] at H
            obtain ⟨rfl, rfl, rfl⟩ := H
            obtain ⟨Ao30, co30, eo30⟩ := Kd.R_slice HO_13.out
            subst eo30
            go_wp2
            go_ret3
            exact ⟨_, by first | rfl | (simp [errW_none, errW_some] <;> rfl) | (simp [*, errW_none, errW_some] <;> rfl), by (with_reducible repeat (first | apply Kd.R_alloc | apply Kd.R_drewN | apply Kd.R_drew)); exact Kd.R_mono HO_16.out (fun _ hk => trivial), by repeat (first | (with_reducible first | exact HB.out | apply below_alloc | apply pw_below_drewN | apply below_drew1) | exact HB.out)⟩

end Go.Proofs.Ytcnnijkgiioniaa.P
