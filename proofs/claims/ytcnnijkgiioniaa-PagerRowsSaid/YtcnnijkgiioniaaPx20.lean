/- Printed by a program of this session (wip/tools/gprint.py, over the kit's print) out of the translation: functions and their contracts. -/
import Derived.Test.YtcnnijkgiioniaaPx0
import Derived.Test.YtcnnijkgiioniaaPx2
import Derived.Test.YtcnnijkgiioniaaPx7
import Derived.Test.YtcnnijkgiioniaaPx9
import Derived.Test.YtcnnijkgiioniaaPx17
import Derived.Test.YtcnnijkgiioniaaPx18
import Derived.Test.YtcnnijkgiioniaaPx19
import Derived.Test.YtcnnijkgiioniaaPxOpens
namespace Go.Proofs.Ytcnnijkgiioniaa.P
open Go.RowKit Go.Proofs.YtcnnijkgiioniaaW.PrintWords Go.Proofs.YtcnnijkgiioniaaW.PrintLast Go.Proofs.YtcnnijkgiioniaaW.PrintMore
attribute [local go_sem] max2_int min2_int max_two min_two max_three min_three max_four min_four   -- for this text's walks alone
set_option linter.unusedVariables false
set_option linter.unusedSimpArgs false

/-! ### cellarerlaw07_PagerRows: function 8 -/
def cellarerlaw07_PagerRows.f (k : Nat) (l0_0 : List (S50)) (a0_1 : ByteArray) (a0_2 : ByteArray) (a0_3 : ByteArray) (a0_4 : Int) (a0_5 : Int) : Option (Bool) := (cellarerlaw07_cut.f k l0_0 a0_1 a0_2 a0_3 a0_4 a0_5).bind fun bt436 => ((pager_Rows.f k bt436.1 bt436.2.1 bt436.2.2.2.1 bt436.2.2.2.2.1 bt436.2.2.2.2.2).bind fun bt444 => ((cellarerref07_Asked.f k bt436.1 bt436.2.1 (⟨#[]⟩ : ByteArray) bt436.2.2.2.1 bt436.2.2.2.2.2).bind fun t449 => (if t449 = true then ((cellarerref07_Rows.f k bt436.1 bt436.2.1 bt436.2.2.2.1 bt436.2.2.2.2.1 bt436.2.2.2.2.2).bind fun bt451 => ((cellarerref07_Same.f k bt444.1 bt451.1).bind fun t456 => (if t456 = true then (if (bt444.2.1 == bt451.2.1) = true then (if bt444.2.2 = bt451.2.2 then ((cellarerlaw07_awake.f).bind fun t457 => (some t457)) else (some false)) else (some false)) else (some false)))) else (if (bt444.1.length : Int) = 0 then (if bt444.2.1 = true then (some false) else (if bt444.2.2 = 1 then ((cellarerlaw07_awake.f).bind fun t450 => (some t450)) else (some false))) else (some false)))))
theorem cellarerlaw07_PagerRows.mono : ∀ a0 a1 a2 a3 a4 a5 k, LeO (cellarerlaw07_PagerRows.f k a0 a1 a2 a3 a4 a5) (cellarerlaw07_PagerRows.f (k + 1) a0 a1 a2 a3 a4 a5) := by
  intro a0 a1 a2 a3 a4 a5 k
  unfold cellarerlaw07_PagerRows.f
  repeat' first
      | (with_reducible exact cellarerlaw07_cut.mono _ _ _ _ _ _ _)
      | (with_reducible exact cellarerref07_Asked.mono _ _ _ _ _ _)
      | (with_reducible exact cellarerref07_Rows.mono _ _ _ _ _ _)
      | (with_reducible exact cellarerref07_Same.mono _ _ _)
      | (with_reducible exact pager_Rows.mono _ _ _ _ _ _)
      | (with_reducible exact LeO.refl _)
      | (with_reducible exact LeO.none _)
      | (with_reducible refine LeO.ite ?_ ?_)
      | (with_reducible refine LeO.bind ?_ (fun _ => ?_))
      | exact cellarerlaw07_cut.mono _ _ _ _ _ _ _
      | exact cellarerref07_Asked.mono _ _ _ _ _ _
      | exact cellarerref07_Rows.mono _ _ _ _ _ _
      | exact cellarerref07_Same.mono _ _ _
      | exact pager_Rows.mono _ _ _ _ _ _
      | exact LeO.none _
      | refine LeO.ite ?_ ?_
      | refine LeO.bind ?_ (fun _ => ?_)
set_option maxHeartbeats 8000000 in
set_option maxRecDepth 100000 in
theorem cellarerlaw07_PagerRows.calls (k : Nat) (A0_0 : Option Addr) (c0_0 : Nat) (l0_0 : List (S50)) (a0_1 : ByteArray) (a0_2 : ByteArray) (a0_3 : ByteArray) (a0_4 : Int) (a0_5 : Int) (r : Bool) (w : World) (hr0_0 : Kd.C k50 w A0_0 l0_0.length l0_0) (hc0_0 : l0_0.length ≤ c0_0) (h : cellarerlaw07_PagerRows.f k l0_0 a0_1 a0_2 a0_3 a0_4 a0_5 = some r) (hTR_ : r = true) :
  Calls Try.prog 8 #[.agg #[.slice A0_0 l0_0.length c0_0, .string a0_1, .string a0_2, .string a0_3, .int .u64 a0_4, .int .i64 a0_5]] w fun e w' => e = .returned (.bool r) ∧ Below w.heap.size w w' := by
 have hu25 := Try.underlying25
 have HR0_0 := Aside0.mk hr0_0
 have HC0_0 := Aside0.mk hc0_0
 clear hr0_0 hc0_0
 have HB := Aside0.mk (Below.refl w.heap.size w)
 have HTR_ := Aside0.mk hTR_
 clear hTR_
 have H : ((cellarerlaw07_cut.f k l0_0 a0_1 a0_2 a0_3 a0_4 a0_5).bind fun bt436 => ((pager_Rows.f k bt436.1 bt436.2.1 bt436.2.2.2.1 bt436.2.2.2.2.1 bt436.2.2.2.2.2).bind fun bt444 => ((cellarerref07_Asked.f k bt436.1 bt436.2.1 (⟨#[]⟩ : ByteArray) bt436.2.2.2.1 bt436.2.2.2.2.2).bind fun t449 => (if t449 = true then ((cellarerref07_Rows.f k bt436.1 bt436.2.1 bt436.2.2.2.1 bt436.2.2.2.2.1 bt436.2.2.2.2.2).bind fun bt451 => ((cellarerref07_Same.f k bt444.1 bt451.1).bind fun t456 => (if t456 = true then (if (bt444.2.1 == bt451.2.1) = true then (if bt444.2.2 = bt451.2.2 then ((cellarerlaw07_awake.f).bind fun t457 => (some t457)) else (some false)) else (some false)) else (some false)))) else (if (bt444.1.length : Int) = 0 then (if bt444.2.1 = true then (some false) else (if bt444.2.2 = 1 then ((cellarerlaw07_awake.f).bind fun t450 => (some t450)) else (some false))) else (some false)))))) = some r := h
 clear h
 replace H := Option.bind_eq_some_iff.mp H
 obtain ⟨⟨t436, t439, t440, t441, t442, t443⟩, A20, H⟩ := H
 replace H : ((pager_Rows.f k t436 t439 t441 t442 t443).bind fun bt444 => ((cellarerref07_Asked.f k t436 t439 (⟨#[]⟩ : ByteArray) t441 t443).bind fun t449 => (if t449 = true then ((cellarerref07_Rows.f k t436 t439 t441 t442 t443).bind fun bt451 => ((cellarerref07_Same.f k bt444.1 bt451.1).bind fun t456 => (if t456 = true then (if (bt444.2.1 == bt451.2.1) = true then (if bt444.2.2 = bt451.2.2 then ((cellarerlaw07_awake.f).bind fun t457 => (some t457)) else (some false)) else (some false)) else (some false)))) else (if (bt444.1.length : Int) = 0 then (if bt444.2.1 = true then (some false) else (if bt444.2.2 = 1 then ((cellarerlaw07_awake.f).bind fun t450 => (some t450)) else (some false))) else (some false))))) = some r := H
 have A2 := Aside0.mk A20
 clear A20
 replace H := Option.bind_eq_some_iff.mp H
 obtain ⟨⟨t444, t447, t448⟩, A30, H⟩ := H
 replace H : ((cellarerref07_Asked.f k t436 t439 (⟨#[]⟩ : ByteArray) t441 t443).bind fun t449 => (if t449 = true then ((cellarerref07_Rows.f k t436 t439 t441 t442 t443).bind fun bt451 => ((cellarerref07_Same.f k t444 bt451.1).bind fun t456 => (if t456 = true then (if (t447 == bt451.2.1) = true then (if t448 = bt451.2.2 then ((cellarerlaw07_awake.f).bind fun t457 => (some t457)) else (some false)) else (some false)) else (some false)))) else (if (t444.length : Int) = 0 then (if t447 = true then (some false) else (if t448 = 1 then ((cellarerlaw07_awake.f).bind fun t450 => (some t450)) else (some false))) else (some false)))) = some r := H
 have A3 := Aside0.mk A30
 clear A30
 replace H := Option.bind_eq_some_iff.mp H
 obtain ⟨t449, A40, H⟩ := H
 replace H : (if t449 = true then ((cellarerref07_Rows.f k t436 t439 t441 t442 t443).bind fun bt451 => ((cellarerref07_Same.f k t444 bt451.1).bind fun t456 => (if t456 = true then (if (t447 == bt451.2.1) = true then (if t448 = bt451.2.2 then ((cellarerlaw07_awake.f).bind fun t457 => (some t457)) else (some false)) else (some false)) else (some false)))) else (if (t444.length : Int) = 0 then (if t447 = true then (some false) else (if t448 = 1 then ((cellarerlaw07_awake.f).bind fun t450 => (some t450)) else (some false))) else (some false))) = some r := H
 have A4 := Aside0.mk A40
 clear A40
 by_cases c5 : t449 = true
 ·subst c5
  have H1 : ((cellarerref07_Rows.f k t436 t439 t441 t442 t443).bind fun bt451 => ((cellarerref07_Same.f k t444 bt451.1).bind fun t456 => (if t456 = true then (if (t447 == bt451.2.1) = true then (if t448 = bt451.2.2 then ((cellarerlaw07_awake.f).bind fun t457 => (some t457)) else (some false)) else (some false)) else (some false)))) = some r := by rw [if_pos rfl] at H; exact H
  clear H
  have H := H1
  clear H1
  replace H := Option.bind_eq_some_iff.mp H
  obtain ⟨⟨t451, t452, t453⟩, A60, H⟩ := H
  replace H : ((cellarerref07_Same.f k t444 t451).bind fun t456 => (if t456 = true then (if (t447 == t452) = true then (if t448 = t453 then ((cellarerlaw07_awake.f).bind fun t457 => (some t457)) else (some false)) else (some false)) else (some false))) = some r := H
  have A6 := Aside0.mk A60
  clear A60
  replace H := Option.bind_eq_some_iff.mp H
  obtain ⟨t456, A70, H⟩ := H
  replace H : (if t456 = true then (if (t447 == t452) = true then (if t448 = t453 then ((cellarerlaw07_awake.f).bind fun t457 => (some t457)) else (some false)) else (some false)) else (some false)) = some r := H
  have A7 := Aside0.mk A70
  clear A70
  by_cases c8 : t456 = true
  ·subst c8
   have H1 : (if (t447 == t452) = true then (if t448 = t453 then ((cellarerlaw07_awake.f).bind fun t457 => (some t457)) else (some false)) else (some false)) = some r := by rw [if_pos rfl] at H; exact H
   clear H
   have H := H1
   clear H1
   by_cases c9 : (t447 == t452) = true
   ·rw [if_pos c9] at H
    have c9b0 : (t447 == t452) = true := c9
    (try (have c9b1 : decide (t447 = t452) = true := by simpa using c9))
    (try (have c9b2 : (t447 == t452) = true := by simpa using c9))
    clear c9
    by_cases c10 : t448 = t453
    ·rw [if_pos c10] at H
     have c10b0 : (t448 == t453) = true := beq_iff_eq.mpr c10
     have c10b1 : (t448 != t453) = false := bne_eq_false_iff_eq.mpr c10
     clear c10
     replace H := Option.bind_eq_some_iff.mp H
     obtain ⟨t457, A110, H⟩ := H
     replace H : (some t457) = some r := H
     have A11 := Aside0.mk A110
     clear A110
     obtain rfl := Option.some.inj H
     go_enter Try.func8, Try.ntmps8
     go_wp2_with (first | ((with_reducible refine gate_dst (N := 1) rfl ?_); refine box_event ?hg (N := 1) ?hd (cs := #[.slice A0_0 l0_0.length c0_0, .string a0_1, .string a0_2, .string a0_3, .int .u64 a0_4, .int .i64 a0_5]) (t := 25) ?hr ?_; (case hd => rfl); (case hg => rfl); (case hr => first | (go_simp; done) | (go_simp; rfl)); intro gb435 hg w12 hbox hb; have n0_ := Aside0.mk (below_step (by repeat (first | (with_reducible first | exact HB.out | apply below_alloc | apply pw_below_drewN | apply below_drew1) | exact HB.out)) hb); have n1_ := Aside0.mk (hbox); have n2_ := Aside0.mk ((by rw [hg]; exact (below_size (by repeat (first | (with_reducible first | exact HB.out | apply below_alloc | apply pw_below_drewN | apply below_drew1) | exact HB.out))) : w.heap.size ≤ gb435)); have n3_ := Aside0.mk ((by rw [hg]; exact (below_size (by repeat (first | (with_reducible first | exact HB.out | apply below_alloc | apply pw_below_drewN | apply below_drew1) | exact HB.out))) : w.heap.size ≤ gb435)); clear HB; have HB := n0_; have BK435 := n1_; have GW435 := n2_; have GE435 := n3_; clear n0_ n1_ n2_ n3_; clear hb hbox hg; have hcz13_0 : w12.cell? ⟨gb435, 0, none⟩ = some (.slice A0_0 l0_0.length c0_0) := (blk_cell BK435.out 0).trans rfl; have hcz13_1 : w12.cell? ⟨gb435, 1, none⟩ = some (.string a0_1) := (blk_cell BK435.out 1).trans rfl; have hcz13_2 : w12.cell? ⟨gb435, 2, none⟩ = some (.string a0_2) := (blk_cell BK435.out 2).trans rfl; have hcz13_3 : w12.cell? ⟨gb435, 3, none⟩ = some (.string a0_3) := (blk_cell BK435.out 3).trans rfl; have hcz13_4 : w12.cell? ⟨gb435, 4, none⟩ = some (.int .u64 a0_4) := (blk_cell BK435.out 4).trans rfl; have hcz13_5 : w12.cell? ⟨gb435, 5, none⟩ = some (.int .i64 a0_5) := (blk_cell BK435.out 5).trans rfl; have hfz13_0 := blk_frozen BK435.out 0; have hfz13_1 := blk_frozen BK435.out 1; have hfz13_2 := blk_frozen BK435.out 2; have hfz13_3 := blk_frozen BK435.out 3; have hfz13_4 := blk_frozen BK435.out 4; have hfz13_5 := blk_frozen BK435.out 5) | ((with_reducible refine gate_callee (f := 10) rfl ?_); refine goesL_ (some 10) rfl rfl Try.func10 (by kernel_rfl) rfl #[.agg #[.slice A0_0 l0_0.length c0_0, .string a0_1, .string a0_2, .string a0_3, .int .u64 a0_4, .int .i64 a0_5]] rfl (by (try simp only [List.map_toArray, List.map_cons, List.map_nil]); first | done | rfl | (simp only [List.length_drop, List.length_take]; rfl)) ?_; (with_reducible refine (cellarerlaw07_cut.calls k _ _ l0_0 a0_1 a0_2 a0_3 a0_4 a0_5 t436 t439 t440 t441 t442 t443 _ ?side1 ?side2 A2.out).mono ?_); (case side1 => repeat (first | exact (Kd.C_below HR0_0.out HB.out) | (with_reducible refine Kd.C_alloc ?_ _) | (with_reducible refine Kd.C_drewN ?_ _) | (with_reducible refine Kd.C_drew ?_))); (case side2 => exact HC0_0.out); rintro e w14 ⟨v437, rfl, ho0, hb⟩; refine ⟨_, rfl, ?_⟩; have n0_ := Aside0.mk (Kd.S_lower ho0 (below_size (by repeat (first | (with_reducible first | exact HB.out | apply below_alloc | apply pw_below_drewN | apply below_drew1 | refine below_set ?_ GE435.out) | exact HB.out)))); have n1_ := Aside0.mk (blk_below (g := gb435) (o := .cells #[.slice A0_0 l0_0.length c0_0, .string a0_1, .string a0_2, .string a0_3, .int .u64 a0_4, .int .i64 a0_5] 25 (0, 0)) (by (with_reducible repeat (first | refine blk_drewN ?_ _ | refine blk_drew ?_ | refine blk_alloc ?_ _)); exact BK435.out) hb); have n2_ := Aside0.mk (below_step (by repeat (first | (with_reducible first | exact HB.out | apply below_alloc | apply pw_below_drewN | apply below_drew1 | refine below_set ?_ GE435.out) | exact HB.out)) hb); clear BK435; clear HB; have HO438 := n0_; have BK435 := n1_; have HB := n2_; clear n0_ n1_ n2_; (try clear hb); (try clear hb2); (try clear hk); (try clear hi); (try clear ho0); obtain ⟨Ao15, co15, eo15⟩ := Kd.S_slice HO438.out; subst eo15; have hcz16_0 : w14.cell? ⟨gb435, 0, none⟩ = some (.slice A0_0 l0_0.length c0_0) := (blk_cell BK435.out 0).trans rfl; have hcz16_1 : w14.cell? ⟨gb435, 1, none⟩ = some (.string a0_1) := (blk_cell BK435.out 1).trans rfl; have hcz16_2 : w14.cell? ⟨gb435, 2, none⟩ = some (.string a0_2) := (blk_cell BK435.out 2).trans rfl; have hcz16_3 : w14.cell? ⟨gb435, 3, none⟩ = some (.string a0_3) := (blk_cell BK435.out 3).trans rfl; have hcz16_4 : w14.cell? ⟨gb435, 4, none⟩ = some (.int .u64 a0_4) := (blk_cell BK435.out 4).trans rfl; have hcz16_5 : w14.cell? ⟨gb435, 5, none⟩ = some (.int .i64 a0_5) := (blk_cell BK435.out 5).trans rfl; have hfz16_0 := blk_frozen BK435.out 0; have hfz16_1 := blk_frozen BK435.out 1; have hfz16_2 := blk_frozen BK435.out 2; have hfz16_3 := blk_frozen BK435.out 3; have hfz16_4 := blk_frozen BK435.out 4; have hfz16_5 := blk_frozen BK435.out 5) | ((with_reducible refine gate_callee (f := 22) rfl ?_); refine goesL_ (some 22) rfl rfl Try.func22 (by kernel_rfl) rfl #[.slice Ao15 t436.length co15, .string t439, .string t441, .int .u64 t442, .int .i64 t443] rfl (by (try simp only [List.map_toArray, List.map_cons, List.map_nil]); first | done | rfl | (simp only [List.length_drop, List.length_take]; rfl)) ?_; (with_reducible refine (pager_Rows.calls k _ _ t436 t439 t441 t442 t443 t444 t447 t448 _ ?side1 ?side2 A3.out).mono ?_); (case side1 => refine (Kd.S_reads' (e := 50) (base := w.heap.size) (ok := fun k_ => True) (n := t436.length) (c := co15) ?_).2.2; exact (by (with_reducible repeat (first | apply Kd.S_alloc | apply Kd.S_drewN | apply Kd.S_drew)); exact (Kd.S_mono (Kd.S_far (p := ⟨gb435, 5, none⟩) (Kd.S_far (p := ⟨gb435, 4, none⟩) (Kd.S_far (p := ⟨gb435, 3, none⟩) (Kd.S_far (p := ⟨gb435, 2, none⟩) (Kd.S_far (p := ⟨gb435, 1, none⟩) (Kd.S_far (p := ⟨gb435, 0, none⟩) (Kd.S_types HO438.out BK435.out (by decide)) (fun _ hk => hk.2) (.slice Ao15 t436.length co15)) (fun _ hk => hk.2) (.string t439)) (fun _ hk => hk.2) (.string t440)) (fun _ hk => hk.2) (.string t441)) (fun _ hk => hk.2) (.int .u64 t442)) (fun _ hk => hk.2) (.int .i64 t443)) (fun _ h_ => h_.1)))); (case side2 => exact (Kd.S_reads' HO438.out).2.1); rintro e w17 ⟨v445, rfl, ho0, hb⟩; refine ⟨_, rfl, ?_⟩; have n0_ := Aside0.mk (Kd.S_below (by (with_reducible repeat (first | apply Kd.S_alloc | apply Kd.S_drewN | apply Kd.S_drew)); exact (Kd.S_mono (Kd.S_far (p := ⟨gb435, 5, none⟩) (Kd.S_far (p := ⟨gb435, 4, none⟩) (Kd.S_far (p := ⟨gb435, 3, none⟩) (Kd.S_far (p := ⟨gb435, 2, none⟩) (Kd.S_far (p := ⟨gb435, 1, none⟩) (Kd.S_far (p := ⟨gb435, 0, none⟩) (Kd.S_types HO438.out BK435.out (by decide)) (fun _ hk => hk.2) (.slice Ao15 t436.length co15)) (fun _ hk => hk.2) (.string t439)) (fun _ hk => hk.2) (.string t440)) (fun _ hk => hk.2) (.string t441)) (fun _ hk => hk.2) (.int .u64 t442)) (fun _ hk => hk.2) (.int .i64 t443)) (fun _ h_ => h_.1))) hb); have n1_ := Aside0.mk (Kd.V_lower (Kd.V_mono (ok' := fun k_ => some k_ ≠ (.slice Ao15 t436.length co15 : Value).ownBlock ∧ k_ ≠ gb435) ho0 (fun k_ hk_ => ⟨(Kd.fresh' (Kd.S_lt (by (with_reducible repeat (first | apply Kd.S_alloc | apply Kd.S_drewN | apply Kd.S_drew)); exact (Kd.S_mono (Kd.S_far (p := ⟨gb435, 5, none⟩) (Kd.S_far (p := ⟨gb435, 4, none⟩) (Kd.S_far (p := ⟨gb435, 3, none⟩) (Kd.S_far (p := ⟨gb435, 2, none⟩) (Kd.S_far (p := ⟨gb435, 1, none⟩) (Kd.S_far (p := ⟨gb435, 0, none⟩) (Kd.S_types HO438.out BK435.out (by decide)) (fun _ hk => hk.2) (.slice Ao15 t436.length co15)) (fun _ hk => hk.2) (.string t439)) (fun _ hk => hk.2) (.string t440)) (fun _ hk => hk.2) (.string t441)) (fun _ hk => hk.2) (.int .u64 t442)) (fun _ hk => hk.2) (.int .i64 t443)) (fun _ h_ => h_.1)))) k_ hk_), (Kd.freshB (g := gb435) (o := .cells #[.slice Ao15 t436.length co15, .string t439, .string t440, .string t441, .int .u64 t442, .int .i64 t443] 25 (0, 0)) (by (with_reducible repeat (first | refine blk_drewN ?_ _ | refine blk_drew ?_ | refine blk_alloc ?_ _)); refine blk_put (cs := #[.slice Ao15 t436.length co15, .string t439, .string t440, .string t441, .int .u64 t442, .int .i64 a0_5]) ?_ 5 _ rfl; (with_reducible repeat (first | refine blk_drewN ?_ _ | refine blk_drew ?_ | refine blk_alloc ?_ _)); refine blk_put (cs := #[.slice Ao15 t436.length co15, .string t439, .string t440, .string t441, .int .u64 a0_4, .int .i64 a0_5]) ?_ 4 _ rfl; (with_reducible repeat (first | refine blk_drewN ?_ _ | refine blk_drew ?_ | refine blk_alloc ?_ _)); refine blk_put (cs := #[.slice Ao15 t436.length co15, .string t439, .string t440, .string a0_3, .int .u64 a0_4, .int .i64 a0_5]) ?_ 3 _ rfl; (with_reducible repeat (first | refine blk_drewN ?_ _ | refine blk_drew ?_ | refine blk_alloc ?_ _)); refine blk_put (cs := #[.slice Ao15 t436.length co15, .string t439, .string a0_2, .string a0_3, .int .u64 a0_4, .int .i64 a0_5]) ?_ 2 _ rfl; (with_reducible repeat (first | refine blk_drewN ?_ _ | refine blk_drew ?_ | refine blk_alloc ?_ _)); refine blk_put (cs := #[.slice Ao15 t436.length co15, .string a0_1, .string a0_2, .string a0_3, .int .u64 a0_4, .int .i64 a0_5]) ?_ 1 _ rfl; (with_reducible repeat (first | refine blk_drewN ?_ _ | refine blk_drew ?_ | refine blk_alloc ?_ _)); refine blk_put (cs := #[.slice A0_0 l0_0.length c0_0, .string a0_1, .string a0_2, .string a0_3, .int .u64 a0_4, .int .i64 a0_5]) ?_ 0 _ rfl; (with_reducible repeat (first | refine blk_drewN ?_ _ | refine blk_drew ?_ | refine blk_alloc ?_ _)); exact BK435.out) k_ hk_)⟩)) (below_size (by repeat (first | (with_reducible first | exact HB.out | apply below_alloc | apply pw_below_drewN | apply below_drew1 | refine below_set ?_ GE435.out) | exact HB.out)))); have n2_ := Aside0.mk (blk_below (g := gb435) (o := .cells #[.slice Ao15 t436.length co15, .string t439, .string t440, .string t441, .int .u64 t442, .int .i64 t443] 25 (0, 0)) (by (with_reducible repeat (first | refine blk_drewN ?_ _ | refine blk_drew ?_ | refine blk_alloc ?_ _)); refine blk_put (cs := #[.slice Ao15 t436.length co15, .string t439, .string t440, .string t441, .int .u64 t442, .int .i64 a0_5]) ?_ 5 _ rfl; (with_reducible repeat (first | refine blk_drewN ?_ _ | refine blk_drew ?_ | refine blk_alloc ?_ _)); refine blk_put (cs := #[.slice Ao15 t436.length co15, .string t439, .string t440, .string t441, .int .u64 a0_4, .int .i64 a0_5]) ?_ 4 _ rfl; (with_reducible repeat (first | refine blk_drewN ?_ _ | refine blk_drew ?_ | refine blk_alloc ?_ _)); refine blk_put (cs := #[.slice Ao15 t436.length co15, .string t439, .string t440, .string a0_3, .int .u64 a0_4, .int .i64 a0_5]) ?_ 3 _ rfl; (with_reducible repeat (first | refine blk_drewN ?_ _ | refine blk_drew ?_ | refine blk_alloc ?_ _)); refine blk_put (cs := #[.slice Ao15 t436.length co15, .string t439, .string a0_2, .string a0_3, .int .u64 a0_4, .int .i64 a0_5]) ?_ 2 _ rfl; (with_reducible repeat (first | refine blk_drewN ?_ _ | refine blk_drew ?_ | refine blk_alloc ?_ _)); refine blk_put (cs := #[.slice Ao15 t436.length co15, .string a0_1, .string a0_2, .string a0_3, .int .u64 a0_4, .int .i64 a0_5]) ?_ 1 _ rfl; (with_reducible repeat (first | refine blk_drewN ?_ _ | refine blk_drew ?_ | refine blk_alloc ?_ _)); refine blk_put (cs := #[.slice A0_0 l0_0.length c0_0, .string a0_1, .string a0_2, .string a0_3, .int .u64 a0_4, .int .i64 a0_5]) ?_ 0 _ rfl; (with_reducible repeat (first | refine blk_drewN ?_ _ | refine blk_drew ?_ | refine blk_alloc ?_ _)); exact BK435.out) hb); have n3_ := Aside0.mk (below_step (by repeat (first | (with_reducible first | exact HB.out | apply below_alloc | apply pw_below_drewN | apply below_drew1 | refine below_set ?_ GE435.out) | exact HB.out)) hb); clear HO438; clear BK435; clear HB; have HO438 := n0_; have HO446 := n1_; have BK435 := n2_; have HB := n3_; clear n0_ n1_ n2_ n3_; (try clear hb); (try clear hb2); (try clear hk); (try clear hi); (try clear ho0); have hcz18_0 : w17.cell? ⟨gb435, 0, none⟩ = some (.slice Ao15 t436.length co15) := (blk_cell BK435.out 0).trans rfl; have hcz18_1 : w17.cell? ⟨gb435, 1, none⟩ = some (.string t439) := (blk_cell BK435.out 1).trans rfl; have hcz18_2 : w17.cell? ⟨gb435, 2, none⟩ = some (.string t440) := (blk_cell BK435.out 2).trans rfl; have hcz18_3 : w17.cell? ⟨gb435, 3, none⟩ = some (.string t441) := (blk_cell BK435.out 3).trans rfl; have hcz18_4 : w17.cell? ⟨gb435, 4, none⟩ = some (.int .u64 t442) := (blk_cell BK435.out 4).trans rfl; have hcz18_5 : w17.cell? ⟨gb435, 5, none⟩ = some (.int .i64 t443) := (blk_cell BK435.out 5).trans rfl; have hfz18_0 := blk_frozen BK435.out 0; have hfz18_1 := blk_frozen BK435.out 1; have hfz18_2 := blk_frozen BK435.out 2; have hfz18_3 := blk_frozen BK435.out 3; have hfz18_4 := blk_frozen BK435.out 4; have hfz18_5 := blk_frozen BK435.out 5) | ((with_reducible refine gate_callee (f := 13) rfl ?_); refine goesL_ (some 34) rfl rfl Try.func13 (by kernel_rfl) rfl #[.slice Ao15 t436.length co15, .string t439, .string (⟨#[]⟩ : ByteArray), .string t441, .int .i64 t443] rfl (by (try simp only [List.map_toArray, List.map_cons, List.map_nil]); first | done | rfl | (simp only [List.length_drop, List.length_take]; rfl)) ?_; (with_reducible refine (cellarerref07_Asked.calls k _ _ t436 t439 (⟨#[]⟩ : ByteArray) t441 t443 true _ ?side1 ?side2 A4.out).mono ?_); (case side1 => repeat (first | exact (Kd.S_reads' HO438.out).2.2 | (with_reducible refine Kd.C_alloc ?_ _) | (with_reducible refine Kd.C_drewN ?_ _) | (with_reducible refine Kd.C_drew ?_))); (case side2 => exact (Kd.S_reads' HO438.out).2.1); rintro e w19 ⟨rfl, hb⟩; refine ⟨_, rfl, ?_⟩; have n0_ := Aside0.mk (Kd.S_below (by (with_reducible repeat (first | apply Kd.S_alloc | apply Kd.S_drewN | apply Kd.S_drew)); exact HO438.out) hb); have n1_ := Aside0.mk (Kd.V_below (by (with_reducible repeat (first | apply Kd.V_alloc | apply Kd.V_drewN | apply Kd.V_drew)); exact HO446.out) hb); have n2_ := Aside0.mk (blk_below (g := gb435) (o := .cells #[.slice Ao15 t436.length co15, .string t439, .string t440, .string t441, .int .u64 t442, .int .i64 t443] 25 (0, 0)) (by (with_reducible repeat (first | refine blk_drewN ?_ _ | refine blk_drew ?_ | refine blk_alloc ?_ _)); exact BK435.out) hb); have n3_ := Aside0.mk (below_step (by repeat (first | (with_reducible first | exact HB.out | apply below_alloc | apply pw_below_drewN | apply below_drew1 | refine below_set ?_ GE435.out) | exact HB.out)) hb); clear HO438; clear HO446; clear BK435; clear HB; have HO438 := n0_; have HO446 := n1_; have BK435 := n2_; have HB := n3_; clear n0_ n1_ n2_ n3_; (try clear hb); (try clear hb2); (try clear hk); (try clear hi); have hcz20_0 : w19.cell? ⟨gb435, 0, none⟩ = some (.slice Ao15 t436.length co15) := (blk_cell BK435.out 0).trans rfl; have hcz20_1 : w19.cell? ⟨gb435, 1, none⟩ = some (.string t439) := (blk_cell BK435.out 1).trans rfl; have hcz20_2 : w19.cell? ⟨gb435, 2, none⟩ = some (.string t440) := (blk_cell BK435.out 2).trans rfl; have hcz20_3 : w19.cell? ⟨gb435, 3, none⟩ = some (.string t441) := (blk_cell BK435.out 3).trans rfl; have hcz20_4 : w19.cell? ⟨gb435, 4, none⟩ = some (.int .u64 t442) := (blk_cell BK435.out 4).trans rfl; have hcz20_5 : w19.cell? ⟨gb435, 5, none⟩ = some (.int .i64 t443) := (blk_cell BK435.out 5).trans rfl; have hfz20_0 := blk_frozen BK435.out 0; have hfz20_1 := blk_frozen BK435.out 1; have hfz20_2 := blk_frozen BK435.out 2; have hfz20_3 := blk_frozen BK435.out 3; have hfz20_4 := blk_frozen BK435.out 4; have hfz20_5 := blk_frozen BK435.out 5) | ((with_reducible refine gate_callee (f := 23) rfl ?_); refine goesL_ (some 61) rfl rfl Try.func23 (by kernel_rfl) rfl #[.slice Ao15 t436.length co15, .string t439, .string t441, .int .u64 t442, .int .i64 t443] rfl (by (try simp only [List.map_toArray, List.map_cons, List.map_nil]); first | done | rfl | (simp only [List.length_drop, List.length_take]; rfl)) ?_; (with_reducible refine (cellarerref07_Rows.calls k _ _ t436 t439 t441 t442 t443 t451 t452 t453 _ ?side1 ?side2 A6.out).mono ?_); (case side1 => repeat (first | exact (Kd.S_reads' HO438.out).2.2 | (with_reducible refine Kd.C_alloc ?_ _) | (with_reducible refine Kd.C_drewN ?_ _) | (with_reducible refine Kd.C_drew ?_))); (case side2 => exact (Kd.S_reads' HO438.out).2.1); rintro e w21 ⟨v454, rfl, ho0, hb⟩; refine ⟨_, rfl, ?_⟩; have n0_ := Aside0.mk (Kd.S_below (by (with_reducible repeat (first | apply Kd.S_alloc | apply Kd.S_drewN | apply Kd.S_drew)); exact HO438.out) hb); have n1_ := Aside0.mk (Kd.V_elder' (by (with_reducible repeat (first | apply Kd.V_alloc | apply Kd.V_drewN | apply Kd.V_drew)); exact HO446.out) (Kd.R_base ho0) hb); have n2_ := Aside0.mk (Kd.R_lower ho0 (below_size (by repeat (first | (with_reducible first | exact HB.out | apply below_alloc | apply pw_below_drewN | apply below_drew1 | refine below_set ?_ GE435.out) | exact HB.out)))); have n3_ := Aside0.mk (blk_below (g := gb435) (o := .cells #[.slice Ao15 t436.length co15, .string t439, .string t440, .string t441, .int .u64 t442, .int .i64 t443] 25 (0, 0)) (by (with_reducible repeat (first | refine blk_drewN ?_ _ | refine blk_drew ?_ | refine blk_alloc ?_ _)); exact BK435.out) hb); have n4_ := Aside0.mk (below_step (by repeat (first | (with_reducible first | exact HB.out | apply below_alloc | apply pw_below_drewN | apply below_drew1 | refine below_set ?_ GE435.out) | exact HB.out)) hb); clear HO438; clear HO446; clear BK435; clear HB; have HO438 := n0_; have HO446 := n1_; have HO455 := n2_; have BK435 := n3_; have HB := n4_; clear n0_ n1_ n2_ n3_ n4_; (try clear hb); (try clear hb2); (try clear hk); (try clear hi); (try clear ho0); obtain ⟨Ao22, co22, eo22⟩ := Kd.V_slice HO446.out; subst eo22; obtain ⟨Ao23, co23, eo23⟩ := Kd.R_slice HO455.out; subst eo23) | ((with_reducible refine gate_callee (f := 24) rfl ?_); refine goesL_ (some 67) rfl rfl Try.func24 (by kernel_rfl) rfl #[.slice Ao22 t444.length co22, .slice Ao23 t451.length co23] rfl (by (try simp only [List.map_toArray, List.map_cons, List.map_nil]); first | done | rfl | (simp only [List.length_drop, List.length_take]; rfl)) ?_; (with_reducible refine (cellarerref07_Same.calls k _ _ t444 _ _ t451 true _ ?side1 ?side2 ?side3 ?side4 A7.out).mono ?_); (case side1 => repeat (first | exact (Kd.V_reads' HO446.out).2.2 | (with_reducible refine Kd.C_alloc ?_ _) | (with_reducible refine Kd.C_drewN ?_ _) | (with_reducible refine Kd.C_drew ?_))); (case side2 => exact (Kd.V_reads' HO446.out).2.1); (case side3 => repeat (first | exact (Kd.R_reads' HO455.out).2.2 | (with_reducible refine Kd.C_alloc ?_ _) | (with_reducible refine Kd.C_drewN ?_ _) | (with_reducible refine Kd.C_drew ?_))); (case side4 => exact (Kd.R_reads' HO455.out).2.1); rintro e w' ⟨rfl, ⟨nd, rfl⟩⟩; refine ⟨_, rfl, ?_⟩) | (go_at_call 14; (with_reducible refine (cellarerlaw07_awake.calls  t457 _ A11.out).mono ?_); rintro e w24 ⟨rfl, hb⟩; have n0_ := Aside0.mk (Kd.S_below (by (with_reducible repeat (first | apply Kd.S_alloc | apply Kd.S_drewN | apply Kd.S_drew)); exact HO438.out) hb); have n1_ := Aside0.mk (Kd.V_below (by (with_reducible repeat (first | apply Kd.V_alloc | apply Kd.V_drewN | apply Kd.V_drew)); exact HO446.out) hb); have n2_ := Aside0.mk (Kd.R_below (by (with_reducible repeat (first | apply Kd.R_alloc | apply Kd.R_drewN | apply Kd.R_drew)); exact HO455.out) hb); have n3_ := Aside0.mk (blk_below (g := gb435) (o := .cells #[.slice Ao15 t436.length co15, .string t439, .string t440, .string t441, .int .u64 t442, .int .i64 t443] 25 (0, 0)) (by (with_reducible repeat (first | refine blk_drewN ?_ _ | refine blk_drew ?_ | refine blk_alloc ?_ _)); exact BK435.out) hb); have n4_ := Aside0.mk (below_step (by repeat (first | (with_reducible first | exact HB.out | apply below_alloc | apply pw_below_drewN | apply below_drew1 | refine below_set ?_ GE435.out) | exact HB.out)) hb); clear HO438; clear HO446; clear HO455; clear BK435; clear HB; have HO438 := n0_; have HO446 := n1_; have HO455 := n2_; have BK435 := n3_; have HB := n4_; clear n0_ n1_ n2_ n3_ n4_; (try clear hb); (try clear hb2); (try clear hk); (try clear hi)))
     go_ret
     exact ⟨by first | rfl | (simp [errW_none, errW_some] <;> rfl) | (simp [*, errW_none, errW_some] <;> rfl), by repeat (first | (with_reducible first | exact HB.out | apply below_alloc | apply pw_below_drewN | apply below_drew1 | refine below_set ?_ GE435.out) | exact HB.out)⟩
    ·rw [if_neg c10] at H
     have c10b0 : (t448 == t453) = false := beq_eq_false_iff_ne.mpr c10
     have c10b1 : (t448 != t453) = true := bne_iff_ne.mpr c10
     obtain rfl := Option.some.inj H
     exact absurd HTR_.out (by decide)
   ·rw [if_neg c9] at H
    have c9b0 : (t447 == t452) = false := by simpa using c9
    (try (have c9b1 : decide (t447 = t452) = false := by simpa using c9))
    (try (have c9b2 : (t447 == t452) = false := by simpa using c9))
    (try (have c9b3 : ¬ (t447 = t452) := by simpa using c9))
    clear c9
    obtain rfl := Option.some.inj H
    exact absurd HTR_.out (by decide)
  ·replace c8 := Bool.eq_false_iff.mpr c8
   subst c8
   have H1 : (some false) = some r := by rw [if_neg (show ¬ (false = true) by decide)] at H; exact H
   clear H
   have H := H1
   clear H1
   obtain rfl := Option.some.inj H
   exact absurd HTR_.out (by decide)
 ·replace c5 := Bool.eq_false_iff.mpr c5
  subst c5
  have H1 : (if (t444.length : Int) = 0 then (if t447 = true then (some false) else (if t448 = 1 then ((cellarerlaw07_awake.f).bind fun t450 => (some t450)) else (some false))) else (some false)) = some r := by rw [if_neg (show ¬ (false = true) by decide)] at H; exact H
  clear H
  have H := H1
  clear H1
  by_cases c61 : (t444.length : Int) = 0
  ·rw [if_pos c61] at H
   have c61b0 : ((t444.length : Int) == 0) = true := beq_iff_eq.mpr c61
   have c61b1 : ((t444.length : Int) != 0) = false := bne_eq_false_iff_eq.mpr c61
   clear c61
   by_cases c62 : t447 = true
   ·subst c62
    have H1 : (some false) = some r := by rw [if_pos rfl] at H; exact H
    clear H
    have H := H1
    clear H1
    obtain rfl := Option.some.inj H
    exact absurd HTR_.out (by decide)
   ·replace c62 := Bool.eq_false_iff.mpr c62
    subst c62
    have H1 : (if t448 = 1 then ((cellarerlaw07_awake.f).bind fun t450 => (some t450)) else (some false)) = some r := by rw [if_neg (show ¬ (false = true) by decide)] at H; exact H
    clear H
    have H := H1
    clear H1
    by_cases c72 : t448 = 1
    ·rw [if_pos c72] at H
     have c72b0 : (t448 == 1) = true := beq_iff_eq.mpr c72
     have c72b1 : (t448 != 1) = false := bne_eq_false_iff_eq.mpr c72
     clear c72
     replace H := Option.bind_eq_some_iff.mp H
     obtain ⟨t450, A730, H⟩ := H
     replace H : (some t450) = some r := H
     have A73 := Aside0.mk A730
     clear A730
     obtain rfl := Option.some.inj H
     go_enter Try.func8, Try.ntmps8
     go_wp2_with (first | ((with_reducible refine gate_dst (N := 1) rfl ?_); refine box_event ?hg (N := 1) ?hd (cs := #[.slice A0_0 l0_0.length c0_0, .string a0_1, .string a0_2, .string a0_3, .int .u64 a0_4, .int .i64 a0_5]) (t := 25) ?hr ?_; (case hd => rfl); (case hg => rfl); (case hr => first | (go_simp; done) | (go_simp; rfl)); intro gb435 hg w74 hbox hb; have n0_ := Aside0.mk (below_step (by repeat (first | (with_reducible first | exact HB.out | apply below_alloc | apply pw_below_drewN | apply below_drew1) | exact HB.out)) hb); have n1_ := Aside0.mk (hbox); have n2_ := Aside0.mk ((by rw [hg]; exact (below_size (by repeat (first | (with_reducible first | exact HB.out | apply below_alloc | apply pw_below_drewN | apply below_drew1) | exact HB.out))) : w.heap.size ≤ gb435)); have n3_ := Aside0.mk ((by rw [hg]; exact (below_size (by repeat (first | (with_reducible first | exact HB.out | apply below_alloc | apply pw_below_drewN | apply below_drew1) | exact HB.out))) : w.heap.size ≤ gb435)); clear HB; have HB := n0_; have BK435 := n1_; have GW435 := n2_; have GE435 := n3_; clear n0_ n1_ n2_ n3_; clear hb hbox hg; have hcz75_0 : w74.cell? ⟨gb435, 0, none⟩ = some (.slice A0_0 l0_0.length c0_0) := (blk_cell BK435.out 0).trans rfl; have hcz75_1 : w74.cell? ⟨gb435, 1, none⟩ = some (.string a0_1) := (blk_cell BK435.out 1).trans rfl; have hcz75_2 : w74.cell? ⟨gb435, 2, none⟩ = some (.string a0_2) := (blk_cell BK435.out 2).trans rfl; have hcz75_3 : w74.cell? ⟨gb435, 3, none⟩ = some (.string a0_3) := (blk_cell BK435.out 3).trans rfl; have hcz75_4 : w74.cell? ⟨gb435, 4, none⟩ = some (.int .u64 a0_4) := (blk_cell BK435.out 4).trans rfl; have hcz75_5 : w74.cell? ⟨gb435, 5, none⟩ = some (.int .i64 a0_5) := (blk_cell BK435.out 5).trans rfl; have hfz75_0 := blk_frozen BK435.out 0; have hfz75_1 := blk_frozen BK435.out 1; have hfz75_2 := blk_frozen BK435.out 2; have hfz75_3 := blk_frozen BK435.out 3; have hfz75_4 := blk_frozen BK435.out 4; have hfz75_5 := blk_frozen BK435.out 5) | ((with_reducible refine gate_callee (f := 10) rfl ?_); refine goesL_ (some 10) rfl rfl Try.func10 (by kernel_rfl) rfl #[.agg #[.slice A0_0 l0_0.length c0_0, .string a0_1, .string a0_2, .string a0_3, .int .u64 a0_4, .int .i64 a0_5]] rfl (by (try simp only [List.map_toArray, List.map_cons, List.map_nil]); first | done | rfl | (simp only [List.length_drop, List.length_take]; rfl)) ?_; (with_reducible refine (cellarerlaw07_cut.calls k _ _ l0_0 a0_1 a0_2 a0_3 a0_4 a0_5 t436 t439 t440 t441 t442 t443 _ ?side1 ?side2 A2.out).mono ?_); (case side1 => repeat (first | exact (Kd.C_below HR0_0.out HB.out) | (with_reducible refine Kd.C_alloc ?_ _) | (with_reducible refine Kd.C_drewN ?_ _) | (with_reducible refine Kd.C_drew ?_))); (case side2 => exact HC0_0.out); rintro e w76 ⟨v437, rfl, ho0, hb⟩; refine ⟨_, rfl, ?_⟩; have n0_ := Aside0.mk (Kd.S_lower ho0 (below_size (by repeat (first | (with_reducible first | exact HB.out | apply below_alloc | apply pw_below_drewN | apply below_drew1 | refine below_set ?_ GE435.out) | exact HB.out)))); have n1_ := Aside0.mk (blk_below (g := gb435) (o := .cells #[.slice A0_0 l0_0.length c0_0, .string a0_1, .string a0_2, .string a0_3, .int .u64 a0_4, .int .i64 a0_5] 25 (0, 0)) (by (with_reducible repeat (first | refine blk_drewN ?_ _ | refine blk_drew ?_ | refine blk_alloc ?_ _)); exact BK435.out) hb); have n2_ := Aside0.mk (below_step (by repeat (first | (with_reducible first | exact HB.out | apply below_alloc | apply pw_below_drewN | apply below_drew1 | refine below_set ?_ GE435.out) | exact HB.out)) hb); clear BK435; clear HB; have HO438 := n0_; have BK435 := n1_; have HB := n2_; clear n0_ n1_ n2_; (try clear hb); (try clear hb2); (try clear hk); (try clear hi); (try clear ho0); obtain ⟨Ao77, co77, eo77⟩ := Kd.S_slice HO438.out; subst eo77; have hcz78_0 : w76.cell? ⟨gb435, 0, none⟩ = some (.slice A0_0 l0_0.length c0_0) := (blk_cell BK435.out 0).trans rfl; have hcz78_1 : w76.cell? ⟨gb435, 1, none⟩ = some (.string a0_1) := (blk_cell BK435.out 1).trans rfl; have hcz78_2 : w76.cell? ⟨gb435, 2, none⟩ = some (.string a0_2) := (blk_cell BK435.out 2).trans rfl; have hcz78_3 : w76.cell? ⟨gb435, 3, none⟩ = some (.string a0_3) := (blk_cell BK435.out 3).trans rfl; have hcz78_4 : w76.cell? ⟨gb435, 4, none⟩ = some (.int .u64 a0_4) := (blk_cell BK435.out 4).trans rfl; have hcz78_5 : w76.cell? ⟨gb435, 5, none⟩ = some (.int .i64 a0_5) := (blk_cell BK435.out 5).trans rfl; have hfz78_0 := blk_frozen BK435.out 0; have hfz78_1 := blk_frozen BK435.out 1; have hfz78_2 := blk_frozen BK435.out 2; have hfz78_3 := blk_frozen BK435.out 3; have hfz78_4 := blk_frozen BK435.out 4; have hfz78_5 := blk_frozen BK435.out 5) | ((with_reducible refine gate_callee (f := 22) rfl ?_); refine goesL_ (some 22) rfl rfl Try.func22 (by kernel_rfl) rfl #[.slice Ao77 t436.length co77, .string t439, .string t441, .int .u64 t442, .int .i64 t443] rfl (by (try simp only [List.map_toArray, List.map_cons, List.map_nil]); first | done | rfl | (simp only [List.length_drop, List.length_take]; rfl)) ?_; (with_reducible refine (pager_Rows.calls k _ _ t436 t439 t441 t442 t443 t444 false t448 _ ?side1 ?side2 A3.out).mono ?_); (case side1 => refine (Kd.S_reads' (e := 50) (base := w.heap.size) (ok := fun k_ => True) (n := t436.length) (c := co77) ?_).2.2; exact (by (with_reducible repeat (first | apply Kd.S_alloc | apply Kd.S_drewN | apply Kd.S_drew)); exact (Kd.S_mono (Kd.S_far (p := ⟨gb435, 5, none⟩) (Kd.S_far (p := ⟨gb435, 4, none⟩) (Kd.S_far (p := ⟨gb435, 3, none⟩) (Kd.S_far (p := ⟨gb435, 2, none⟩) (Kd.S_far (p := ⟨gb435, 1, none⟩) (Kd.S_far (p := ⟨gb435, 0, none⟩) (Kd.S_types HO438.out BK435.out (by decide)) (fun _ hk => hk.2) (.slice Ao77 t436.length co77)) (fun _ hk => hk.2) (.string t439)) (fun _ hk => hk.2) (.string t440)) (fun _ hk => hk.2) (.string t441)) (fun _ hk => hk.2) (.int .u64 t442)) (fun _ hk => hk.2) (.int .i64 t443)) (fun _ h_ => h_.1)))); (case side2 => exact (Kd.S_reads' HO438.out).2.1); rintro e w79 ⟨v445, rfl, ho0, hb⟩; refine ⟨_, rfl, ?_⟩; have n0_ := Aside0.mk (Kd.S_below (by (with_reducible repeat (first | apply Kd.S_alloc | apply Kd.S_drewN | apply Kd.S_drew)); exact (Kd.S_mono (Kd.S_far (p := ⟨gb435, 5, none⟩) (Kd.S_far (p := ⟨gb435, 4, none⟩) (Kd.S_far (p := ⟨gb435, 3, none⟩) (Kd.S_far (p := ⟨gb435, 2, none⟩) (Kd.S_far (p := ⟨gb435, 1, none⟩) (Kd.S_far (p := ⟨gb435, 0, none⟩) (Kd.S_types HO438.out BK435.out (by decide)) (fun _ hk => hk.2) (.slice Ao77 t436.length co77)) (fun _ hk => hk.2) (.string t439)) (fun _ hk => hk.2) (.string t440)) (fun _ hk => hk.2) (.string t441)) (fun _ hk => hk.2) (.int .u64 t442)) (fun _ hk => hk.2) (.int .i64 t443)) (fun _ h_ => h_.1))) hb); have n1_ := Aside0.mk (Kd.V_lower (Kd.V_mono (ok' := fun k_ => some k_ ≠ (.slice Ao77 t436.length co77 : Value).ownBlock ∧ k_ ≠ gb435) ho0 (fun k_ hk_ => ⟨(Kd.fresh' (Kd.S_lt (by (with_reducible repeat (first | apply Kd.S_alloc | apply Kd.S_drewN | apply Kd.S_drew)); exact (Kd.S_mono (Kd.S_far (p := ⟨gb435, 5, none⟩) (Kd.S_far (p := ⟨gb435, 4, none⟩) (Kd.S_far (p := ⟨gb435, 3, none⟩) (Kd.S_far (p := ⟨gb435, 2, none⟩) (Kd.S_far (p := ⟨gb435, 1, none⟩) (Kd.S_far (p := ⟨gb435, 0, none⟩) (Kd.S_types HO438.out BK435.out (by decide)) (fun _ hk => hk.2) (.slice Ao77 t436.length co77)) (fun _ hk => hk.2) (.string t439)) (fun _ hk => hk.2) (.string t440)) (fun _ hk => hk.2) (.string t441)) (fun _ hk => hk.2) (.int .u64 t442)) (fun _ hk => hk.2) (.int .i64 t443)) (fun _ h_ => h_.1)))) k_ hk_), (Kd.freshB (g := gb435) (o := .cells #[.slice Ao77 t436.length co77, .string t439, .string t440, .string t441, .int .u64 t442, .int .i64 t443] 25 (0, 0)) (by (with_reducible repeat (first | refine blk_drewN ?_ _ | refine blk_drew ?_ | refine blk_alloc ?_ _)); refine blk_put (cs := #[.slice Ao77 t436.length co77, .string t439, .string t440, .string t441, .int .u64 t442, .int .i64 a0_5]) ?_ 5 _ rfl; (with_reducible repeat (first | refine blk_drewN ?_ _ | refine blk_drew ?_ | refine blk_alloc ?_ _)); refine blk_put (cs := #[.slice Ao77 t436.length co77, .string t439, .string t440, .string t441, .int .u64 a0_4, .int .i64 a0_5]) ?_ 4 _ rfl; (with_reducible repeat (first | refine blk_drewN ?_ _ | refine blk_drew ?_ | refine blk_alloc ?_ _)); refine blk_put (cs := #[.slice Ao77 t436.length co77, .string t439, .string t440, .string a0_3, .int .u64 a0_4, .int .i64 a0_5]) ?_ 3 _ rfl; (with_reducible repeat (first | refine blk_drewN ?_ _ | refine blk_drew ?_ | refine blk_alloc ?_ _)); refine blk_put (cs := #[.slice Ao77 t436.length co77, .string t439, .string a0_2, .string a0_3, .int .u64 a0_4, .int .i64 a0_5]) ?_ 2 _ rfl; (with_reducible repeat (first | refine blk_drewN ?_ _ | refine blk_drew ?_ | refine blk_alloc ?_ _)); refine blk_put (cs := #[.slice Ao77 t436.length co77, .string a0_1, .string a0_2, .string a0_3, .int .u64 a0_4, .int .i64 a0_5]) ?_ 1 _ rfl; (with_reducible repeat (first | refine blk_drewN ?_ _ | refine blk_drew ?_ | refine blk_alloc ?_ _)); refine blk_put (cs := #[.slice A0_0 l0_0.length c0_0, .string a0_1, .string a0_2, .string a0_3, .int .u64 a0_4, .int .i64 a0_5]) ?_ 0 _ rfl; (with_reducible repeat (first | refine blk_drewN ?_ _ | refine blk_drew ?_ | refine blk_alloc ?_ _)); exact BK435.out) k_ hk_)⟩)) (below_size (by repeat (first | (with_reducible first | exact HB.out | apply below_alloc | apply pw_below_drewN | apply below_drew1 | refine below_set ?_ GE435.out) | exact HB.out)))); have n2_ := Aside0.mk (blk_below (g := gb435) (o := .cells #[.slice Ao77 t436.length co77, .string t439, .string t440, .string t441, .int .u64 t442, .int .i64 t443] 25 (0, 0)) (by (with_reducible repeat (first | refine blk_drewN ?_ _ | refine blk_drew ?_ | refine blk_alloc ?_ _)); refine blk_put (cs := #[.slice Ao77 t436.length co77, .string t439, .string t440, .string t441, .int .u64 t442, .int .i64 a0_5]) ?_ 5 _ rfl; (with_reducible repeat (first | refine blk_drewN ?_ _ | refine blk_drew ?_ | refine blk_alloc ?_ _)); refine blk_put (cs := #[.slice Ao77 t436.length co77, .string t439, .string t440, .string t441, .int .u64 a0_4, .int .i64 a0_5]) ?_ 4 _ rfl; (with_reducible repeat (first | refine blk_drewN ?_ _ | refine blk_drew ?_ | refine blk_alloc ?_ _)); refine blk_put (cs := #[.slice Ao77 t436.length co77, .string t439, .string t440, .string a0_3, .int .u64 a0_4, .int .i64 a0_5]) ?_ 3 _ rfl; (with_reducible repeat (first | refine blk_drewN ?_ _ | refine blk_drew ?_ | refine blk_alloc ?_ _)); refine blk_put (cs := #[.slice Ao77 t436.length co77, .string t439, .string a0_2, .string a0_3, .int .u64 a0_4, .int .i64 a0_5]) ?_ 2 _ rfl; (with_reducible repeat (first | refine blk_drewN ?_ _ | refine blk_drew ?_ | refine blk_alloc ?_ _)); refine blk_put (cs := #[.slice Ao77 t436.length co77, .string a0_1, .string a0_2, .string a0_3, .int .u64 a0_4, .int .i64 a0_5]) ?_ 1 _ rfl; (with_reducible repeat (first | refine blk_drewN ?_ _ | refine blk_drew ?_ | refine blk_alloc ?_ _)); refine blk_put (cs := #[.slice A0_0 l0_0.length c0_0, .string a0_1, .string a0_2, .string a0_3, .int .u64 a0_4, .int .i64 a0_5]) ?_ 0 _ rfl; (with_reducible repeat (first | refine blk_drewN ?_ _ | refine blk_drew ?_ | refine blk_alloc ?_ _)); exact BK435.out) hb); have n3_ := Aside0.mk (below_step (by repeat (first | (with_reducible first | exact HB.out | apply below_alloc | apply pw_below_drewN | apply below_drew1 | refine below_set ?_ GE435.out) | exact HB.out)) hb); clear HO438; clear BK435; clear HB; have HO438 := n0_; have HO446 := n1_; have BK435 := n2_; have HB := n3_; clear n0_ n1_ n2_ n3_; (try clear hb); (try clear hb2); (try clear hk); (try clear hi); (try clear ho0); have hcz80_0 : w79.cell? ⟨gb435, 0, none⟩ = some (.slice Ao77 t436.length co77) := (blk_cell BK435.out 0).trans rfl; have hcz80_1 : w79.cell? ⟨gb435, 1, none⟩ = some (.string t439) := (blk_cell BK435.out 1).trans rfl; have hcz80_2 : w79.cell? ⟨gb435, 2, none⟩ = some (.string t440) := (blk_cell BK435.out 2).trans rfl; have hcz80_3 : w79.cell? ⟨gb435, 3, none⟩ = some (.string t441) := (blk_cell BK435.out 3).trans rfl; have hcz80_4 : w79.cell? ⟨gb435, 4, none⟩ = some (.int .u64 t442) := (blk_cell BK435.out 4).trans rfl; have hcz80_5 : w79.cell? ⟨gb435, 5, none⟩ = some (.int .i64 t443) := (blk_cell BK435.out 5).trans rfl; have hfz80_0 := blk_frozen BK435.out 0; have hfz80_1 := blk_frozen BK435.out 1; have hfz80_2 := blk_frozen BK435.out 2; have hfz80_3 := blk_frozen BK435.out 3; have hfz80_4 := blk_frozen BK435.out 4; have hfz80_5 := blk_frozen BK435.out 5) | ((with_reducible refine gate_callee (f := 13) rfl ?_); refine goesL_ (some 34) rfl rfl Try.func13 (by kernel_rfl) rfl #[.slice Ao77 t436.length co77, .string t439, .string (⟨#[]⟩ : ByteArray), .string t441, .int .i64 t443] rfl (by (try simp only [List.map_toArray, List.map_cons, List.map_nil]); first | done | rfl | (simp only [List.length_drop, List.length_take]; rfl)) ?_; (with_reducible refine (cellarerref07_Asked.calls k _ _ t436 t439 (⟨#[]⟩ : ByteArray) t441 t443 false _ ?side1 ?side2 A4.out).mono ?_); (case side1 => repeat (first | exact (Kd.S_reads' HO438.out).2.2 | (with_reducible refine Kd.C_alloc ?_ _) | (with_reducible refine Kd.C_drewN ?_ _) | (with_reducible refine Kd.C_drew ?_))); (case side2 => exact (Kd.S_reads' HO438.out).2.1); rintro e w81 ⟨rfl, hb⟩; refine ⟨_, rfl, ?_⟩; have n0_ := Aside0.mk (Kd.S_below (by (with_reducible repeat (first | apply Kd.S_alloc | apply Kd.S_drewN | apply Kd.S_drew)); exact HO438.out) hb); have n1_ := Aside0.mk (Kd.V_below (by (with_reducible repeat (first | apply Kd.V_alloc | apply Kd.V_drewN | apply Kd.V_drew)); exact HO446.out) hb); have n2_ := Aside0.mk (blk_below (g := gb435) (o := .cells #[.slice Ao77 t436.length co77, .string t439, .string t440, .string t441, .int .u64 t442, .int .i64 t443] 25 (0, 0)) (by (with_reducible repeat (first | refine blk_drewN ?_ _ | refine blk_drew ?_ | refine blk_alloc ?_ _)); exact BK435.out) hb); have n3_ := Aside0.mk (below_step (by repeat (first | (with_reducible first | exact HB.out | apply below_alloc | apply pw_below_drewN | apply below_drew1 | refine below_set ?_ GE435.out) | exact HB.out)) hb); clear HO438; clear HO446; clear BK435; clear HB; have HO438 := n0_; have HO446 := n1_; have BK435 := n2_; have HB := n3_; clear n0_ n1_ n2_ n3_; (try clear hb); (try clear hb2); (try clear hk); (try clear hi); obtain ⟨Ao82, co82, eo82⟩ := Kd.V_slice HO446.out; subst eo82) | (go_at_call 14; (with_reducible refine (cellarerlaw07_awake.calls  t450 _ A73.out).mono ?_); rintro e w83 ⟨rfl, hb⟩; have n0_ := Aside0.mk (Kd.S_below (by (with_reducible repeat (first | apply Kd.S_alloc | apply Kd.S_drewN | apply Kd.S_drew)); exact HO438.out) hb); have n1_ := Aside0.mk (Kd.V_below (by (with_reducible repeat (first | apply Kd.V_alloc | apply Kd.V_drewN | apply Kd.V_drew)); exact HO446.out) hb); have n2_ := Aside0.mk (blk_below (g := gb435) (o := .cells #[.slice Ao77 t436.length co77, .string t439, .string t440, .string t441, .int .u64 t442, .int .i64 t443] 25 (0, 0)) (by (with_reducible repeat (first | refine blk_drewN ?_ _ | refine blk_drew ?_ | refine blk_alloc ?_ _)); exact BK435.out) hb); have n3_ := Aside0.mk (below_step (by repeat (first | (with_reducible first | exact HB.out | apply below_alloc | apply pw_below_drewN | apply below_drew1 | refine below_set ?_ GE435.out) | exact HB.out)) hb); clear HO438; clear HO446; clear BK435; clear HB; have HO438 := n0_; have HO446 := n1_; have BK435 := n2_; have HB := n3_; clear n0_ n1_ n2_ n3_; (try clear hb); (try clear hb2); (try clear hk); (try clear hi)))
     go_ret
     exact ⟨by first | rfl | (simp [errW_none, errW_some] <;> rfl) | (simp [*, errW_none, errW_some] <;> rfl), by repeat (first | (with_reducible first | exact HB.out | apply below_alloc | apply pw_below_drewN | apply below_drew1 | refine below_set ?_ GE435.out) | exact HB.out)⟩
    ·rw [if_neg c72] at H
     have c72b0 : (t448 == 1) = false := beq_eq_false_iff_ne.mpr c72
     have c72b1 : (t448 != 1) = true := bne_iff_ne.mpr c72
     obtain rfl := Option.some.inj H
     exact absurd HTR_.out (by decide)
  ·rw [if_neg c61] at H
   have c61b0 : ((t444.length : Int) == 0) = false := beq_eq_false_iff_ne.mpr c61
   have c61b1 : ((t444.length : Int) != 0) = true := bne_iff_ne.mpr c61
   have c61b2 : ¬ (t444 = []) := fun h_ => c61 (by rw [h_]; rfl)
   obtain rfl := Option.some.inj H
   exact absurd HTR_.out (by decide)
/-- THE ONE PURE STATEMENT of cellarerlaw07_PagerRows. -/
-- GIVEN cellarerlaw07_PagerRows.Pure
def cellarerlaw07_PagerRows.Pure : Prop := ∀ (l0_0 : List (S50)) (a0_1 : ByteArray) (a0_2 : ByteArray) (a0_3 : ByteArray) (a0_4 : Int) (a0_5 : Int), okS25 (⟨l0_0, a0_1, a0_2, a0_3, a0_4, a0_5⟩ : S25) → ∃ k, cellarerlaw07_PagerRows.f k l0_0 a0_1 a0_2 a0_3 a0_4 a0_5 = some true

/-! ### cellarerref06_Many: function 25 -/
def cellarerref06_Many.l0 : Nat → List (S50) → Int → Int → Option (Int)
  | 0, _, _, _ => none
  | k + 1, x0, x3, x4 => if x4 < (x0.length : Int) then (if 0 ≤ x4 then (cellarerref06_Many.l0 k x0 (wrap64 (x3 + (((rd_T50 x0 x4).f1).length : Int))) (wrap64 (x4 + 1))) else (none)) else (some x3)
def cellarerref06_Many.f (k : Nat) (l0 : List (S50)) : Option (Int) := cellarerref06_Many.l0 k l0 0 0
theorem cellarerref06_Many.mono_l : ∀ k, (∀ y0 y1 y2, LeO (cellarerref06_Many.l0 k y0 y1 y2) (cellarerref06_Many.l0 (k + 1) y0 y1 y2))
  | 0 => fun _ _ _ r h => by simp [cellarerref06_Many.l0] at h
  | k + 1 => by
    have ih0 := cellarerref06_Many.mono_l k
    · intro y0 y1 y2
      unfold cellarerref06_Many.l0
      repeat' first
      | (with_reducible exact ih0 _ _ _)
      | (with_reducible exact LeO.refl _)
      | (with_reducible exact LeO.none _)
      | (with_reducible refine LeO.ite ?_ ?_)
      | (with_reducible refine LeO.bind ?_ (fun _ => ?_))
      | exact ih0 _ _ _
      | exact LeO.none _
      | refine LeO.ite ?_ ?_
      | refine LeO.bind ?_ (fun _ => ?_)
theorem cellarerref06_Many.mono : ∀ a0 k, LeO (cellarerref06_Many.f k a0) (cellarerref06_Many.f (k + 1) a0) := by
  intro a0 k
  have ih0 := cellarerref06_Many.mono_l k
  unfold cellarerref06_Many.f
  repeat' first
      | (with_reducible exact ih0 _ _ _)
      | (with_reducible exact LeO.refl _)
      | (with_reducible exact LeO.none _)
      | (with_reducible refine LeO.ite ?_ ?_)
      | (with_reducible refine LeO.bind ?_ (fun _ => ?_))
      | exact ih0 _ _ _
      | exact LeO.none _
      | refine LeO.ite ?_ ?_
      | refine LeO.bind ?_ (fun _ => ?_)
set_option maxHeartbeats 8000000 in
set_option maxRecDepth 100000 in
theorem cellarerref06_Many.calls (k : Nat) (A0 : Option Addr) (c0 : Nat) (l0 : List (S50)) (r : Int) (w : World) (hr0 : Kd.C k50 w A0 l0.length l0) (hc0 : l0.length ≤ c0) (h : cellarerref06_Many.f k l0 = some r) :
    Calls Try.prog 25 #[.slice A0 l0.length c0] w fun e w' => e = .returned (.int .i64 r) ∧ Drawn0 w w' := by
  have HR0 := Aside0.mk hr0
  have HC0 := Aside0.mk hc0
  clear hr0 hc0
  have H : (cellarerref06_Many.l0 k l0 0 0) = some r := h
  clear h
  have H' := Aside0.mk H
  clear H
  go_enter Try.func25, Try.ntmps25
  go_wp2
  go_loopg [3, 4] k (fun kq v3 v4 w' => ∃ (x3_1 : Int) (x4_1 : Int), v3 = .int .i64 x3_1 ∧ v4 = .int .i64 x4_1 ∧ Aside0 (cellarerref06_Many.l0 kq l0 x3_1 x4_1 = some r) ∧ Aside0 (kq ≤ k) ∧ Drawn0 w w')
  case atStart => exact ⟨(0), (0), (by first | rfl | (simp; done) | (simp [*]; done)), (by first | rfl | (simp; done) | (simp [*]; done)), H', ⟨Nat.le_refl _⟩, by repeat (first | exact Drawn0.refl _ | apply Drawn0.step)⟩
  case round =>
    clear H'
    obtain ⟨x3_1, x4_1, rfl, rfl, HA, HK1, ⟨m1, rfl⟩⟩ := hrel
    cases gk with
    | zero => exact absurd HA.out (by simp [cellarerref06_Many.l0])
    | succ k1 =>
      have H := HA.out
      clear HA
      simp only [cellarerref06_Many.l0] at H
      by_cases c2 : x4_1 < (l0.length : Int)
      · rw [if_pos c2] at H
        have c2b0 : decide (x4_1 < (l0.length : Int)) = true := decide_eq_true c2
        clear c2
        by_cases c3 : 0 ≤ x4_1
        · rw [if_pos c3] at H
          have c3b0 : decide (0 ≤ x4_1) = true := decide_eq_true c3
          clear c3
          have H' := Aside0.mk H
          clear H
          have p458 : 0 ≤ (x4_1 : Int) := of_decide_eq_true (by first | (with_reducible assumption) | assumption)
          have q458 : x4_1 < (l0.length : Int) := of_decide_eq_true (by first | (with_reducible assumption) | assumption)
          obtain ⟨ad458, A458_1, c458_1, e458, hx458_0, hx458_1, hl458_1, hi458_1⟩ := at_T50 HR0.out x4_1 p458 q458
          cases e458
          have HR458_1 := Aside0.mk hi458_1
          have HC458_1 := Aside0.mk hl458_1
          clear hi458_1 hl458_1
          replace p458 := eq_true p458
          replace q458 := eq_true q458
          go_wp2
          go_roundg k1
          case measure => have := HK1.out; omega
          case rel => exact ⟨(wrap64 (x3_1 + (((rd_T50 l0 x4_1).f1).length : Int))), (wrap64 (x4_1 + 1)), (by first | rfl | (simp; done) | (simp [*]; done)), (by first | rfl | (simp; done) | (simp [*]; done)), H', ⟨by have := HK1.out; omega⟩, by repeat (first | exact Drawn0.refl _ | apply Drawn0.step)⟩
        · rw [if_neg c3] at H
          exact absurd H (by simp)
      · rw [if_neg c2] at H
        have c2b0 : decide (x4_1 < (l0.length : Int)) = false := decide_eq_false c2
        clear c2
        obtain rfl := Option.some.inj H
        go_wp2
        go_ret
        exact ⟨by first | rfl | (simp; done) | (simp [*]; done), by repeat (first | exact Drawn0.refl _ | apply Drawn0.step)⟩

-- NOT PRINTED: function 9 (cellarerlaw07_PagerVersions)

end Go.Proofs.Ytcnnijkgiioniaa.P
