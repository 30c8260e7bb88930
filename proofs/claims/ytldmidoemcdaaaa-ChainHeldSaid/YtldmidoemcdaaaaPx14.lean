/- Printed by a program of this session (wip/tools/gprint.py, over the kit's print) out of the translation: functions and their contracts. -/
import Derived.Test.YtldmidoemcdaaaaPx0
import Derived.Test.YtldmidoemcdaaaaPx1
import Derived.Test.YtldmidoemcdaaaaPx2
import Derived.Test.YtldmidoemcdaaaaPx3
import Derived.Test.YtldmidoemcdaaaaPx11
import Derived.Test.YtldmidoemcdaaaaPxOpens
namespace Go.Proofs.Ytldmidoemcdaaaa.P
open Go.RowKit Go.Proofs.YtldmidoemcdaaaaW.PrintWords Go.Proofs.YtldmidoemcdaaaaW.PrintLast Go.Proofs.YtldmidoemcdaaaaW.PrintMore
attribute [local go_sem] max2_int min2_int max_two min_two max_three min_three max_four min_four   -- for this text's walks alone
set_option linter.unusedVariables false
set_option linter.unusedSimpArgs false

attribute [local go_sem high] eqA25
/-! ### cellarerlaw05_ChainHeld: function 5 -/
mutual
def cellarerlaw05_ChainHeld.j0 : Nat → List (S25) → List (S25) → Bool → Option (Bool)
  | 0, _, _, _ => none
  | k + 1, x0, x5, x37 => if x37 = true then (some false) else (cellarerlaw05_ChainHeld.l0 k x0 x5 1 0)
def cellarerlaw05_ChainHeld.l0 : Nat → List (S25) → List (S25) → Int → Int → Option (Bool)
  | 0, _, _, _, _ => none
  | k + 1, x0, x5, x7, x8 => if x8 < (x0.length : Int) then (if 0 ≤ x8 then (if ((rd_T25 x0 x8).f0) = 0 then (cellarerlaw05_ChainHeld.l0 k x0 x5 x7 (wrap64 (x8 + 1))) else (if x7 ≥ (x5.length : Int) then (some false) else (if 0 ≤ x7 then (if x7 < (x5.length : Int) then (if (!(((rd_T25 x5 x7).f0) == ((rd_T25 x0 x8).f0)) || (!((((rd_T25 x5 x7).f1).toList) == (((rd_T25 x0 x8).f1).toList)) || (!(((rd_T25 x5 x7).f2) == ((rd_T25 x0 x8).f2)) || (!(((rd_T25 x5 x7).f3) == ((rd_T25 x0 x8).f3)))))) = true then (some false) else (cellarerlaw05_ChainHeld.l0 k x0 x5 (wrap64 (x7 + 1)) (wrap64 (x8 + 1)))) else (none)) else (none)))) else (none)) else (if x7 = (x5.length : Int) then ((cellarerlaw05_awake.f).bind fun t264 => (some t264)) else (some false))
end
def cellarerlaw05_ChainHeld.f (k : Nat) (l0 : List (S25)) (a1_0 : Int) (a1_1 : ByteArray) (a1_2 : Bool) (a1_3 : Int) : Option (Bool) := (cellarerlaw05_Few.f k l0).bind fun t251 => ((cellarerlaw05_One.f a1_0 a1_1 a1_2 a1_3).bind fun bt254 => ((chain_Put.f t251 2 bt254.1 bt254.2.1 bt254.2.2.1 bt254.2.2.2).bind fun bt258 => (if bt258.2 = 0 then (if (bt258.1.length : Int) = 0 then (cellarerlaw05_ChainHeld.j0 k t251 bt258.1 true) else (if 0 < (bt258.1.length : Int) then (cellarerlaw05_ChainHeld.j0 k t251 bt258.1 (!(((rd_T25 bt258.1 0).f0) == 0) || (!((((rd_T25 bt258.1 0).f1).toList) == bt254.2.1.toList) || (!(((rd_T25 bt258.1 0).f2) == bt254.2.2.1) || (!(((rd_T25 bt258.1 0).f3) == bt254.2.2.2)))))) else (none))) else (if (bt258.1.length : Int) = 0 then ((cellarerlaw05_awake.f).bind fun t262 => (some t262)) else (some false)))))
theorem cellarerlaw05_ChainHeld.mono_l : ∀ k, (∀ y0 y1 y2, LeO (cellarerlaw05_ChainHeld.j0 k y0 y1 y2) (cellarerlaw05_ChainHeld.j0 (k + 1) y0 y1 y2)) ∧ (∀ y0 y1 y2 y3, LeO (cellarerlaw05_ChainHeld.l0 k y0 y1 y2 y3) (cellarerlaw05_ChainHeld.l0 (k + 1) y0 y1 y2 y3))
  | 0 => ⟨fun _ _ _ r h => by simp [cellarerlaw05_ChainHeld.j0] at h, fun _ _ _ _ r h => by simp [cellarerlaw05_ChainHeld.l0] at h⟩
  | k + 1 => by
    obtain ⟨ih0, ih1⟩ := cellarerlaw05_ChainHeld.mono_l k
    refine ⟨?_, ?_⟩
    · intro y0 y1 y2
      unfold cellarerlaw05_ChainHeld.j0
      repeat' first
      | (with_reducible exact ih0 _ _ _)
      | (with_reducible exact ih1 _ _ _ _)
      | (with_reducible exact cellarerlaw05_Few.mono _ _)
      | (with_reducible exact LeO.refl _)
      | (with_reducible exact LeO.none _)
      | (with_reducible refine LeO.ite ?_ ?_)
      | (with_reducible refine LeO.bind ?_ (fun _ => ?_))
      | exact ih0 _ _ _
      | exact ih1 _ _ _ _
      | exact cellarerlaw05_Few.mono _ _
      | exact LeO.none _
      | refine LeO.ite ?_ ?_
      | refine LeO.bind ?_ (fun _ => ?_)
    · intro y0 y1 y2 y3
      unfold cellarerlaw05_ChainHeld.l0
      repeat' first
      | (with_reducible exact ih0 _ _ _)
      | (with_reducible exact ih1 _ _ _ _)
      | (with_reducible exact cellarerlaw05_Few.mono _ _)
      | (with_reducible exact LeO.refl _)
      | (with_reducible exact LeO.none _)
      | (with_reducible refine LeO.ite ?_ ?_)
      | (with_reducible refine LeO.bind ?_ (fun _ => ?_))
      | exact ih0 _ _ _
      | exact ih1 _ _ _ _
      | exact cellarerlaw05_Few.mono _ _
      | exact LeO.none _
      | refine LeO.ite ?_ ?_
      | refine LeO.bind ?_ (fun _ => ?_)
theorem cellarerlaw05_ChainHeld.mono : ∀ a0 a1 a2 a3 a4 k, LeO (cellarerlaw05_ChainHeld.f k a0 a1 a2 a3 a4) (cellarerlaw05_ChainHeld.f (k + 1) a0 a1 a2 a3 a4) := by
  intro a0 a1 a2 a3 a4 k
  obtain ⟨ih0, ih1⟩ := cellarerlaw05_ChainHeld.mono_l k
  unfold cellarerlaw05_ChainHeld.f
  repeat' first
      | (with_reducible exact ih0 _ _ _)
      | (with_reducible exact ih1 _ _ _ _)
      | (with_reducible exact cellarerlaw05_Few.mono _ _)
      | (with_reducible exact LeO.refl _)
      | (with_reducible exact LeO.none _)
      | (with_reducible refine LeO.ite ?_ ?_)
      | (with_reducible refine LeO.bind ?_ (fun _ => ?_))
      | exact ih0 _ _ _
      | exact ih1 _ _ _ _
      | exact cellarerlaw05_Few.mono _ _
      | exact LeO.none _
      | refine LeO.ite ?_ ?_
      | refine LeO.bind ?_ (fun _ => ?_)
def cellarerlaw05_ChainHeld.T6 : Bool × List (List Nat × List Nat) := (true, [([], []), ([0], [0]), ([1], [1]), ([2], [2]), ([3], [3]), ([4, 3], [3, 4]), ([5, 3], [3, 5]), ([3], [3]), ([6, 7, 3], [3, 6, 7]), ([3, 8], [3, 8])])
def cellarerlaw05_ChainHeld.B6 : List Nat := [0, 1, 3, 7, 15, 31, 63, 15, 255, 511]
theorem cellarerlaw05_ChainHeld.tab6 : rtab .any (opsOf Try.f5 6) = cellarerlaw05_ChainHeld.T6 := by kernel_rfl
theorem cellarerlaw05_ChainHeld.bits6 : waitsOk cellarerlaw05_ChainHeld.T6.2 cellarerlaw05_ChainHeld.B6 = true := by kernel_rfl
def cellarerlaw05_ChainHeld.T13 : Bool × List (List Nat × List Nat) := (true, [([], []), ([], []), ([1], [1]), ([0, 2], [0, 2]), ([3], [3]), ([4], [4]), ([4], [4]), ([5, 6, 4], [4, 5, 6]), ([7, 4], [4, 7]), ([4], [4]), ([4], [4]), ([9, 10, 4], [4, 9, 10]), ([11, 4], [4, 11]), ([8, 12, 4], [4, 8, 12]), ([4, 13], [4, 13])])
def cellarerlaw05_ChainHeld.B13 : List Nat := [0, 0, 2, 7, 15, 31, 31, 127, 255, 31, 31, 1567, 3615, 8191, 16383]
theorem cellarerlaw05_ChainHeld.tab13 : rtab .any (opsOf Try.f5 13) = cellarerlaw05_ChainHeld.T13 := by kernel_rfl
theorem cellarerlaw05_ChainHeld.bits13 : waitsOk cellarerlaw05_ChainHeld.T13.2 cellarerlaw05_ChainHeld.B13 = true := by kernel_rfl
def cellarerlaw05_ChainHeld.bs (n m : Nat) : Array Bool := ((List.range n).map fun i => m.testBit i).toArray
set_option maxHeartbeats 8000000 in
set_option maxRecDepth 100000 in
theorem cellarerlaw05_ChainHeld.calls (k : Nat) (A0 : Option Addr) (c0 : Nat) (l0 : List (S25)) (a1_0 : Int) (a1_1 : ByteArray) (a1_2 : Bool) (a1_3 : Int) (r : Bool) (w : World) (hr0 : Kd.C k25 w A0 l0.length l0) (hc0 : l0.length ≤ c0) (h : cellarerlaw05_ChainHeld.f k l0 a1_0 a1_1 a1_2 a1_3 = some r) :
  Calls Try.prog 5 #[.slice A0 l0.length c0, .agg #[.int .u64 a1_0, .string a1_1, .bool a1_2, .int .i64 a1_3]] w fun e w' => e = .returned (.bool r) ∧ Below w.heap.size w w' := by
 have hu25 := Try.underlying25
 have HR0 := Aside0.mk hr0
 have HC0 := Aside0.mk hc0
 clear hr0 hc0
 have HB := Aside0.mk (Below.refl w.heap.size w)
 have H : ((cellarerlaw05_Few.f k l0).bind fun t251 => ((cellarerlaw05_One.f a1_0 a1_1 a1_2 a1_3).bind fun bt254 => ((chain_Put.f t251 2 bt254.1 bt254.2.1 bt254.2.2.1 bt254.2.2.2).bind fun bt258 => (if bt258.2 = 0 then (if (bt258.1.length : Int) = 0 then (cellarerlaw05_ChainHeld.j0 k t251 bt258.1 true) else (if 0 < (bt258.1.length : Int) then (cellarerlaw05_ChainHeld.j0 k t251 bt258.1 (!(((rd_T25 bt258.1 0).f0) == 0) || (!((((rd_T25 bt258.1 0).f1).toList) == bt254.2.1.toList) || (!(((rd_T25 bt258.1 0).f2) == bt254.2.2.1) || (!(((rd_T25 bt258.1 0).f3) == bt254.2.2.2)))))) else (none))) else (if (bt258.1.length : Int) = 0 then ((cellarerlaw05_awake.f).bind fun t262 => (some t262)) else (some false)))))) = some r := h
 clear h
 replace H := Option.bind_eq_some_iff.mp H
 obtain ⟨t251, A30, H⟩ := H
 replace H : ((cellarerlaw05_One.f a1_0 a1_1 a1_2 a1_3).bind fun bt254 => ((chain_Put.f t251 2 bt254.1 bt254.2.1 bt254.2.2.1 bt254.2.2.2).bind fun bt258 => (if bt258.2 = 0 then (if (bt258.1.length : Int) = 0 then (cellarerlaw05_ChainHeld.j0 k t251 bt258.1 true) else (if 0 < (bt258.1.length : Int) then (cellarerlaw05_ChainHeld.j0 k t251 bt258.1 (!(((rd_T25 bt258.1 0).f0) == 0) || (!((((rd_T25 bt258.1 0).f1).toList) == bt254.2.1.toList) || (!(((rd_T25 bt258.1 0).f2) == bt254.2.2.1) || (!(((rd_T25 bt258.1 0).f3) == bt254.2.2.2)))))) else (none))) else (if (bt258.1.length : Int) = 0 then ((cellarerlaw05_awake.f).bind fun t262 => (some t262)) else (some false))))) = some r := H
 have A3 := Aside0.mk A30
 clear A30
 replace H := Option.bind_eq_some_iff.mp H
 obtain ⟨⟨t254, t255, t256, t257⟩, A40, H⟩ := H
 replace H : ((chain_Put.f t251 2 t254 t255 t256 t257).bind fun bt258 => (if bt258.2 = 0 then (if (bt258.1.length : Int) = 0 then (cellarerlaw05_ChainHeld.j0 k t251 bt258.1 true) else (if 0 < (bt258.1.length : Int) then (cellarerlaw05_ChainHeld.j0 k t251 bt258.1 (!(((rd_T25 bt258.1 0).f0) == 0) || (!((((rd_T25 bt258.1 0).f1).toList) == t255.toList) || (!(((rd_T25 bt258.1 0).f2) == t256) || (!(((rd_T25 bt258.1 0).f3) == t257)))))) else (none))) else (if (bt258.1.length : Int) = 0 then ((cellarerlaw05_awake.f).bind fun t262 => (some t262)) else (some false)))) = some r := H
 have A4 := Aside0.mk A40
 clear A40
 replace H := Option.bind_eq_some_iff.mp H
 obtain ⟨⟨t258, t261⟩, A50, H⟩ := H
 replace H : (if t261 = 0 then (if (t258.length : Int) = 0 then (cellarerlaw05_ChainHeld.j0 k t251 t258 true) else (if 0 < (t258.length : Int) then (cellarerlaw05_ChainHeld.j0 k t251 t258 (!(((rd_T25 t258 0).f0) == 0) || (!((((rd_T25 t258 0).f1).toList) == t255.toList) || (!(((rd_T25 t258 0).f2) == t256) || (!(((rd_T25 t258 0).f3) == t257)))))) else (none))) else (if (t258.length : Int) = 0 then ((cellarerlaw05_awake.f).bind fun t262 => (some t262)) else (some false))) = some r := H
 have A5 := Aside0.mk A50
 clear A50
 by_cases c6 : t261 = 0
 ·rw [if_pos c6] at H
  have c6b0 : (t261 == 0) = true := beq_iff_eq.mpr c6
  have c6b1 : (t261 != 0) = false := bne_eq_false_iff_eq.mpr c6
  clear c6
  have HC7 := Aside0.mk H
  clear H
  go_enter Try.func5, Try.ntmps5
  try go_wp2_with (first | ((with_reducible refine gate_dst (N := 3) rfl ?_); refine box_event ?hg (N := 3) ?hd (cs := #[.int .u64 a1_0, .string a1_1, .bool a1_2, .int .i64 a1_3]) (t := 25) ?hr ?_; (case hd => rfl); (case hg => rfl); (case hr => first | (go_simp; done) | (go_simp; rfl)); intro gb250 hg w8 hbox hb; have n0_ := Aside0.mk (below_step (by repeat (first | (with_reducible first | exact HB.out | apply below_alloc | apply pw_below_drewN | apply below_drew1) | exact HB.out)) hb); have n1_ := Aside0.mk (hbox); have n2_ := Aside0.mk ((by rw [hg]; exact (below_size (by repeat (first | (with_reducible first | exact HB.out | apply below_alloc | apply pw_below_drewN | apply below_drew1) | exact HB.out))) : w.heap.size ≤ gb250)); have n3_ := Aside0.mk ((by rw [hg]; exact (below_size (by repeat (first | (with_reducible first | exact HB.out | apply below_alloc | apply pw_below_drewN | apply below_drew1) | exact HB.out))) : w.heap.size ≤ gb250)); clear HB; have HB := n0_; have BK250 := n1_; have GW250 := n2_; have GE250 := n3_; clear n0_ n1_ n2_ n3_; clear hb hbox hg))
  have n0_ := Aside0.mk (blk_drew BK250.out)
  have n1_ := Aside0.mk (below_drew1 HB.out)
  clear BK250
  clear HB
  have BK250 := n0_
  have HB := n1_
  clear n0_ n1_
  refine start_ (n := 6) (S := fun w' => w'.cell? ⟨gb250, 0, none⟩ = some (.int .u64 a1_0) ∧ w'.cell? ⟨gb250, 1, none⟩ = some (.string a1_1) ∧ w'.cell? ⟨gb250, 2, none⟩ = some (.bool a1_2) ∧ w'.cell? ⟨gb250, 3, none⟩ = some (.int .i64 a1_3)) (ds := [5]) #[false, false, false, false, false, false] (by kernel_rfl) rfl rfl ⟨(blk_cell BK250.out 0).trans rfl, (blk_cell BK250.out 1).trans rfl, (blk_cell BK250.out 2).trans rfl, (blk_cell BK250.out 3).trans rfl⟩ (fun hHeld => ?_)
  generalize w8.drew = w9 at BK250 HB hHeld ⊢
  refine pure_ (i := 0) (N := some 9) (v := ?_) (a' := ?_) #[true, false, false, false, false, false] rfl rfl (by kernel_rfl) (fun _ _ _ h => h) (Or.inl ⟨by rfl, ?_⟩) ?_ ?_
  rotate_left
  ·intro w'
   go_simp
   with_reducible rfl
  rotate_left
  ·simp only [Act.put, List.setIfInBounds_toArray, List.set_cons_zero, List.set_cons_succ, i64_w, i32_w]
   rfl
  refine take_ (i := 2) (N := some 11) (v := ?_) (a' := ?_) #[true, false, true, false, false, false] rfl rfl (by kernel_rfl) (fun _ _ _ h => h) (Or.inl ⟨by rfl, ?_⟩) hHeld ?_ ?_
  rotate_left
  ·rintro w' ⟨s0, s1, s2, s3⟩
   go_simp
   with_reducible rfl
  rotate_left
  ·simp only [Act.put, List.setIfInBounds_toArray, List.set_cons_zero, List.set_cons_succ, i64_w, i32_w]
   rfl
  refine one_ (i := 1) (N := some 10) #[true, true, true, false, false, false] rfl rfl (by kernel_rfl) (by decide) (fun K hK => ?_)
  refine goes_ Try.func10 (by kernel_rfl) rfl #[.slice A0 l0.length c0] (by rfl) rfl rfl (by (try simp only [List.map_toArray, List.map_cons, List.map_nil]); first | done | rfl | (simp only [List.length_drop, List.length_take]; rfl)) ?_
  with_reducible refine (cellarerlaw05_Few.calls k _ _ l0 t251 _ ?side1 ?side2 A3.out).mono ?_
  (case side1 => repeat (first | exact (Kd.C_below HR0.out HB.out) | (with_reducible refine Kd.C_alloc ?_ _) | (with_reducible refine Kd.C_drewN ?_ _) | (with_reducible refine Kd.C_drew ?_)))
  (case side2 => exact HC0.out)
  rintro e w10 ⟨v252, rfl, ho0, hb⟩
  refine ⟨_, rfl, ?_⟩
  have n0_ := Aside0.mk (Kd.R_lower (Kd.R_newB ho0 (g := gb250) (o := .cells #[.int .u64 a1_0, .string a1_1, .bool a1_2, .int .i64 a1_3] 25 (0, 0)) (by (with_reducible repeat (first | refine blk_drewN ?_ _ | refine blk_drew ?_ | refine blk_alloc ?_ _)); exact BK250.out)) (below_size (by repeat (first | (with_reducible first | exact HB.out | apply below_alloc | apply pw_below_drewN | apply below_drew1 | refine below_set ?_ GE250.out) | exact HB.out))))
  have n1_ := Aside0.mk (blk_below (g := gb250) (o := .cells #[.int .u64 a1_0, .string a1_1, .bool a1_2, .int .i64 a1_3] 25 (0, 0)) (by (with_reducible repeat (first | refine blk_drewN ?_ _ | refine blk_drew ?_ | refine blk_alloc ?_ _)); exact BK250.out) hb)
  have n2_ := Aside0.mk (below_step (by repeat (first | (with_reducible first | exact HB.out | apply below_alloc | apply pw_below_drewN | apply below_drew1 | refine below_set ?_ GE250.out) | exact HB.out)) hb)
  clear BK250
  clear HB
  have HO253 := n0_
  have BK250 := n1_
  have HB := n2_
  clear n0_ n1_ n2_
  (try clear hb)
  (try clear hb2)
  (try clear hk)
  (try clear hi)
  (try clear ho0)
  refine hK.out _ _ ⟨(blk_cell BK250.out 0).trans rfl, (blk_cell BK250.out 1).trans rfl, (blk_cell BK250.out 2).trans rfl, (blk_cell BK250.out 3).trans rfl⟩ (fun hHeld => ?_)
  clear hK K
  refine norm_ (a' := ?_) ?_ ?_
  rotate_left
  ·show Act.put _ (some 10) _ = _
   simp only [Act.put, List.setIfInBounds_toArray, List.set_cons_zero, List.set_cons_succ, i64_w, i32_w]
   rfl
  refine one_ (i := 3) (N := some 12) #[true, true, true, true, false, false] rfl rfl (by kernel_rfl) (by decide) (fun K hK => ?_)
  refine goes_ Try.func11 (by kernel_rfl) rfl #[.agg #[.int .u64 a1_0, .string a1_1, .bool a1_2, .int .i64 a1_3]] (by rfl) rfl rfl (by (try simp only [List.map_toArray, List.map_cons, List.map_nil]); first | done | rfl | (simp only [List.length_drop, List.length_take]; rfl)) ?_
  with_reducible refine (cellarerlaw05_One.calls a1_0 a1_1 a1_2 a1_3 t254 t255 t256 t257 _ A4.out).mono ?_
  rintro e w11 ⟨rfl, hb⟩
  refine ⟨_, rfl, ?_⟩
  have n0_ := Aside0.mk (Kd.R_below (by (with_reducible repeat (first | apply Kd.R_alloc | apply Kd.R_drewN | apply Kd.R_drew)); exact HO253.out) hb)
  have n1_ := Aside0.mk (blk_below (g := gb250) (o := .cells #[.int .u64 a1_0, .string a1_1, .bool a1_2, .int .i64 a1_3] 25 (0, 0)) (by (with_reducible repeat (first | refine blk_drewN ?_ _ | refine blk_drew ?_ | refine blk_alloc ?_ _)); exact BK250.out) hb)
  have n2_ := Aside0.mk (below_step (by repeat (first | (with_reducible first | exact HB.out | apply below_alloc | apply pw_below_drewN | apply below_drew1 | refine below_set ?_ GE250.out) | exact HB.out)) hb)
  clear HO253
  clear BK250
  clear HB
  have HO253 := n0_
  have BK250 := n1_
  have HB := n2_
  clear n0_ n1_ n2_
  (try clear hb)
  (try clear hb2)
  (try clear hk)
  (try clear hi)
  refine hK.out _ _ ⟨(blk_cell BK250.out 0).trans rfl, (blk_cell BK250.out 1).trans rfl, (blk_cell BK250.out 2).trans rfl, (blk_cell BK250.out 3).trans rfl⟩ (fun hHeld => ?_)
  clear hK K
  refine norm_ (a' := ?_) ?_ ?_
  rotate_left
  ·show Act.put _ (some 12) _ = _
   simp only [Act.put, List.setIfInBounds_toArray, List.set_cons_zero, List.set_cons_succ, i64_w, i32_w]
   rfl
  refine pure_ (i := 4) (N := some 0) (v := ?_) (a' := ?_) #[true, true, true, true, true, false] rfl rfl (by kernel_rfl) (fun _ _ _ h => h) (Or.inl ⟨by rfl, ?_⟩) ?_ ?_
  rotate_left
  ·intro w'
   go_simp
   with_reducible rfl
  rotate_left
  ·simp only [Act.put, List.setIfInBounds_toArray, List.set_cons_zero, List.set_cons_succ, i64_w, i32_w]
   rfl
  refine last_ (i := 5) (N := none) #[true, true, true, true, true, true] rfl rfl (by kernel_rfl) (by decide) (fun K hK => ?_)
  have hs12 : w11.cell? ⟨gb250, 0, none⟩ = some (.int .u64 a1_0) := (blk_cell BK250.out 0).trans rfl
  have hfs12 := blk_frozen BK250.out 0
  have hs13 : w11.cell? ⟨gb250, 1, none⟩ = some (.string a1_1) := (blk_cell BK250.out 1).trans rfl
  have hfs13 := blk_frozen BK250.out 1
  have hs14 : w11.cell? ⟨gb250, 2, none⟩ = some (.bool a1_2) := (blk_cell BK250.out 2).trans rfl
  have hfs14 := blk_frozen BK250.out 2
  have hs15 : w11.cell? ⟨gb250, 3, none⟩ = some (.int .i64 a1_3) := (blk_cell BK250.out 3).trans rfl
  have hfs15 := blk_frozen BK250.out 3
  refine skip_ (w1 := ?_) (by rfl) rfl ?_ ?_
  rotate_left
  ·go_simp
   rfl
  refine hK.out _ _ ?_
  clear hK K
  refine done_ (by kernel_rfl) ?_
  have hcz16_0 : w11.cell? ⟨gb250, 0, none⟩ = some (.int .u64 a1_0) := (blk_cell BK250.out 0).trans rfl
  have hcz16_1 : w11.cell? ⟨gb250, 1, none⟩ = some (.string a1_1) := (blk_cell BK250.out 1).trans rfl
  have hcz16_2 : w11.cell? ⟨gb250, 2, none⟩ = some (.bool a1_2) := (blk_cell BK250.out 2).trans rfl
  have hcz16_3 : w11.cell? ⟨gb250, 3, none⟩ = some (.int .i64 a1_3) := (blk_cell BK250.out 3).trans rfl
  have hfz16_0 := blk_frozen BK250.out 0
  have hfz16_1 := blk_frozen BK250.out 1
  have hfz16_2 := blk_frozen BK250.out 2
  have hfz16_3 := blk_frozen BK250.out 3
  obtain ⟨Ao17, co17, eo17⟩ := Kd.R_slice HO253.out
  subst eo17
  go_upto_region 6 with (first | ((with_reducible refine gate_callee (f := 12) rfl ?_); refine goesL_ (some 16) rfl rfl Try.func12 (by kernel_rfl) rfl #[.slice Ao17 t251.length co17, .int .i64 2, .agg #[.int .u64 t254, .string t255, .bool t256, .int .i64 t257]] rfl (by (try simp only [List.map_toArray, List.map_cons, List.map_nil]); first | done | rfl | (simp only [List.length_drop, List.length_take]; rfl)) ?_; (with_reducible refine (chain_Put.calls _ _ t251 2 t254 t255 t256 t257 t258 t261 _ ?side1 ?side2 A5.out).mono ?_); (case side1 => refine (Kd.R_reads' (e := 25) (base := w.heap.size) (ok := fun k_ => (True ∧ k_ ≠ gb250)) (n := t251.length) (c := co17) ?_).2.2; exact (by (with_reducible repeat (first | apply Kd.R_alloc | apply Kd.R_drewN | apply Kd.R_drew)); exact (Kd.R_mono (Kd.R_far (p := ⟨gb250, 3, none⟩) (Kd.R_far (p := ⟨gb250, 2, none⟩) (Kd.R_far (p := ⟨gb250, 1, none⟩) (Kd.R_far (p := ⟨gb250, 0, none⟩) (Kd.R_mono HO253.out (fun k_ hk => (⟨hk, hk.2⟩ : _ ∧ k_ ≠ gb250))) (fun _ hk => hk.2) (.int .u64 t254)) (fun _ hk => hk.2) (.string t255)) (fun _ hk => hk.2) (.bool t256)) (fun _ hk => hk.2) (.int .i64 t257)) (fun _ h_ => h_.1)))); (case side2 => exact (Kd.R_reads' HO253.out).2.1); rintro e w18 ⟨v259, rfl, ho0, hb⟩; refine ⟨_, rfl, ?_⟩; have n0_ := Aside0.mk (Kd.R_elder' (by (with_reducible repeat (first | apply Kd.R_alloc | apply Kd.R_drewN | apply Kd.R_drew)); exact (Kd.R_mono (Kd.R_far (p := ⟨gb250, 3, none⟩) (Kd.R_far (p := ⟨gb250, 2, none⟩) (Kd.R_far (p := ⟨gb250, 1, none⟩) (Kd.R_far (p := ⟨gb250, 0, none⟩) (Kd.R_mono HO253.out (fun k_ hk => (⟨hk, hk.2⟩ : _ ∧ k_ ≠ gb250))) (fun _ hk => hk.2) (.int .u64 t254)) (fun _ hk => hk.2) (.string t255)) (fun _ hk => hk.2) (.bool t256)) (fun _ hk => hk.2) (.int .i64 t257)) (fun _ h_ => h_.1))) (Kd.R_base ho0) hb); have n1_ := Aside0.mk (Kd.R_lower (Kd.R_newB (Kd.R_new' ho0 (Kd.R_lt (by (with_reducible repeat (first | apply Kd.R_alloc | apply Kd.R_drewN | apply Kd.R_drew)); exact (Kd.R_mono (Kd.R_far (p := ⟨gb250, 3, none⟩) (Kd.R_far (p := ⟨gb250, 2, none⟩) (Kd.R_far (p := ⟨gb250, 1, none⟩) (Kd.R_far (p := ⟨gb250, 0, none⟩) (Kd.R_mono HO253.out (fun k_ hk => (⟨hk, hk.2⟩ : _ ∧ k_ ≠ gb250))) (fun _ hk => hk.2) (.int .u64 t254)) (fun _ hk => hk.2) (.string t255)) (fun _ hk => hk.2) (.bool t256)) (fun _ hk => hk.2) (.int .i64 t257)) (fun _ h_ => h_.1))))) (g := gb250) (o := .cells #[.int .u64 t254, .string t255, .bool t256, .int .i64 t257] 25 (0, 0)) (by (with_reducible repeat (first | refine blk_drewN ?_ _ | refine blk_drew ?_ | refine blk_alloc ?_ _)); refine blk_put (cs := #[.int .u64 t254, .string t255, .bool t256, .int .i64 a1_3]) ?_ 3 _ rfl; (with_reducible repeat (first | refine blk_drewN ?_ _ | refine blk_drew ?_ | refine blk_alloc ?_ _)); refine blk_put (cs := #[.int .u64 t254, .string t255, .bool a1_2, .int .i64 a1_3]) ?_ 2 _ rfl; (with_reducible repeat (first | refine blk_drewN ?_ _ | refine blk_drew ?_ | refine blk_alloc ?_ _)); refine blk_put (cs := #[.int .u64 t254, .string a1_1, .bool a1_2, .int .i64 a1_3]) ?_ 1 _ rfl; (with_reducible repeat (first | refine blk_drewN ?_ _ | refine blk_drew ?_ | refine blk_alloc ?_ _)); refine blk_put (cs := #[.int .u64 a1_0, .string a1_1, .bool a1_2, .int .i64 a1_3]) ?_ 0 _ rfl; (with_reducible repeat (first | refine blk_drewN ?_ _ | refine blk_drew ?_ | refine blk_alloc ?_ _)); exact BK250.out)) (below_size (by repeat (first | (with_reducible first | exact HB.out | apply below_alloc | apply pw_below_drewN | apply below_drew1 | refine below_set ?_ GE250.out) | exact HB.out)))); have n2_ := Aside0.mk (blk_below (g := gb250) (o := .cells #[.int .u64 t254, .string t255, .bool t256, .int .i64 t257] 25 (0, 0)) (by (with_reducible repeat (first | refine blk_drewN ?_ _ | refine blk_drew ?_ | refine blk_alloc ?_ _)); refine blk_put (cs := #[.int .u64 t254, .string t255, .bool t256, .int .i64 a1_3]) ?_ 3 _ rfl; (with_reducible repeat (first | refine blk_drewN ?_ _ | refine blk_drew ?_ | refine blk_alloc ?_ _)); refine blk_put (cs := #[.int .u64 t254, .string t255, .bool a1_2, .int .i64 a1_3]) ?_ 2 _ rfl; (with_reducible repeat (first | refine blk_drewN ?_ _ | refine blk_drew ?_ | refine blk_alloc ?_ _)); refine blk_put (cs := #[.int .u64 t254, .string a1_1, .bool a1_2, .int .i64 a1_3]) ?_ 1 _ rfl; (with_reducible repeat (first | refine blk_drewN ?_ _ | refine blk_drew ?_ | refine blk_alloc ?_ _)); refine blk_put (cs := #[.int .u64 a1_0, .string a1_1, .bool a1_2, .int .i64 a1_3]) ?_ 0 _ rfl; (with_reducible repeat (first | refine blk_drewN ?_ _ | refine blk_drew ?_ | refine blk_alloc ?_ _)); exact BK250.out) hb); have n3_ := Aside0.mk (below_step (by repeat (first | (with_reducible first | exact HB.out | apply below_alloc | apply pw_below_drewN | apply below_drew1 | refine below_set ?_ GE250.out) | exact HB.out)) hb); clear HO253; clear BK250; clear HB; have HO253 := n0_; have HO260 := n1_; have BK250 := n2_; have HB := n3_; clear n0_ n1_ n2_ n3_; (try clear hb); (try clear hb2); (try clear hk); (try clear hi); (try clear ho0); have hcz19_0 : w18.cell? ⟨gb250, 0, none⟩ = some (.int .u64 t254) := (blk_cell BK250.out 0).trans rfl; have hcz19_1 : w18.cell? ⟨gb250, 1, none⟩ = some (.string t255) := (blk_cell BK250.out 1).trans rfl; have hcz19_2 : w18.cell? ⟨gb250, 2, none⟩ = some (.bool t256) := (blk_cell BK250.out 2).trans rfl; have hcz19_3 : w18.cell? ⟨gb250, 3, none⟩ = some (.int .i64 t257) := (blk_cell BK250.out 3).trans rfl; have hfz19_0 := blk_frozen BK250.out 0; have hfz19_1 := blk_frozen BK250.out 1; have hfz19_2 := blk_frozen BK250.out 2; have hfz19_3 := blk_frozen BK250.out 3))
  (try simp only [Act.put, List.setIfInBounds_toArray, List.set_cons_zero, List.set_cons_succ])
  go_cut [37] (fun v37 wc => ∃ (kq : Nat) (x37_6 : Bool), v37 = .bool x37_6 ∧ Aside0 (cellarerlaw05_ChainHeld.j0 kq t251 t258 x37_6 = some r) ∧ Aside0 (kq ≤ k) ∧ Aside0 (Kd.R k25 25 wc w.heap.size (fun k_ => some k_ ≠ (v259 : Value).ownBlock ∧ k_ ≠ gb250) (.slice Ao17 t251.length co17) t251) ∧ Aside0 (Kd.R k25 25 wc w.heap.size (fun k_ => some k_ ≠ ((.slice Ao17 t251.length co17) : Value).ownBlock ∧ k_ ≠ gb250) v259 t258) ∧ Aside0 (wc.heap[gb250]? = some (.cells #[.int .u64 0, .string t255, .bool t256, .int .i64 t257] 25 (0, 0))) ∧ Aside0 (Below w.heap.size w wc))
  case first =>
   have H := HC7.out
   clear HC7
   by_cases c20 : (t258.length : Int) = 0
   ·rw [if_pos c20] at H
    have c20b0 : ((t258.length : Int) == 0) = true := beq_iff_eq.mpr c20
    have c20b1 : ((t258.length : Int) != 0) = false := bne_eq_false_iff_eq.mpr c20
    clear c20
    (first | rw [c20b0] | rw [c20b1] | (simp only [i64_w, i32_w]; rw [c20b0]) | skip)
    have H' := Aside0.mk H
    clear H
    try go_wp2
    have n0_ : Aside0 (Kd.R k25 25 (w18.setCell ⟨gb250, 0, none⟩ (.int .u64 0)) w.heap.size (fun k_ => some k_ ≠ (v259 : Value).ownBlock ∧ k_ ≠ gb250) (.slice Ao17 t251.length co17) t251) := ⟨by (with_reducible repeat (first | apply Kd.R_alloc | apply Kd.R_drewN | apply Kd.R_drew)); exact Kd.R_mono (Kd.R_far (p := ⟨gb250, 0, none⟩) (Kd.R_mono HO253.out (fun k_ hk => (⟨hk, hk.1.2⟩ : _ ∧ k_ ≠ gb250))) (fun _ hk => hk.2) (.int .u64 0)) (fun _ hk => ⟨hk.1.2, hk.1.1.2⟩)⟩
    have n1_ : Aside0 (Kd.R k25 25 (w18.setCell ⟨gb250, 0, none⟩ (.int .u64 0)) w.heap.size (fun k_ => some k_ ≠ (.slice Ao17 t251.length co17 : Value).ownBlock ∧ k_ ≠ gb250) v259 t258) := ⟨by (with_reducible repeat (first | apply Kd.R_alloc | apply Kd.R_drewN | apply Kd.R_drew)); exact Kd.R_mono (Kd.R_far (p := ⟨gb250, 0, none⟩) (Kd.R_mono HO260.out (fun k_ hk => (⟨hk, hk.2⟩ : _ ∧ k_ ≠ gb250))) (fun _ hk => hk.2) (.int .u64 0)) (fun _ hk => ⟨hk.1.1.2, hk.1.2⟩)⟩
    have n2_ : Aside0 ((w18.setCell ⟨gb250, 0, none⟩ (.int .u64 0)).heap[gb250]? = some (.cells #[.int .u64 0, .string t255, .bool t256, .int .i64 t257] 25 (0, 0))) := ⟨by (with_reducible repeat (first | refine blk_drewN ?_ _ | refine blk_drew ?_ | refine blk_alloc ?_ _)); refine blk_put (cs := #[.int .u64 t254, .string t255, .bool t256, .int .i64 t257]) ?_ 0 _ rfl; (with_reducible repeat (first | refine blk_drewN ?_ _ | refine blk_drew ?_ | refine blk_alloc ?_ _)); exact BK250.out⟩
    have n3_ : Aside0 (Below w.heap.size w (w18.setCell ⟨gb250, 0, none⟩ (.int .u64 0))) := ⟨by repeat (first | (with_reducible first | exact HB.out | apply below_alloc | apply pw_below_drewN | apply below_drew1 | refine below_set ?_ GE250.out) | exact HB.out)⟩
    (try clear HO253)
    (try clear HO260)
    (try clear BK250)
    (try clear HB)
    generalize (w18.setCell ⟨gb250, 0, none⟩ (.int .u64 0)) = w21 at n0_ n1_ n2_ n3_ ⊢
    have HO253 := n0_
    have HO260 := n1_
    have BK250 := n2_
    have HB := n3_
    clear n0_ n1_ n2_ n3_
    have n0_ := Aside0.mk (Kd.R_drew HO253.out)
    have n1_ := Aside0.mk (Kd.R_drew HO260.out)
    have n2_ := Aside0.mk (blk_drew BK250.out)
    have n3_ := Aside0.mk (below_drew1 HB.out)
    clear HO253
    clear HO260
    clear BK250
    clear HB
    have HO253 := n0_
    have HO260 := n1_
    have BK250 := n2_
    have HB := n3_
    clear n0_ n1_ n2_ n3_
    obtain ⟨Ao23, co23, eo23⟩ := Kd.R_slice HO260.out
    (first | subst eo23 | (injection eo23 with f1_ f2_ f3_; have f4_ := f1_.symm; have f5_ := f3_.symm; clear f1_ f2_ f3_; subst f4_; subst f5_))
    refine start_ (n := 10) (S := fun w' => True) (ds := []) #[false, false, false, false, false, false, false, false, false, false] (by kernel_rfl) rfl rfl trivial (fun hHeld => ?_); refine with_tabW cellarerlaw05_ChainHeld.tab6 cellarerlaw05_ChainHeld.bits6 (fun HT_ HW_ => ?_)
    generalize w21.drew = w22 at HO253 HO260 BK250 HB hHeld ⊢
    refine pure_ (i := 0) (N := some 28) (v := ?_) (a' := ?_) (cellarerlaw05_ChainHeld.bs 10 1) rfl rfl (any_of HT_.out (by kernel_rfl)) (fun _ _ _ h => h) (Or.inl ⟨by rfl, ?_⟩) ?_ ?_
    rotate_left
    ·intro w'
     go_simp
     with_reducible rfl
    rotate_left
    ·simp only [Act.put, List.setIfInBounds_toArray, List.set_cons_zero, List.set_cons_succ, i64_w, i32_w]
     rfl
    refine pure_ (i := 1) (N := some 29) (v := ?_) (a' := ?_) (cellarerlaw05_ChainHeld.bs 10 3) rfl rfl (any_of HT_.out (by kernel_rfl)) (fun _ _ _ h => h) (Or.inl ⟨by rfl, ?_⟩) ?_ ?_
    rotate_left
    ·intro w'
     go_simp
     with_reducible rfl
    rotate_left
    ·simp only [Act.put, List.setIfInBounds_toArray, List.set_cons_zero, List.set_cons_succ, i64_w, i32_w]
     rfl
    refine pure_ (i := 2) (N := some 30) (v := ?_) (a' := ?_) (cellarerlaw05_ChainHeld.bs 10 7) rfl rfl (any_of HT_.out (by kernel_rfl)) (fun _ _ _ h => h) (Or.inl ⟨by rfl, ?_⟩) ?_ ?_
    rotate_left
    ·intro w'
     go_simp
     with_reducible rfl
    rotate_left
    ·simp only [Act.put, List.setIfInBounds_toArray, List.set_cons_zero, List.set_cons_succ, i64_w, i32_w]
     rfl
    refine pure_ (i := 3) (N := some 31) (v := ?_) (a' := ?_) (cellarerlaw05_ChainHeld.bs 10 15) rfl rfl (any_of HT_.out (by kernel_rfl)) (fun _ _ _ h => h) (Or.inl ⟨by rfl, ?_⟩) ?_ ?_
    rotate_left
    ·intro w'
     go_simp
     with_reducible rfl
    rotate_left
    ·simp only [Act.put, List.setIfInBounds_toArray, List.set_cons_zero, List.set_cons_succ, i64_w, i32_w]
     rfl
    refine pure_ (i := 4) (N := some 32) (v := undef) (a' := ?_) (cellarerlaw05_ChainHeld.bs 10 31) rfl rfl (any_of HT_.out (by kernel_rfl)) (fun _ _ _ h => h) (Or.inr ⟨by rfl, rfl⟩) ?_ ?_
    rotate_left
    ·simp only [Act.put, List.setIfInBounds_toArray, List.set_cons_zero, List.set_cons_succ, i64_w, i32_w]
     rfl
    refine pure_ (i := 5) (N := some 33) (v := undef) (a' := ?_) (cellarerlaw05_ChainHeld.bs 10 63) rfl rfl (any_of HT_.out (by kernel_rfl)) (fun _ _ _ h => h) (Or.inr ⟨by rfl, rfl⟩) ?_ ?_
    rotate_left
    ·simp only [Act.put, List.setIfInBounds_toArray, List.set_cons_zero, List.set_cons_succ, i64_w, i32_w]
     rfl
    refine pure_ (i := 6) (N := some 34) (v := undef) (a' := ?_) (cellarerlaw05_ChainHeld.bs 10 127) rfl rfl (any_of HT_.out (by kernel_rfl)) (fun _ _ _ h => h) (Or.inr ⟨by rfl, rfl⟩) ?_ ?_
    rotate_left
    ·simp only [Act.put, List.setIfInBounds_toArray, List.set_cons_zero, List.set_cons_succ, i64_w, i32_w]
     rfl
    refine pure_ (i := 7) (N := some 35) (v := undef) (a' := ?_) (cellarerlaw05_ChainHeld.bs 10 255) rfl rfl (any_of HT_.out (by kernel_rfl)) (fun _ _ _ h => h) (Or.inr ⟨by rfl, rfl⟩) ?_ ?_
    rotate_left
    ·simp only [Act.put, List.setIfInBounds_toArray, List.set_cons_zero, List.set_cons_succ, i64_w, i32_w]
     rfl
    refine pure_ (i := 8) (N := some 36) (v := undef) (a' := ?_) (cellarerlaw05_ChainHeld.bs 10 511) rfl rfl (any_of HT_.out (by kernel_rfl)) (fun _ _ _ h => h) (Or.inr ⟨by rfl, rfl⟩) ?_ ?_
    rotate_left
    ·simp only [Act.put, List.setIfInBounds_toArray, List.set_cons_zero, List.set_cons_succ, i64_w, i32_w]
     rfl
    refine pure_ (i := 9) (N := some 37) (v := ?_) (a' := ?_) (cellarerlaw05_ChainHeld.bs 10 1023) rfl rfl (any_of HT_.out (by kernel_rfl)) (fun _ _ _ h => h) (Or.inl ⟨by rfl, ?_⟩) ?_ ?_
    rotate_left
    ·intro w'
     go_simp
     with_reducible rfl
    rotate_left
    ·simp only [Act.put, List.setIfInBounds_toArray, List.set_cons_zero, List.set_cons_succ, i64_w, i32_w]
     rfl
    refine done_ (done_of HT_.out (by kernel_rfl)) ?_
    try go_wp2
    go_meet
    case rel => exact ⟨_, (true), (by first | rfl | (simp; done) | (simp [*]; done)), H', ⟨by first | omega | exact Nat.le_refl _⟩, ⟨by (with_reducible repeat (first | apply Kd.R_alloc | apply Kd.R_drewN | apply Kd.R_drew)); exact HO253.out⟩, ⟨by (with_reducible repeat (first | apply Kd.R_alloc | apply Kd.R_drewN | apply Kd.R_drew)); exact HO260.out⟩, ⟨by (with_reducible repeat (first | refine blk_drewN ?_ _ | refine blk_drew ?_ | refine blk_alloc ?_ _)); exact BK250.out⟩, ⟨by repeat (first | (with_reducible first | exact HB.out | apply below_alloc | apply pw_below_drewN | apply below_drew1 | refine below_set ?_ GE250.out) | exact HB.out)⟩⟩
   ·rw [if_neg c20] at H
    have c20b0 : ((t258.length : Int) == 0) = false := beq_eq_false_iff_ne.mpr c20
    have c20b1 : ((t258.length : Int) != 0) = true := bne_iff_ne.mpr c20
    have c20b2 : ¬ (t258 = []) := fun h_ => c20 (by rw [h_]; rfl)
    (first | rw [c20b0] | rw [c20b1] | (simp only [i64_w, i32_w]; rw [c20b0]) | skip)
    by_cases c24 : 0 < (t258.length : Int)
    ·rw [if_pos c24] at H
     have c24b0 : decide (0 < (t258.length : Int)) = true := decide_eq_true c24
     have c24b1 : decide (0 < t258.length) = true := decide_eq_true (by omega)
     clear c24
     have H' := Aside0.mk H
     clear H
     try go_wp2
     have n0_ : Aside0 (Kd.R k25 25 (w18.setCell ⟨gb250, 0, none⟩ (.int .u64 0)) w.heap.size (fun k_ => some k_ ≠ (v259 : Value).ownBlock ∧ k_ ≠ gb250) (.slice Ao17 t251.length co17) t251) := ⟨by (with_reducible repeat (first | apply Kd.R_alloc | apply Kd.R_drewN | apply Kd.R_drew)); exact Kd.R_mono (Kd.R_far (p := ⟨gb250, 0, none⟩) (Kd.R_mono HO253.out (fun k_ hk => (⟨hk, hk.1.2⟩ : _ ∧ k_ ≠ gb250))) (fun _ hk => hk.2) (.int .u64 0)) (fun _ hk => ⟨hk.1.2, hk.1.1.2⟩)⟩
     have n1_ : Aside0 (Kd.R k25 25 (w18.setCell ⟨gb250, 0, none⟩ (.int .u64 0)) w.heap.size (fun k_ => some k_ ≠ (.slice Ao17 t251.length co17 : Value).ownBlock ∧ k_ ≠ gb250) v259 t258) := ⟨by (with_reducible repeat (first | apply Kd.R_alloc | apply Kd.R_drewN | apply Kd.R_drew)); exact Kd.R_mono (Kd.R_far (p := ⟨gb250, 0, none⟩) (Kd.R_mono HO260.out (fun k_ hk => (⟨hk, hk.2⟩ : _ ∧ k_ ≠ gb250))) (fun _ hk => hk.2) (.int .u64 0)) (fun _ hk => ⟨hk.1.1.2, hk.1.2⟩)⟩
     have n2_ : Aside0 ((w18.setCell ⟨gb250, 0, none⟩ (.int .u64 0)).heap[gb250]? = some (.cells #[.int .u64 0, .string t255, .bool t256, .int .i64 t257] 25 (0, 0))) := ⟨by (with_reducible repeat (first | refine blk_drewN ?_ _ | refine blk_drew ?_ | refine blk_alloc ?_ _)); refine blk_put (cs := #[.int .u64 t254, .string t255, .bool t256, .int .i64 t257]) ?_ 0 _ rfl; (with_reducible repeat (first | refine blk_drewN ?_ _ | refine blk_drew ?_ | refine blk_alloc ?_ _)); exact BK250.out⟩
     have n3_ : Aside0 (Below w.heap.size w (w18.setCell ⟨gb250, 0, none⟩ (.int .u64 0))) := ⟨by repeat (first | (with_reducible first | exact HB.out | apply below_alloc | apply pw_below_drewN | apply below_drew1 | refine below_set ?_ GE250.out) | exact HB.out)⟩
     (try clear HO253)
     (try clear HO260)
     (try clear BK250)
     (try clear HB)
     generalize (w18.setCell ⟨gb250, 0, none⟩ (.int .u64 0)) = w25 at n0_ n1_ n2_ n3_ ⊢
     have HO253 := n0_
     have HO260 := n1_
     have BK250 := n2_
     have HB := n3_
     clear n0_ n1_ n2_ n3_
     have n0_ := Aside0.mk (Kd.R_drew HO253.out)
     have n1_ := Aside0.mk (Kd.R_drew HO260.out)
     have n2_ := Aside0.mk (blk_drew BK250.out)
     have n3_ := Aside0.mk (below_drew1 HB.out)
     clear HO253
     clear HO260
     clear BK250
     clear HB
     have HO253 := n0_
     have HO260 := n1_
     have BK250 := n2_
     have HB := n3_
     clear n0_ n1_ n2_ n3_
     obtain ⟨Ao27, co27, eo27⟩ := Kd.R_slice HO260.out
     (first | subst eo27 | (injection eo27 with f1_ f2_ f3_; have f4_ := f1_.symm; have f5_ := f3_.symm; clear f1_ f2_ f3_; subst f4_; subst f5_))
     have p263 : 0 ≤ (0 : Int) := (by omega)
     have q263 : 0 < (t258.length : Int) := of_decide_eq_true (by first | (with_reducible assumption) | assumption)
     obtain ⟨ad263, e263, hx263_0, hx263_1, hx263_2, hx263_3⟩ := at_T25 (Kd.R_reads' HO260.out).2.2 0 p263 q263
     cases e263
     have qi263 : (0 < t258.length) = True := eq_true (by omega)
     (try rw [show ((0 : Int)).toNat = 0 from rfl] at hx263_0)
     (try rw [show 0 * 4 = 0 from rfl] at hx263_0)
     (try rw [Addr.add_zero'] at hx263_0)
     (try rw [show ((0 : Int)).toNat = 0 from rfl] at hx263_1)
     (try rw [show 0 * 4 = 0 from rfl] at hx263_1)
     (try rw [Addr.add_zero'] at hx263_1)
     (try rw [show ((0 : Int)).toNat = 0 from rfl] at hx263_2)
     (try rw [show 0 * 4 = 0 from rfl] at hx263_2)
     (try rw [Addr.add_zero'] at hx263_2)
     (try rw [show ((0 : Int)).toNat = 0 from rfl] at hx263_3)
     (try rw [show 0 * 4 = 0 from rfl] at hx263_3)
     (try rw [Addr.add_zero'] at hx263_3)
     replace p263 := eq_true p263
     replace q263 := eq_true q263
     refine start_ (n := 10) (S := fun w' => w'.cell? ⟨gb250, 0, none⟩ = some (.int .u64 0) ∧ w'.cell? ⟨gb250, 1, none⟩ = some (.string t255) ∧ w'.cell? ⟨gb250, 2, none⟩ = some (.bool t256) ∧ w'.cell? ⟨gb250, 3, none⟩ = some (.int .i64 t257) ∧ w'.cell? ad263 = some (.int .u64 ((rd_T25 t258 0).f0)) ∧ w'.cell? ⟨ad263.block, ad263.off + 1, none⟩ = some (.string ((rd_T25 t258 0).f1)) ∧ w'.cell? ⟨ad263.block, ad263.off + 2, none⟩ = some (.bool ((rd_T25 t258 0).f2)) ∧ w'.cell? ⟨ad263.block, ad263.off + 3, none⟩ = some (.int .i64 ((rd_T25 t258 0).f3))) (ds := []) #[false, false, false, false, false, false, false, false, false, false] (by kernel_rfl) rfl rfl ⟨(blk_cell BK250.out 0).trans rfl, (blk_cell BK250.out 1).trans rfl, (blk_cell BK250.out 2).trans rfl, (blk_cell BK250.out 3).trans rfl, hx263_0, hx263_1, hx263_2, hx263_3⟩ (fun hHeld => ?_); refine with_tabW cellarerlaw05_ChainHeld.tab6 cellarerlaw05_ChainHeld.bits6 (fun HT_ HW_ => ?_)
     generalize w25.drew = w26 at HO253 HO260 BK250 HB hx263_0 hx263_1 hx263_2 hx263_3 hHeld ⊢
     refine pure_ (i := 0) (N := some 28) (v := ?_) (a' := ?_) (cellarerlaw05_ChainHeld.bs 10 1) rfl rfl (any_of HT_.out (by kernel_rfl)) (fun _ _ _ h => h) (Or.inl ⟨by rfl, ?_⟩) ?_ ?_
     rotate_left
     ·intro w'
      go_simp
      with_reducible rfl
     rotate_left
     ·simp only [Act.put, List.setIfInBounds_toArray, List.set_cons_zero, List.set_cons_succ, i64_w, i32_w]
      rfl
     refine pure_ (i := 1) (N := some 29) (v := ?_) (a' := ?_) (cellarerlaw05_ChainHeld.bs 10 3) rfl rfl (any_of HT_.out (by kernel_rfl)) (fun _ _ _ h => h) (Or.inl ⟨by rfl, ?_⟩) ?_ ?_
     rotate_left
     ·intro w'
      go_simp
      with_reducible rfl
     rotate_left
     ·simp only [Act.put, List.setIfInBounds_toArray, List.set_cons_zero, List.set_cons_succ, i64_w, i32_w]
      rfl
     refine pure_ (i := 2) (N := some 30) (v := ?_) (a' := ?_) (cellarerlaw05_ChainHeld.bs 10 7) rfl rfl (any_of HT_.out (by kernel_rfl)) (fun _ _ _ h => h) (Or.inl ⟨by rfl, ?_⟩) ?_ ?_
     rotate_left
     ·intro w'
      go_simp
      with_reducible rfl
     rotate_left
     ·simp only [Act.put, List.setIfInBounds_toArray, List.set_cons_zero, List.set_cons_succ, i64_w, i32_w]
      rfl
     refine pure_ (i := 3) (N := some 31) (v := ?_) (a' := ?_) (cellarerlaw05_ChainHeld.bs 10 15) rfl rfl (any_of HT_.out (by kernel_rfl)) (fun _ _ _ h => h) (Or.inl ⟨by rfl, ?_⟩) ?_ ?_
     rotate_left
     ·intro w'
      go_simp
      with_reducible rfl
     rotate_left
     ·simp only [Act.put, List.setIfInBounds_toArray, List.set_cons_zero, List.set_cons_succ, i64_w, i32_w]
      rfl
     refine pure_ (i := 4) (N := some 32) (v := ?_) (a' := ?_) (cellarerlaw05_ChainHeld.bs 10 31) rfl rfl (any_of HT_.out (by kernel_rfl)) (fun _ _ _ h => h) (Or.inl ⟨by rfl, ?_⟩) ?_ ?_
     rotate_left
     ·intro w'
      go_simp
      with_reducible rfl
     rotate_left
     ·simp only [Act.put, List.setIfInBounds_toArray, List.set_cons_zero, List.set_cons_succ, i64_w, i32_w]
      rfl
     refine pure_ (i := 5) (N := some 33) (v := ?_) (a' := ?_) (cellarerlaw05_ChainHeld.bs 10 63) rfl rfl (any_of HT_.out (by kernel_rfl)) (fun _ _ _ h => h) (Or.inl ⟨by rfl, ?_⟩) ?_ ?_
     rotate_left
     ·intro w'
      go_simp
      with_reducible rfl
     rotate_left
     ·simp only [Act.put, List.setIfInBounds_toArray, List.set_cons_zero, List.set_cons_succ, i64_w, i32_w]
      rfl
     refine take_ (i := 6) (N := some 34) (v := ?_) (a' := ?_) (cellarerlaw05_ChainHeld.bs 10 127) rfl rfl (take_ofW HT_.out HW_.out (by kernel_rfl)) (fun _ _ _ h => h) (Or.inl ⟨by rfl, ?_⟩) hHeld ?_ ?_
     rotate_left
     ·rintro w' ⟨s0, s1, s2, s3, s4, s5, s6, s7⟩
      go_simp
      with_reducible rfl
     rotate_left
     ·simp only [Act.put, List.setIfInBounds_toArray, List.set_cons_zero, List.set_cons_succ, i64_w, i32_w]
      rfl
     refine take_ (i := 7) (N := some 35) (v := ?_) (a' := ?_) (cellarerlaw05_ChainHeld.bs 10 255) rfl rfl (take_ofW HT_.out HW_.out (by kernel_rfl)) (fun _ _ _ h => h) (Or.inl ⟨by rfl, ?_⟩) hHeld ?_ ?_
     rotate_left
     ·rintro w' ⟨s0, s1, s2, s3, s4, s5, s6, s7⟩
      go_simp
      with_reducible rfl
     rotate_left
     ·simp only [Act.put, List.setIfInBounds_toArray, List.set_cons_zero, List.set_cons_succ, i64_w, i32_w]
      rfl
     refine pure_ (i := 8) (N := some 36) (v := ?_) (a' := ?_) (cellarerlaw05_ChainHeld.bs 10 511) rfl rfl (any_of HT_.out (by kernel_rfl)) (fun _ _ _ h => h) (Or.inl ⟨by rfl, ?_⟩) ?_ ?_
     rotate_left
     ·intro w'
      go_simp
      with_reducible rfl
     rotate_left
     ·simp only [Act.put, List.setIfInBounds_toArray, List.set_cons_zero, List.set_cons_succ, i64_w, i32_w]
      rfl
     refine pure_ (i := 9) (N := some 37) (v := ?_) (a' := ?_) (cellarerlaw05_ChainHeld.bs 10 1023) rfl rfl (any_of HT_.out (by kernel_rfl)) (fun _ _ _ h => h) (Or.inl ⟨by rfl, ?_⟩) ?_ ?_
     rotate_left
     ·intro w'
      go_simp
      with_reducible rfl
     rotate_left
     ·simp only [Act.put, List.setIfInBounds_toArray, List.set_cons_zero, List.set_cons_succ, i64_w, i32_w]
      rfl
     refine done_ (done_of HT_.out (by kernel_rfl)) ?_
     try go_wp2
     go_meet
     case rel => exact ⟨_, ((!(((rd_T25 t258 0).f0) == 0) || (!((((rd_T25 t258 0).f1).toList) == t255.toList) || (!(((rd_T25 t258 0).f2) == t256) || (!(((rd_T25 t258 0).f3) == t257)))))), (by first | rfl | (simp; done) | (simp [*]; done)), H', ⟨by first | omega | exact Nat.le_refl _⟩, ⟨by (with_reducible repeat (first | apply Kd.R_alloc | apply Kd.R_drewN | apply Kd.R_drew)); exact HO253.out⟩, ⟨by (with_reducible repeat (first | apply Kd.R_alloc | apply Kd.R_drewN | apply Kd.R_drew)); exact HO260.out⟩, ⟨by (with_reducible repeat (first | refine blk_drewN ?_ _ | refine blk_drew ?_ | refine blk_alloc ?_ _)); exact BK250.out⟩, ⟨by repeat (first | (with_reducible first | exact HB.out | apply below_alloc | apply pw_below_drewN | apply below_drew1 | refine below_set ?_ GE250.out) | exact HB.out)⟩⟩
    ·rw [if_neg c24] at H
     exact absurd H (by simp)
  case rest =>
   clear HC7
   try clear c1
   try clear c2
   try clear p2
   try clear q2
   try clear hx2
   try clear qi2
   try clear c5
   try clear c6
   try clear c6b0
   try clear c6b1
   try clear c10
   try clear c11
   try clear c12
   try clear c20
   try clear c20b0
   try clear c20b1
   try clear c20b2
   try clear c24
   try clear c24b0
   try clear c24b1
   try clear p26
   try clear q26
   try clear hx26
   try clear qi26
   try clear hcz16_0
   try clear hcz16_1
   try clear hcz16_2
   try clear hcz16_3
   try clear hcz19_0
   try clear hcz19_1
   try clear hcz19_2
   try clear hcz19_3
   try clear hfz16_0
   try clear hfz16_1
   try clear hfz16_2
   try clear hfz16_3
   try clear hfz19_0
   try clear hfz19_1
   try clear hfz19_2
   try clear hfz19_3
   try clear hx263_0
   try clear hx263_1
   try clear hx263_2
   try clear hx263_3
   try clear p263
   try clear q263
   obtain ⟨kq, x37_6, rfl, HA, HJ6, HO_0, HO_5, BK250, HB⟩ := hcut
   cases kq with
   | zero => exact absurd HA.out (by simp [cellarerlaw05_ChainHeld.j0])
   | succ kj6 =>
    have H := HA.out
    clear HA
    simp only [cellarerlaw05_ChainHeld.j0] at H
    by_cases c28 : x37_6 = true
    ·subst c28
     have H1 : (some false) = some r := by rw [if_pos rfl] at H; exact H
     clear H
     have H := H1
     clear H1
     obtain rfl := Option.some.inj H
     go_wp2
     go_ret
     exact ⟨by first | rfl | (simp [errW_none, errW_some] <;> rfl) | (simp [*, errW_none, errW_some] <;> rfl), by repeat (first | (with_reducible first | exact HB.out | apply below_alloc | apply pw_below_drewN | apply below_drew1 | refine below_set ?_ GE250.out) | exact HB.out)⟩
    ·replace c28 := Bool.eq_false_iff.mpr c28
     subst c28
     have H1 : (cellarerlaw05_ChainHeld.l0 kj6 t251 t258 1 0) = some r := by rw [if_neg (show ¬ (false = true) by decide)] at H; exact H
     clear H
     have H := H1
     clear H1
     have H' := Aside0.mk H
     clear H
     go_wp2
     go_loopg [7, 8] kj6 (fun kq v7 v8 w' => ∃ (x7_2 : Int) (x8_2 : Int), v7 = .int .i64 x7_2 ∧ v8 = .int .i64 x8_2 ∧ Aside0 (cellarerlaw05_ChainHeld.l0 kq t251 t258 x7_2 x8_2 = some r) ∧ Aside0 (kq ≤ kj6) ∧ Aside0 (Kd.R k25 25 w' w.heap.size (fun k_ => some k_ ≠ (v259 : Value).ownBlock ∧ k_ ≠ gb250) (.slice Ao17 t251.length co17) t251) ∧ Aside0 (Kd.R k25 25 w' w.heap.size (fun k_ => some k_ ≠ ((.slice Ao17 t251.length co17) : Value).ownBlock ∧ k_ ≠ gb250) v259 t258) ∧ Aside0 (w'.heap[gb250]? = some (.cells #[.int .u64 0, .string t255, .bool t256, .int .i64 t257] 25 (0, 0))) ∧ Aside0 (Below w.heap.size w w'))
     case atStart => exact ⟨(1), (0), (by first | rfl | (simp; done) | (simp [*]; done)), (by first | rfl | (simp; done) | (simp [*]; done)), H', ⟨Nat.le_refl _⟩, ⟨by (with_reducible repeat (first | apply Kd.R_alloc | apply Kd.R_drewN | apply Kd.R_drew)); exact HO_0.out⟩, ⟨by (with_reducible repeat (first | apply Kd.R_alloc | apply Kd.R_drewN | apply Kd.R_drew)); exact HO_5.out⟩, ⟨by (with_reducible repeat (first | refine blk_drewN ?_ _ | refine blk_drew ?_ | refine blk_alloc ?_ _)); exact BK250.out⟩, ⟨by repeat (first | (with_reducible first | exact HB.out | apply below_alloc | apply pw_below_drewN | apply below_drew1 | refine below_set ?_ GE250.out) | exact HB.out)⟩⟩
     case round =>
      clear H'
      try clear c1
      try clear c2
      try clear p2
      try clear q2
      try clear hx2
      try clear qi2
      try clear c5
      try clear c6
      try clear c6b0
      try clear c6b1
      try clear c10
      try clear c11
      try clear c12
      try clear c20
      try clear c20b0
      try clear c20b1
      try clear c20b2
      try clear c24
      try clear c24b0
      try clear c24b1
      try clear p26
      try clear q26
      try clear hx26
      try clear qi26
      try clear c28
      try clear hcz16_0
      try clear hcz16_1
      try clear hcz16_2
      try clear hcz16_3
      try clear hcz19_0
      try clear hcz19_1
      try clear hcz19_2
      try clear hcz19_3
      try clear hfz16_0
      try clear hfz16_1
      try clear hfz16_2
      try clear hfz16_3
      try clear hfz19_0
      try clear hfz19_1
      try clear hfz19_2
      try clear hfz19_3
      try clear hx263_0
      try clear hx263_1
      try clear hx263_2
      try clear hx263_3
      try clear p2
      try clear p26
      try clear p263
      try clear q2
      try clear q26
      try clear q263
      obtain ⟨x7_2, x8_2, rfl, rfl, HA, HK2, HO_0, HO_5, BK250, HB⟩ := hrel
      cases gk with
      | zero => exact absurd HA.out (by simp [cellarerlaw05_ChainHeld.l0])
      | succ k2 =>
       have H := HA.out
       clear HA
       simp only [cellarerlaw05_ChainHeld.l0] at H
       by_cases c29 : x8_2 < (t251.length : Int)
       ·rw [if_pos c29] at H
        have c29b0 : decide (x8_2 < (t251.length : Int)) = true := decide_eq_true c29
        clear c29
        by_cases c30 : 0 ≤ x8_2
        ·rw [if_pos c30] at H
         have c30b0 : decide (0 ≤ x8_2) = true := decide_eq_true c30
         clear c30
         by_cases c31 : ((rd_T25 t251 x8_2).f0) = 0
         ·rw [if_pos c31] at H
          have c31b0 : (((rd_T25 t251 x8_2).f0) == 0) = true := beq_iff_eq.mpr c31
          have c31b1 : (((rd_T25 t251 x8_2).f0) != 0) = false := bne_eq_false_iff_eq.mpr c31
          clear c31
          have H' := Aside0.mk H
          clear H
          have p265 : 0 ≤ (x8_2 : Int) := of_decide_eq_true (by first | (with_reducible assumption) | assumption)
          have q265 : x8_2 < (t251.length : Int) := of_decide_eq_true (by first | (with_reducible assumption) | assumption)
          obtain ⟨ad265, e265, hx265_0, hx265_1, hx265_2, hx265_3⟩ := at_T25 (Kd.R_reads' HO_0.out).2.2 x8_2 p265 q265
          cases e265
          replace p265 := eq_true p265
          replace q265 := eq_true q265
          go_wp2
          go_roundg k2
          case measure => have := HJ6.out; have := HK2.out; omega
          case rel => exact ⟨(x7_2), (wrap64 (x8_2 + 1)), (by first | rfl | (simp; done) | (simp [*]; done)), (by first | rfl | (simp; done) | (simp [*]; done)), H', ⟨by have := HJ6.out; have := HK2.out; omega⟩, ⟨by (with_reducible repeat (first | apply Kd.R_alloc | apply Kd.R_drewN | apply Kd.R_drew)); exact HO_0.out⟩, ⟨by (with_reducible repeat (first | apply Kd.R_alloc | apply Kd.R_drewN | apply Kd.R_drew)); exact HO_5.out⟩, ⟨by (with_reducible repeat (first | refine blk_drewN ?_ _ | refine blk_drew ?_ | refine blk_alloc ?_ _)); exact BK250.out⟩, ⟨by repeat (first | (with_reducible first | exact HB.out | apply below_alloc | apply pw_below_drewN | apply below_drew1 | refine below_set ?_ GE250.out) | exact HB.out)⟩⟩
         ·rw [if_neg c31] at H
          have c31b0 : (((rd_T25 t251 x8_2).f0) == 0) = false := beq_eq_false_iff_ne.mpr c31
          have c31b1 : (((rd_T25 t251 x8_2).f0) != 0) = true := bne_iff_ne.mpr c31
          by_cases c32 : x7_2 ≥ (t258.length : Int)
          ·rw [if_pos c32] at H
           have c32b0 : decide ((t258.length : Int) ≤ x7_2) = true := decide_eq_true c32
           clear c32
           obtain rfl := Option.some.inj H
           have p265 : 0 ≤ (x8_2 : Int) := of_decide_eq_true (by first | (with_reducible assumption) | assumption)
           have q265 : x8_2 < (t251.length : Int) := of_decide_eq_true (by first | (with_reducible assumption) | assumption)
           obtain ⟨ad265, e265, hx265_0, hx265_1, hx265_2, hx265_3⟩ := at_T25 (Kd.R_reads' HO_0.out).2.2 x8_2 p265 q265
           cases e265
           replace p265 := eq_true p265
           replace q265 := eq_true q265
           try go_wp2
           have n0_ := Aside0.mk (Kd.R_drew HO_0.out)
           have n1_ := Aside0.mk (Kd.R_drew HO_5.out)
           have n2_ := Aside0.mk (blk_drew BK250.out)
           have n3_ := Aside0.mk (below_drew1 HB.out)
           clear HO_0
           clear HO_5
           clear BK250
           clear HB
           have HO_0 := n0_
           have HO_5 := n1_
           have BK250 := n2_
           have HB := n3_
           clear n0_ n1_ n2_ n3_
           obtain ⟨Ao34, co34, eo34⟩ := Kd.R_slice HO_5.out
           (first | subst eo34 | (injection eo34 with f1_ f2_ f3_; have f4_ := f1_.symm; have f5_ := f3_.symm; clear f1_ f2_ f3_; subst f4_; subst f5_))
           refine start_ (n := 15) (S := fun w' => True) (ds := []) #[false, false, false, false, false, false, false, false, false, false, false, false, false, false, false] (by kernel_rfl) rfl rfl trivial (fun hHeld => ?_); refine with_tabW cellarerlaw05_ChainHeld.tab13 cellarerlaw05_ChainHeld.bits13 (fun HT_ HW_ => ?_)
           generalize wr.drew = w33 at HO_0 HO_5 BK250 HB hHeld ⊢
           refine pure_ (i := 0) (N := some 50) (v := ?_) (a' := ?_) (cellarerlaw05_ChainHeld.bs 15 1) rfl rfl (any_of HT_.out (by kernel_rfl)) (fun _ _ _ h => h) (Or.inl ⟨by rfl, ?_⟩) ?_ ?_
           rotate_left
           ·intro w'
            go_simp
            with_reducible rfl
           rotate_left
           ·simp only [Act.put, List.setIfInBounds_toArray, List.set_cons_zero, List.set_cons_succ, i64_w, i32_w]
            rfl
           refine pure_ (i := 1) (N := some 51) (v := ?_) (a' := ?_) (cellarerlaw05_ChainHeld.bs 15 3) rfl rfl (any_of HT_.out (by kernel_rfl)) (fun _ _ _ h => h) (Or.inl ⟨by rfl, ?_⟩) ?_ ?_
           rotate_left
           ·intro w'
            go_simp
            with_reducible rfl
           rotate_left
           ·simp only [Act.put, List.setIfInBounds_toArray, List.set_cons_zero, List.set_cons_succ, i64_w, i32_w]
            rfl
           refine pure_ (i := 2) (N := some 52) (v := ?_) (a' := ?_) (cellarerlaw05_ChainHeld.bs 15 7) rfl rfl (any_of HT_.out (by kernel_rfl)) (fun _ _ _ h => h) (Or.inl ⟨by rfl, ?_⟩) ?_ ?_
           rotate_left
           ·intro w'
            go_simp
            with_reducible rfl
           rotate_left
           ·simp only [Act.put, List.setIfInBounds_toArray, List.set_cons_zero, List.set_cons_succ, i64_w, i32_w]
            rfl
           refine pure_ (i := 3) (N := some 53) (v := ?_) (a' := ?_) (cellarerlaw05_ChainHeld.bs 15 15) rfl rfl (any_of HT_.out (by kernel_rfl)) (fun _ _ _ h => h) (Or.inl ⟨by rfl, ?_⟩) ?_ ?_
           rotate_left
           ·intro w'
            go_simp
            with_reducible rfl
           rotate_left
           ·simp only [Act.put, List.setIfInBounds_toArray, List.set_cons_zero, List.set_cons_succ, i64_w, i32_w]
            rfl
           refine pure_ (i := 4) (N := some 54) (v := ?_) (a' := ?_) (cellarerlaw05_ChainHeld.bs 15 31) rfl rfl (any_of HT_.out (by kernel_rfl)) (fun _ _ _ h => h) (Or.inl ⟨by rfl, ?_⟩) ?_ ?_
           rotate_left
           ·intro w'
            go_simp
            with_reducible rfl
           rotate_left
           ·simp only [Act.put, List.setIfInBounds_toArray, List.set_cons_zero, List.set_cons_succ, i64_w, i32_w]
            rfl
           refine pure_ (i := 5) (N := some 55) (v := undef) (a' := ?_) (cellarerlaw05_ChainHeld.bs 15 63) rfl rfl (any_of HT_.out (by kernel_rfl)) (fun _ _ _ h => h) (Or.inr ⟨by rfl, rfl⟩) ?_ ?_
           rotate_left
           ·simp only [Act.put, List.setIfInBounds_toArray, List.set_cons_zero, List.set_cons_succ, i64_w, i32_w]
            rfl
           refine pure_ (i := 6) (N := some 56) (v := undef) (a' := ?_) (cellarerlaw05_ChainHeld.bs 15 127) rfl rfl (any_of HT_.out (by kernel_rfl)) (fun _ _ _ h => h) (Or.inr ⟨by rfl, rfl⟩) ?_ ?_
           rotate_left
           ·simp only [Act.put, List.setIfInBounds_toArray, List.set_cons_zero, List.set_cons_succ, i64_w, i32_w]
            rfl
           refine pure_ (i := 7) (N := some 57) (v := undef) (a' := ?_) (cellarerlaw05_ChainHeld.bs 15 255) rfl rfl (any_of HT_.out (by kernel_rfl)) (fun _ _ _ h => h) (Or.inr ⟨by rfl, rfl⟩) ?_ ?_
           rotate_left
           ·simp only [Act.put, List.setIfInBounds_toArray, List.set_cons_zero, List.set_cons_succ, i64_w, i32_w]
            rfl
           refine pure_ (i := 8) (N := some 58) (v := undef) (a' := ?_) (cellarerlaw05_ChainHeld.bs 15 511) rfl rfl (any_of HT_.out (by kernel_rfl)) (fun _ _ _ h => h) (Or.inr ⟨by rfl, rfl⟩) ?_ ?_
           rotate_left
           ·simp only [Act.put, List.setIfInBounds_toArray, List.set_cons_zero, List.set_cons_succ, i64_w, i32_w]
            rfl
           refine pure_ (i := 9) (N := some 59) (v := undef) (a' := ?_) (cellarerlaw05_ChainHeld.bs 15 1023) rfl rfl (any_of HT_.out (by kernel_rfl)) (fun _ _ _ h => h) (Or.inr ⟨by rfl, rfl⟩) ?_ ?_
           rotate_left
           ·simp only [Act.put, List.setIfInBounds_toArray, List.set_cons_zero, List.set_cons_succ, i64_w, i32_w]
            rfl
           refine pure_ (i := 10) (N := some 60) (v := undef) (a' := ?_) (cellarerlaw05_ChainHeld.bs 15 2047) rfl rfl (any_of HT_.out (by kernel_rfl)) (fun _ _ _ h => h) (Or.inr ⟨by rfl, rfl⟩) ?_ ?_
           rotate_left
           ·simp only [Act.put, List.setIfInBounds_toArray, List.set_cons_zero, List.set_cons_succ, i64_w, i32_w]
            rfl
           refine pure_ (i := 11) (N := some 61) (v := undef) (a' := ?_) (cellarerlaw05_ChainHeld.bs 15 4095) rfl rfl (any_of HT_.out (by kernel_rfl)) (fun _ _ _ h => h) (Or.inr ⟨by rfl, rfl⟩) ?_ ?_
           rotate_left
           ·simp only [Act.put, List.setIfInBounds_toArray, List.set_cons_zero, List.set_cons_succ, i64_w, i32_w]
            rfl
           refine pure_ (i := 12) (N := some 62) (v := undef) (a' := ?_) (cellarerlaw05_ChainHeld.bs 15 8191) rfl rfl (any_of HT_.out (by kernel_rfl)) (fun _ _ _ h => h) (Or.inr ⟨by rfl, rfl⟩) ?_ ?_
           rotate_left
           ·simp only [Act.put, List.setIfInBounds_toArray, List.set_cons_zero, List.set_cons_succ, i64_w, i32_w]
            rfl
           refine pure_ (i := 13) (N := some 63) (v := undef) (a' := ?_) (cellarerlaw05_ChainHeld.bs 15 16383) rfl rfl (any_of HT_.out (by kernel_rfl)) (fun _ _ _ h => h) (Or.inr ⟨by rfl, rfl⟩) ?_ ?_
           rotate_left
           ·simp only [Act.put, List.setIfInBounds_toArray, List.set_cons_zero, List.set_cons_succ, i64_w, i32_w]
            rfl
           refine pure_ (i := 14) (N := some 64) (v := ?_) (a' := ?_) (cellarerlaw05_ChainHeld.bs 15 32767) rfl rfl (any_of HT_.out (by kernel_rfl)) (fun _ _ _ h => h) (Or.inl ⟨by rfl, ?_⟩) ?_ ?_
           rotate_left
           ·intro w'
            go_simp
            with_reducible rfl
           rotate_left
           ·simp only [Act.put, List.setIfInBounds_toArray, List.set_cons_zero, List.set_cons_succ, i64_w, i32_w]
            rfl
           refine done_ (done_of HT_.out (by kernel_rfl)) ?_
           try go_wp2
           go_ret
           exact ⟨by first | rfl | (simp [errW_none, errW_some] <;> rfl) | (simp [*, errW_none, errW_some] <;> rfl), by repeat (first | (with_reducible first | exact HB.out | apply below_alloc | apply pw_below_drewN | apply below_drew1 | refine below_set ?_ GE250.out) | exact HB.out)⟩
          ·rw [if_neg c32] at H
           have c32b0 : decide ((t258.length : Int) ≤ x7_2) = false := decide_eq_false c32
           clear c32
           by_cases c35 : 0 ≤ x7_2
           ·rw [if_pos c35] at H
            have c35b0 : decide (0 ≤ x7_2) = true := decide_eq_true c35
            clear c35
            by_cases c36 : x7_2 < (t258.length : Int)
            ·rw [if_pos c36] at H
             have c36b0 : decide (x7_2 < (t258.length : Int)) = true := decide_eq_true c36
             clear c36
             by_cases c37 : (!(((rd_T25 t258 x7_2).f0) == ((rd_T25 t251 x8_2).f0)) || (!((((rd_T25 t258 x7_2).f1).toList) == (((rd_T25 t251 x8_2).f1).toList)) || (!(((rd_T25 t258 x7_2).f2) == ((rd_T25 t251 x8_2).f2)) || (!(((rd_T25 t258 x7_2).f3) == ((rd_T25 t251 x8_2).f3)))))) = true
             ·rw [if_pos c37] at H
              have c37b0 : (!(((rd_T25 t258 x7_2).f0) == ((rd_T25 t251 x8_2).f0)) || (!((((rd_T25 t258 x7_2).f1).toList) == (((rd_T25 t251 x8_2).f1).toList)) || (!(((rd_T25 t258 x7_2).f2) == ((rd_T25 t251 x8_2).f2)) || (!(((rd_T25 t258 x7_2).f3) == ((rd_T25 t251 x8_2).f3)))))) = true := c37
              clear c37
              obtain rfl := Option.some.inj H
              have p265 : 0 ≤ (x8_2 : Int) := of_decide_eq_true (by first | (with_reducible assumption) | assumption)
              have q265 : x8_2 < (t251.length : Int) := of_decide_eq_true (by first | (with_reducible assumption) | assumption)
              obtain ⟨ad265, e265, hx265_0, hx265_1, hx265_2, hx265_3⟩ := at_T25 (Kd.R_reads' HO_0.out).2.2 x8_2 p265 q265
              cases e265
              replace p265 := eq_true p265
              replace q265 := eq_true q265
              try go_wp2
              have n0_ := Aside0.mk (Kd.R_drew HO_0.out)
              have n1_ := Aside0.mk (Kd.R_drew HO_5.out)
              have n2_ := Aside0.mk (blk_drew BK250.out)
              have n3_ := Aside0.mk (below_drew1 HB.out)
              clear HO_0
              clear HO_5
              clear BK250
              clear HB
              have HO_0 := n0_
              have HO_5 := n1_
              have BK250 := n2_
              have HB := n3_
              clear n0_ n1_ n2_ n3_
              obtain ⟨Ao39, co39, eo39⟩ := Kd.R_slice HO_5.out
              (first | subst eo39 | (injection eo39 with f1_ f2_ f3_; have f4_ := f1_.symm; have f5_ := f3_.symm; clear f1_ f2_ f3_; subst f4_; subst f5_))
              have p266 : 0 ≤ (x7_2 : Int) := of_decide_eq_true (by first | (with_reducible assumption) | assumption)
              have q266 : x7_2 < (t258.length : Int) := of_decide_eq_true (by first | (with_reducible assumption) | assumption)
              obtain ⟨ad266, e266, hx266_0, hx266_1, hx266_2, hx266_3⟩ := at_T25 (Kd.R_reads' HO_5.out).2.2 x7_2 p266 q266
              cases e266
              replace p266 := eq_true p266
              replace q266 := eq_true q266
              have p267 : 0 ≤ (x8_2 : Int) := of_decide_eq_true (by first | (with_reducible assumption) | assumption)
              have q267 : x8_2 < (t251.length : Int) := of_decide_eq_true (by first | (with_reducible assumption) | assumption)
              obtain ⟨ad267, e267, hx267_0, hx267_1, hx267_2, hx267_3⟩ := at_T25 (Kd.R_reads' HO_0.out).2.2 x8_2 p267 q267
              obtain rfl : ad265 = ad267 := (by injection e267)
              replace p267 := eq_true p267
              replace q267 := eq_true q267
              refine start_ (n := 15) (S := fun w' => w'.cell? (ad266.add ((x7_2).toNat * 4)) = some (.int .u64 ((rd_T25 t258 x7_2).f0)) ∧ w'.cell? ⟨(ad266.add ((x7_2).toNat * 4)).block, (ad266.add ((x7_2).toNat * 4)).off + 1, none⟩ = some (.string ((rd_T25 t258 x7_2).f1)) ∧ w'.cell? ⟨(ad266.add ((x7_2).toNat * 4)).block, (ad266.add ((x7_2).toNat * 4)).off + 2, none⟩ = some (.bool ((rd_T25 t258 x7_2).f2)) ∧ w'.cell? ⟨(ad266.add ((x7_2).toNat * 4)).block, (ad266.add ((x7_2).toNat * 4)).off + 3, none⟩ = some (.int .i64 ((rd_T25 t258 x7_2).f3)) ∧ w'.cell? (ad265.add ((x8_2).toNat * 4)) = some (.int .u64 ((rd_T25 t251 x8_2).f0)) ∧ w'.cell? ⟨(ad265.add ((x8_2).toNat * 4)).block, (ad265.add ((x8_2).toNat * 4)).off + 1, none⟩ = some (.string ((rd_T25 t251 x8_2).f1)) ∧ w'.cell? ⟨(ad265.add ((x8_2).toNat * 4)).block, (ad265.add ((x8_2).toNat * 4)).off + 2, none⟩ = some (.bool ((rd_T25 t251 x8_2).f2)) ∧ w'.cell? ⟨(ad265.add ((x8_2).toNat * 4)).block, (ad265.add ((x8_2).toNat * 4)).off + 3, none⟩ = some (.int .i64 ((rd_T25 t251 x8_2).f3))) (ds := []) #[false, false, false, false, false, false, false, false, false, false, false, false, false, false, false] (by kernel_rfl) rfl rfl ⟨hx266_0, hx266_1, hx266_2, hx266_3, hx267_0, hx267_1, hx267_2, hx267_3⟩ (fun hHeld => ?_); refine with_tabW cellarerlaw05_ChainHeld.tab13 cellarerlaw05_ChainHeld.bits13 (fun HT_ HW_ => ?_)
              generalize wr.drew = w38 at HO_0 HO_5 BK250 HB hx266_0 hx266_1 hx266_2 hx266_3 hx267_0 hx267_1 hx267_2 hx267_3 hHeld ⊢
              refine pure_ (i := 0) (N := some 50) (v := ?_) (a' := ?_) (cellarerlaw05_ChainHeld.bs 15 1) rfl rfl (any_of HT_.out (by kernel_rfl)) (fun _ _ _ h => h) (Or.inl ⟨by rfl, ?_⟩) ?_ ?_
              rotate_left
              ·intro w'
               go_simp
               with_reducible rfl
              rotate_left
              ·simp only [Act.put, List.setIfInBounds_toArray, List.set_cons_zero, List.set_cons_succ, i64_w, i32_w]
               rfl
              refine pure_ (i := 1) (N := some 51) (v := ?_) (a' := ?_) (cellarerlaw05_ChainHeld.bs 15 3) rfl rfl (any_of HT_.out (by kernel_rfl)) (fun _ _ _ h => h) (Or.inl ⟨by rfl, ?_⟩) ?_ ?_
              rotate_left
              ·intro w'
               go_simp
               with_reducible rfl
              rotate_left
              ·simp only [Act.put, List.setIfInBounds_toArray, List.set_cons_zero, List.set_cons_succ, i64_w, i32_w]
               rfl
              refine pure_ (i := 2) (N := some 52) (v := ?_) (a' := ?_) (cellarerlaw05_ChainHeld.bs 15 7) rfl rfl (any_of HT_.out (by kernel_rfl)) (fun _ _ _ h => h) (Or.inl ⟨by rfl, ?_⟩) ?_ ?_
              rotate_left
              ·intro w'
               go_simp
               with_reducible rfl
              rotate_left
              ·simp only [Act.put, List.setIfInBounds_toArray, List.set_cons_zero, List.set_cons_succ, i64_w, i32_w]
               rfl
              refine pure_ (i := 3) (N := some 53) (v := ?_) (a' := ?_) (cellarerlaw05_ChainHeld.bs 15 15) rfl rfl (any_of HT_.out (by kernel_rfl)) (fun _ _ _ h => h) (Or.inl ⟨by rfl, ?_⟩) ?_ ?_
              rotate_left
              ·intro w'
               go_simp
               with_reducible rfl
              rotate_left
              ·simp only [Act.put, List.setIfInBounds_toArray, List.set_cons_zero, List.set_cons_succ, i64_w, i32_w]
               rfl
              refine pure_ (i := 4) (N := some 54) (v := ?_) (a' := ?_) (cellarerlaw05_ChainHeld.bs 15 31) rfl rfl (any_of HT_.out (by kernel_rfl)) (fun _ _ _ h => h) (Or.inl ⟨by rfl, ?_⟩) ?_ ?_
              rotate_left
              ·intro w'
               go_simp
               with_reducible rfl
              rotate_left
              ·simp only [Act.put, List.setIfInBounds_toArray, List.set_cons_zero, List.set_cons_succ, i64_w, i32_w]
               rfl
              refine pure_ (i := 5) (N := some 55) (v := ?_) (a' := ?_) (cellarerlaw05_ChainHeld.bs 15 63) rfl rfl (any_of HT_.out (by kernel_rfl)) (fun _ _ _ h => h) (Or.inl ⟨by rfl, ?_⟩) ?_ ?_
              rotate_left
              ·intro w'
               go_simp
               with_reducible rfl
              rotate_left
              ·simp only [Act.put, List.setIfInBounds_toArray, List.set_cons_zero, List.set_cons_succ, i64_w, i32_w]
               rfl
              refine pure_ (i := 6) (N := some 56) (v := ?_) (a' := ?_) (cellarerlaw05_ChainHeld.bs 15 127) rfl rfl (any_of HT_.out (by kernel_rfl)) (fun _ _ _ h => h) (Or.inl ⟨by rfl, ?_⟩) ?_ ?_
              rotate_left
              ·intro w'
               go_simp
               with_reducible rfl
              rotate_left
              ·simp only [Act.put, List.setIfInBounds_toArray, List.set_cons_zero, List.set_cons_succ, i64_w, i32_w]
               rfl
              refine pure_ (i := 7) (N := some 57) (v := ?_) (a' := ?_) (cellarerlaw05_ChainHeld.bs 15 255) rfl rfl (any_of HT_.out (by kernel_rfl)) (fun _ _ _ h => h) (Or.inl ⟨by rfl, ?_⟩) ?_ ?_
              rotate_left
              ·intro w'
               go_simp
               with_reducible rfl
              rotate_left
              ·simp only [Act.put, List.setIfInBounds_toArray, List.set_cons_zero, List.set_cons_succ, i64_w, i32_w]
               rfl
              refine pure_ (i := 9) (N := some 59) (v := ?_) (a' := ?_) (cellarerlaw05_ChainHeld.bs 15 767) rfl rfl (any_of HT_.out (by kernel_rfl)) (fun _ _ _ h => h) (Or.inl ⟨by rfl, ?_⟩) ?_ ?_
              rotate_left
              ·intro w'
               go_simp
               with_reducible rfl
              rotate_left
              ·simp only [Act.put, List.setIfInBounds_toArray, List.set_cons_zero, List.set_cons_succ, i64_w, i32_w]
               rfl
              refine pure_ (i := 10) (N := some 60) (v := ?_) (a' := ?_) (cellarerlaw05_ChainHeld.bs 15 1791) rfl rfl (any_of HT_.out (by kernel_rfl)) (fun _ _ _ h => h) (Or.inl ⟨by rfl, ?_⟩) ?_ ?_
              rotate_left
              ·intro w'
               go_simp
               with_reducible rfl
              rotate_left
              ·simp only [Act.put, List.setIfInBounds_toArray, List.set_cons_zero, List.set_cons_succ, i64_w, i32_w]
               rfl
              refine pure_ (i := 11) (N := some 61) (v := ?_) (a' := ?_) (cellarerlaw05_ChainHeld.bs 15 3839) rfl rfl (any_of HT_.out (by kernel_rfl)) (fun _ _ _ h => h) (Or.inl ⟨by rfl, ?_⟩) ?_ ?_
              rotate_left
              ·intro w'
               go_simp
               with_reducible rfl
              rotate_left
              ·simp only [Act.put, List.setIfInBounds_toArray, List.set_cons_zero, List.set_cons_succ, i64_w, i32_w]
               rfl
              refine take_ (i := 8) (N := some 58) (v := ?_) (a' := ?_) (cellarerlaw05_ChainHeld.bs 15 4095) rfl rfl (take_ofW HT_.out HW_.out (by kernel_rfl)) (fun _ _ _ h => h) (Or.inl ⟨by rfl, ?_⟩) hHeld ?_ ?_
              rotate_left
              ·rintro w' ⟨s0, s1, s2, s3, s4, s5, s6, s7⟩
               go_simp
               with_reducible rfl
              rotate_left
              ·simp only [Act.put, List.setIfInBounds_toArray, List.set_cons_zero, List.set_cons_succ, i64_w, i32_w]
               rfl
              refine take_ (i := 12) (N := some 62) (v := ?_) (a' := ?_) (cellarerlaw05_ChainHeld.bs 15 8191) rfl rfl (take_ofW HT_.out HW_.out (by kernel_rfl)) (fun _ _ _ h => h) (Or.inl ⟨by rfl, ?_⟩) hHeld ?_ ?_
              rotate_left
              ·rintro w' ⟨s0, s1, s2, s3, s4, s5, s6, s7⟩
               go_simp
               with_reducible rfl
              rotate_left
              ·simp only [Act.put, List.setIfInBounds_toArray, List.set_cons_zero, List.set_cons_succ, i64_w, i32_w]
               rfl
              refine pure_ (i := 13) (N := some 63) (v := ?_) (a' := ?_) (cellarerlaw05_ChainHeld.bs 15 16383) rfl rfl (any_of HT_.out (by kernel_rfl)) (fun _ _ _ h => h) (Or.inl ⟨by rfl, ?_⟩) ?_ ?_
              rotate_left
              ·intro w'
               go_simp
               with_reducible rfl
              rotate_left
              ·simp only [Act.put, List.setIfInBounds_toArray, List.set_cons_zero, List.set_cons_succ, i64_w, i32_w]
               rfl
              refine pure_ (i := 14) (N := some 64) (v := ?_) (a' := ?_) (cellarerlaw05_ChainHeld.bs 15 32767) rfl rfl (any_of HT_.out (by kernel_rfl)) (fun _ _ _ h => h) (Or.inl ⟨by rfl, ?_⟩) ?_ ?_
              rotate_left
              ·intro w'
               go_simp
               with_reducible rfl
              rotate_left
              ·simp only [Act.put, List.setIfInBounds_toArray, List.set_cons_zero, List.set_cons_succ, i64_w, i32_w]
               rfl
              refine done_ (done_of HT_.out (by kernel_rfl)) ?_
              try go_wp2
              go_ret
              exact ⟨by first | rfl | (simp [errW_none, errW_some] <;> rfl) | (simp [*, errW_none, errW_some] <;> rfl), by repeat (first | (with_reducible first | exact HB.out | apply below_alloc | apply pw_below_drewN | apply below_drew1 | refine below_set ?_ GE250.out) | exact HB.out)⟩
             ·rw [if_neg c37] at H
              have c37b0 : (!(((rd_T25 t258 x7_2).f0) == ((rd_T25 t251 x8_2).f0)) || (!((((rd_T25 t258 x7_2).f1).toList) == (((rd_T25 t251 x8_2).f1).toList)) || (!(((rd_T25 t258 x7_2).f2) == ((rd_T25 t251 x8_2).f2)) || (!(((rd_T25 t258 x7_2).f3) == ((rd_T25 t251 x8_2).f3)))))) = false := by simpa using c37
              clear c37
              have H' := Aside0.mk H
              clear H
              have p265 : 0 ≤ (x8_2 : Int) := of_decide_eq_true (by first | (with_reducible assumption) | assumption)
              have q265 : x8_2 < (t251.length : Int) := of_decide_eq_true (by first | (with_reducible assumption) | assumption)
              obtain ⟨ad265, e265, hx265_0, hx265_1, hx265_2, hx265_3⟩ := at_T25 (Kd.R_reads' HO_0.out).2.2 x8_2 p265 q265
              cases e265
              replace p265 := eq_true p265
              replace q265 := eq_true q265
              try go_wp2
              have n0_ := Aside0.mk (Kd.R_drew HO_0.out)
              have n1_ := Aside0.mk (Kd.R_drew HO_5.out)
              have n2_ := Aside0.mk (blk_drew BK250.out)
              have n3_ := Aside0.mk (below_drew1 HB.out)
              clear HO_0
              clear HO_5
              clear BK250
              clear HB
              have HO_0 := n0_
              have HO_5 := n1_
              have BK250 := n2_
              have HB := n3_
              clear n0_ n1_ n2_ n3_
              obtain ⟨Ao41, co41, eo41⟩ := Kd.R_slice HO_5.out
              (first | subst eo41 | (injection eo41 with f1_ f2_ f3_; have f4_ := f1_.symm; have f5_ := f3_.symm; clear f1_ f2_ f3_; subst f4_; subst f5_))
              have p266 : 0 ≤ (x7_2 : Int) := of_decide_eq_true (by first | (with_reducible assumption) | assumption)
              have q266 : x7_2 < (t258.length : Int) := of_decide_eq_true (by first | (with_reducible assumption) | assumption)
              obtain ⟨ad266, e266, hx266_0, hx266_1, hx266_2, hx266_3⟩ := at_T25 (Kd.R_reads' HO_5.out).2.2 x7_2 p266 q266
              cases e266
              replace p266 := eq_true p266
              replace q266 := eq_true q266
              have p267 : 0 ≤ (x8_2 : Int) := of_decide_eq_true (by first | (with_reducible assumption) | assumption)
              have q267 : x8_2 < (t251.length : Int) := of_decide_eq_true (by first | (with_reducible assumption) | assumption)
              obtain ⟨ad267, e267, hx267_0, hx267_1, hx267_2, hx267_3⟩ := at_T25 (Kd.R_reads' HO_0.out).2.2 x8_2 p267 q267
              obtain rfl : ad265 = ad267 := (by injection e267)
              replace p267 := eq_true p267
              replace q267 := eq_true q267
              refine start_ (n := 15) (S := fun w' => w'.cell? (ad266.add ((x7_2).toNat * 4)) = some (.int .u64 ((rd_T25 t258 x7_2).f0)) ∧ w'.cell? ⟨(ad266.add ((x7_2).toNat * 4)).block, (ad266.add ((x7_2).toNat * 4)).off + 1, none⟩ = some (.string ((rd_T25 t258 x7_2).f1)) ∧ w'.cell? ⟨(ad266.add ((x7_2).toNat * 4)).block, (ad266.add ((x7_2).toNat * 4)).off + 2, none⟩ = some (.bool ((rd_T25 t258 x7_2).f2)) ∧ w'.cell? ⟨(ad266.add ((x7_2).toNat * 4)).block, (ad266.add ((x7_2).toNat * 4)).off + 3, none⟩ = some (.int .i64 ((rd_T25 t258 x7_2).f3)) ∧ w'.cell? (ad265.add ((x8_2).toNat * 4)) = some (.int .u64 ((rd_T25 t251 x8_2).f0)) ∧ w'.cell? ⟨(ad265.add ((x8_2).toNat * 4)).block, (ad265.add ((x8_2).toNat * 4)).off + 1, none⟩ = some (.string ((rd_T25 t251 x8_2).f1)) ∧ w'.cell? ⟨(ad265.add ((x8_2).toNat * 4)).block, (ad265.add ((x8_2).toNat * 4)).off + 2, none⟩ = some (.bool ((rd_T25 t251 x8_2).f2)) ∧ w'.cell? ⟨(ad265.add ((x8_2).toNat * 4)).block, (ad265.add ((x8_2).toNat * 4)).off + 3, none⟩ = some (.int .i64 ((rd_T25 t251 x8_2).f3))) (ds := []) #[false, false, false, false, false, false, false, false, false, false, false, false, false, false, false] (by kernel_rfl) rfl rfl ⟨hx266_0, hx266_1, hx266_2, hx266_3, hx267_0, hx267_1, hx267_2, hx267_3⟩ (fun hHeld => ?_); refine with_tabW cellarerlaw05_ChainHeld.tab13 cellarerlaw05_ChainHeld.bits13 (fun HT_ HW_ => ?_)
              generalize wr.drew = w40 at HO_0 HO_5 BK250 HB hx266_0 hx266_1 hx266_2 hx266_3 hx267_0 hx267_1 hx267_2 hx267_3 hHeld ⊢
              refine pure_ (i := 0) (N := some 50) (v := ?_) (a' := ?_) (cellarerlaw05_ChainHeld.bs 15 1) rfl rfl (any_of HT_.out (by kernel_rfl)) (fun _ _ _ h => h) (Or.inl ⟨by rfl, ?_⟩) ?_ ?_
              rotate_left
              ·intro w'
               go_simp
               with_reducible rfl
              rotate_left
              ·simp only [Act.put, List.setIfInBounds_toArray, List.set_cons_zero, List.set_cons_succ, i64_w, i32_w]
               rfl
              refine pure_ (i := 1) (N := some 51) (v := ?_) (a' := ?_) (cellarerlaw05_ChainHeld.bs 15 3) rfl rfl (any_of HT_.out (by kernel_rfl)) (fun _ _ _ h => h) (Or.inl ⟨by rfl, ?_⟩) ?_ ?_
              rotate_left
              ·intro w'
               go_simp
               with_reducible rfl
              rotate_left
              ·simp only [Act.put, List.setIfInBounds_toArray, List.set_cons_zero, List.set_cons_succ, i64_w, i32_w]
               rfl
              refine pure_ (i := 2) (N := some 52) (v := ?_) (a' := ?_) (cellarerlaw05_ChainHeld.bs 15 7) rfl rfl (any_of HT_.out (by kernel_rfl)) (fun _ _ _ h => h) (Or.inl ⟨by rfl, ?_⟩) ?_ ?_
              rotate_left
              ·intro w'
               go_simp
               with_reducible rfl
              rotate_left
              ·simp only [Act.put, List.setIfInBounds_toArray, List.set_cons_zero, List.set_cons_succ, i64_w, i32_w]
               rfl
              refine pure_ (i := 3) (N := some 53) (v := ?_) (a' := ?_) (cellarerlaw05_ChainHeld.bs 15 15) rfl rfl (any_of HT_.out (by kernel_rfl)) (fun _ _ _ h => h) (Or.inl ⟨by rfl, ?_⟩) ?_ ?_
              rotate_left
              ·intro w'
               go_simp
               with_reducible rfl
              rotate_left
              ·simp only [Act.put, List.setIfInBounds_toArray, List.set_cons_zero, List.set_cons_succ, i64_w, i32_w]
               rfl
              refine pure_ (i := 4) (N := some 54) (v := ?_) (a' := ?_) (cellarerlaw05_ChainHeld.bs 15 31) rfl rfl (any_of HT_.out (by kernel_rfl)) (fun _ _ _ h => h) (Or.inl ⟨by rfl, ?_⟩) ?_ ?_
              rotate_left
              ·intro w'
               go_simp
               with_reducible rfl
              rotate_left
              ·simp only [Act.put, List.setIfInBounds_toArray, List.set_cons_zero, List.set_cons_succ, i64_w, i32_w]
               rfl
              refine pure_ (i := 5) (N := some 55) (v := ?_) (a' := ?_) (cellarerlaw05_ChainHeld.bs 15 63) rfl rfl (any_of HT_.out (by kernel_rfl)) (fun _ _ _ h => h) (Or.inl ⟨by rfl, ?_⟩) ?_ ?_
              rotate_left
              ·intro w'
               go_simp
               with_reducible rfl
              rotate_left
              ·simp only [Act.put, List.setIfInBounds_toArray, List.set_cons_zero, List.set_cons_succ, i64_w, i32_w]
               rfl
              refine pure_ (i := 6) (N := some 56) (v := ?_) (a' := ?_) (cellarerlaw05_ChainHeld.bs 15 127) rfl rfl (any_of HT_.out (by kernel_rfl)) (fun _ _ _ h => h) (Or.inl ⟨by rfl, ?_⟩) ?_ ?_
              rotate_left
              ·intro w'
               go_simp
               with_reducible rfl
              rotate_left
              ·simp only [Act.put, List.setIfInBounds_toArray, List.set_cons_zero, List.set_cons_succ, i64_w, i32_w]
               rfl
              refine pure_ (i := 7) (N := some 57) (v := ?_) (a' := ?_) (cellarerlaw05_ChainHeld.bs 15 255) rfl rfl (any_of HT_.out (by kernel_rfl)) (fun _ _ _ h => h) (Or.inl ⟨by rfl, ?_⟩) ?_ ?_
              rotate_left
              ·intro w'
               go_simp
               with_reducible rfl
              rotate_left
              ·simp only [Act.put, List.setIfInBounds_toArray, List.set_cons_zero, List.set_cons_succ, i64_w, i32_w]
               rfl
              refine pure_ (i := 9) (N := some 59) (v := ?_) (a' := ?_) (cellarerlaw05_ChainHeld.bs 15 767) rfl rfl (any_of HT_.out (by kernel_rfl)) (fun _ _ _ h => h) (Or.inl ⟨by rfl, ?_⟩) ?_ ?_
              rotate_left
              ·intro w'
               go_simp
               with_reducible rfl
              rotate_left
              ·simp only [Act.put, List.setIfInBounds_toArray, List.set_cons_zero, List.set_cons_succ, i64_w, i32_w]
               rfl
              refine pure_ (i := 10) (N := some 60) (v := ?_) (a' := ?_) (cellarerlaw05_ChainHeld.bs 15 1791) rfl rfl (any_of HT_.out (by kernel_rfl)) (fun _ _ _ h => h) (Or.inl ⟨by rfl, ?_⟩) ?_ ?_
              rotate_left
              ·intro w'
               go_simp
               with_reducible rfl
              rotate_left
              ·simp only [Act.put, List.setIfInBounds_toArray, List.set_cons_zero, List.set_cons_succ, i64_w, i32_w]
               rfl
              refine pure_ (i := 11) (N := some 61) (v := ?_) (a' := ?_) (cellarerlaw05_ChainHeld.bs 15 3839) rfl rfl (any_of HT_.out (by kernel_rfl)) (fun _ _ _ h => h) (Or.inl ⟨by rfl, ?_⟩) ?_ ?_
              rotate_left
              ·intro w'
               go_simp
               with_reducible rfl
              rotate_left
              ·simp only [Act.put, List.setIfInBounds_toArray, List.set_cons_zero, List.set_cons_succ, i64_w, i32_w]
               rfl
              refine take_ (i := 8) (N := some 58) (v := ?_) (a' := ?_) (cellarerlaw05_ChainHeld.bs 15 4095) rfl rfl (take_ofW HT_.out HW_.out (by kernel_rfl)) (fun _ _ _ h => h) (Or.inl ⟨by rfl, ?_⟩) hHeld ?_ ?_
              rotate_left
              ·rintro w' ⟨s0, s1, s2, s3, s4, s5, s6, s7⟩
               go_simp
               with_reducible rfl
              rotate_left
              ·simp only [Act.put, List.setIfInBounds_toArray, List.set_cons_zero, List.set_cons_succ, i64_w, i32_w]
               rfl
              refine take_ (i := 12) (N := some 62) (v := ?_) (a' := ?_) (cellarerlaw05_ChainHeld.bs 15 8191) rfl rfl (take_ofW HT_.out HW_.out (by kernel_rfl)) (fun _ _ _ h => h) (Or.inl ⟨by rfl, ?_⟩) hHeld ?_ ?_
              rotate_left
              ·rintro w' ⟨s0, s1, s2, s3, s4, s5, s6, s7⟩
               go_simp
               with_reducible rfl
              rotate_left
              ·simp only [Act.put, List.setIfInBounds_toArray, List.set_cons_zero, List.set_cons_succ, i64_w, i32_w]
               rfl
              refine pure_ (i := 13) (N := some 63) (v := ?_) (a' := ?_) (cellarerlaw05_ChainHeld.bs 15 16383) rfl rfl (any_of HT_.out (by kernel_rfl)) (fun _ _ _ h => h) (Or.inl ⟨by rfl, ?_⟩) ?_ ?_
              rotate_left
              ·intro w'
               go_simp
               with_reducible rfl
              rotate_left
              ·simp only [Act.put, List.setIfInBounds_toArray, List.set_cons_zero, List.set_cons_succ, i64_w, i32_w]
               rfl
              refine pure_ (i := 14) (N := some 64) (v := ?_) (a' := ?_) (cellarerlaw05_ChainHeld.bs 15 32767) rfl rfl (any_of HT_.out (by kernel_rfl)) (fun _ _ _ h => h) (Or.inl ⟨by rfl, ?_⟩) ?_ ?_
              rotate_left
              ·intro w'
               go_simp
               with_reducible rfl
              rotate_left
              ·simp only [Act.put, List.setIfInBounds_toArray, List.set_cons_zero, List.set_cons_succ, i64_w, i32_w]
               rfl
              refine done_ (done_of HT_.out (by kernel_rfl)) ?_
              try go_wp2
              go_roundg k2
              case measure => have := HJ6.out; have := HK2.out; omega
              case rel => exact ⟨(wrap64 (x7_2 + 1)), (wrap64 (x8_2 + 1)), (by first | rfl | (simp; done) | (simp [*]; done)), (by first | rfl | (simp; done) | (simp [*]; done)), H', ⟨by have := HJ6.out; have := HK2.out; omega⟩, ⟨by (with_reducible repeat (first | apply Kd.R_alloc | apply Kd.R_drewN | apply Kd.R_drew)); exact HO_0.out⟩, ⟨by (with_reducible repeat (first | apply Kd.R_alloc | apply Kd.R_drewN | apply Kd.R_drew)); exact HO_5.out⟩, ⟨by (with_reducible repeat (first | refine blk_drewN ?_ _ | refine blk_drew ?_ | refine blk_alloc ?_ _)); exact BK250.out⟩, ⟨by repeat (first | (with_reducible first | exact HB.out | apply below_alloc | apply pw_below_drewN | apply below_drew1 | refine below_set ?_ GE250.out) | exact HB.out)⟩⟩
            ·rw [if_neg c36] at H
             exact absurd H (by simp)
           ·rw [if_neg c35] at H
            exact absurd H (by simp)
        ·rw [if_neg c30] at H
         exact absurd H (by simp)
       ·rw [if_neg c29] at H
        have c29b0 : decide (x8_2 < (t251.length : Int)) = false := decide_eq_false c29
        clear c29
        by_cases c42 : x7_2 = (t258.length : Int)
        ·rw [if_pos c42] at H
         have c42b0 : (x7_2 == (t258.length : Int)) = true := beq_iff_eq.mpr c42
         have c42b1 : (x7_2 != (t258.length : Int)) = false := bne_eq_false_iff_eq.mpr c42
         clear c42
         replace H := Option.bind_eq_some_iff.mp H
         obtain ⟨t264, A430, H⟩ := H
         replace H : (some t264) = some r := H
         have A43 := Aside0.mk A430
         clear A430
         obtain rfl := Option.some.inj H
         obtain ⟨Ao44, co44, eo44⟩ := Kd.R_slice HO_5.out
         subst eo44
         go_wp2_with (first | (go_at_call 19; (with_reducible refine (cellarerlaw05_awake.calls  t264 _ A43.out).mono ?_); rintro e w45 ⟨rfl, hb⟩; have n0_ := Aside0.mk (Kd.R_below (by (with_reducible repeat (first | apply Kd.R_alloc | apply Kd.R_drewN | apply Kd.R_drew)); exact HO_0.out) hb); have n1_ := Aside0.mk (Kd.R_below (by (with_reducible repeat (first | apply Kd.R_alloc | apply Kd.R_drewN | apply Kd.R_drew)); exact HO_5.out) hb); have n2_ := Aside0.mk (blk_below (g := gb250) (o := .cells #[.int .u64 0, .string t255, .bool t256, .int .i64 t257] 25 (0, 0)) (by (with_reducible repeat (first | refine blk_drewN ?_ _ | refine blk_drew ?_ | refine blk_alloc ?_ _)); exact BK250.out) hb); have n3_ := Aside0.mk (below_step (by repeat (first | (with_reducible first | exact HB.out | apply below_alloc | apply pw_below_drewN | apply below_drew1 | refine below_set ?_ GE250.out) | exact HB.out)) hb); clear HO_0; clear HO_5; clear BK250; clear HB; have HO_0 := n0_; have HO_5 := n1_; have BK250 := n2_; have HB := n3_; clear n0_ n1_ n2_ n3_; (try clear hb); (try clear hb2); (try clear hk); (try clear hi)))
         go_ret
         exact ⟨by first | rfl | (simp [errW_none, errW_some] <;> rfl) | (simp [*, errW_none, errW_some] <;> rfl), by repeat (first | (with_reducible first | exact HB.out | apply below_alloc | apply pw_below_drewN | apply below_drew1 | refine below_set ?_ GE250.out) | exact HB.out)⟩
        ·rw [if_neg c42] at H
         have c42b0 : (x7_2 == (t258.length : Int)) = false := beq_eq_false_iff_ne.mpr c42
         have c42b1 : (x7_2 != (t258.length : Int)) = true := bne_iff_ne.mpr c42
         obtain rfl := Option.some.inj H
         obtain ⟨Ao46, co46, eo46⟩ := Kd.R_slice HO_5.out
         subst eo46
         go_wp2
         go_ret
         exact ⟨by first | rfl | (simp [errW_none, errW_some] <;> rfl) | (simp [*, errW_none, errW_some] <;> rfl), by repeat (first | (with_reducible first | exact HB.out | apply below_alloc | apply pw_below_drewN | apply below_drew1 | refine below_set ?_ GE250.out) | exact HB.out)⟩
 ·rw [if_neg c6] at H
  have c6b0 : (t261 == 0) = false := beq_eq_false_iff_ne.mpr c6
  have c6b1 : (t261 != 0) = true := bne_iff_ne.mpr c6
  by_cases c47 : (t258.length : Int) = 0
  ·rw [if_pos c47] at H
   have c47b0 : ((t258.length : Int) == 0) = true := beq_iff_eq.mpr c47
   have c47b1 : ((t258.length : Int) != 0) = false := bne_eq_false_iff_eq.mpr c47
   clear c47
   replace H := Option.bind_eq_some_iff.mp H
   obtain ⟨t262, A480, H⟩ := H
   replace H : (some t262) = some r := H
   have A48 := Aside0.mk A480
   clear A480
   obtain rfl := Option.some.inj H
   go_enter Try.func5, Try.ntmps5
   try go_wp2_with (first | ((with_reducible refine gate_dst (N := 3) rfl ?_); refine box_event ?hg (N := 3) ?hd (cs := #[.int .u64 a1_0, .string a1_1, .bool a1_2, .int .i64 a1_3]) (t := 25) ?hr ?_; (case hd => rfl); (case hg => rfl); (case hr => first | (go_simp; done) | (go_simp; rfl)); intro gb250 hg w49 hbox hb; have n0_ := Aside0.mk (below_step (by repeat (first | (with_reducible first | exact HB.out | apply below_alloc | apply pw_below_drewN | apply below_drew1) | exact HB.out)) hb); have n1_ := Aside0.mk (hbox); have n2_ := Aside0.mk ((by rw [hg]; exact (below_size (by repeat (first | (with_reducible first | exact HB.out | apply below_alloc | apply pw_below_drewN | apply below_drew1) | exact HB.out))) : w.heap.size ≤ gb250)); have n3_ := Aside0.mk ((by rw [hg]; exact (below_size (by repeat (first | (with_reducible first | exact HB.out | apply below_alloc | apply pw_below_drewN | apply below_drew1) | exact HB.out))) : w.heap.size ≤ gb250)); clear HB; have HB := n0_; have BK250 := n1_; have GW250 := n2_; have GE250 := n3_; clear n0_ n1_ n2_ n3_; clear hb hbox hg))
   have n0_ := Aside0.mk (blk_drew BK250.out)
   have n1_ := Aside0.mk (below_drew1 HB.out)
   clear BK250
   clear HB
   have BK250 := n0_
   have HB := n1_
   clear n0_ n1_
   refine start_ (n := 6) (S := fun w' => w'.cell? ⟨gb250, 0, none⟩ = some (.int .u64 a1_0) ∧ w'.cell? ⟨gb250, 1, none⟩ = some (.string a1_1) ∧ w'.cell? ⟨gb250, 2, none⟩ = some (.bool a1_2) ∧ w'.cell? ⟨gb250, 3, none⟩ = some (.int .i64 a1_3)) (ds := [5]) #[false, false, false, false, false, false] (by kernel_rfl) rfl rfl ⟨(blk_cell BK250.out 0).trans rfl, (blk_cell BK250.out 1).trans rfl, (blk_cell BK250.out 2).trans rfl, (blk_cell BK250.out 3).trans rfl⟩ (fun hHeld => ?_)
   generalize w49.drew = w50 at BK250 HB hHeld ⊢
   refine pure_ (i := 0) (N := some 9) (v := ?_) (a' := ?_) #[true, false, false, false, false, false] rfl rfl (by kernel_rfl) (fun _ _ _ h => h) (Or.inl ⟨by rfl, ?_⟩) ?_ ?_
   rotate_left
   ·intro w'
    go_simp
    with_reducible rfl
   rotate_left
   ·simp only [Act.put, List.setIfInBounds_toArray, List.set_cons_zero, List.set_cons_succ, i64_w, i32_w]
    rfl
   refine take_ (i := 2) (N := some 11) (v := ?_) (a' := ?_) #[true, false, true, false, false, false] rfl rfl (by kernel_rfl) (fun _ _ _ h => h) (Or.inl ⟨by rfl, ?_⟩) hHeld ?_ ?_
   rotate_left
   ·rintro w' ⟨s0, s1, s2, s3⟩
    go_simp
    with_reducible rfl
   rotate_left
   ·simp only [Act.put, List.setIfInBounds_toArray, List.set_cons_zero, List.set_cons_succ, i64_w, i32_w]
    rfl
   refine one_ (i := 1) (N := some 10) #[true, true, true, false, false, false] rfl rfl (by kernel_rfl) (by decide) (fun K hK => ?_)
   refine goes_ Try.func10 (by kernel_rfl) rfl #[.slice A0 l0.length c0] (by rfl) rfl rfl (by (try simp only [List.map_toArray, List.map_cons, List.map_nil]); first | done | rfl | (simp only [List.length_drop, List.length_take]; rfl)) ?_
   with_reducible refine (cellarerlaw05_Few.calls k _ _ l0 t251 _ ?side1 ?side2 A3.out).mono ?_
   (case side1 => repeat (first | exact (Kd.C_below HR0.out HB.out) | (with_reducible refine Kd.C_alloc ?_ _) | (with_reducible refine Kd.C_drewN ?_ _) | (with_reducible refine Kd.C_drew ?_)))
   (case side2 => exact HC0.out)
   rintro e w51 ⟨v252, rfl, ho0, hb⟩
   refine ⟨_, rfl, ?_⟩
   have n0_ := Aside0.mk (Kd.R_lower (Kd.R_newB ho0 (g := gb250) (o := .cells #[.int .u64 a1_0, .string a1_1, .bool a1_2, .int .i64 a1_3] 25 (0, 0)) (by (with_reducible repeat (first | refine blk_drewN ?_ _ | refine blk_drew ?_ | refine blk_alloc ?_ _)); exact BK250.out)) (below_size (by repeat (first | (with_reducible first | exact HB.out | apply below_alloc | apply pw_below_drewN | apply below_drew1 | refine below_set ?_ GE250.out) | exact HB.out))))
   have n1_ := Aside0.mk (blk_below (g := gb250) (o := .cells #[.int .u64 a1_0, .string a1_1, .bool a1_2, .int .i64 a1_3] 25 (0, 0)) (by (with_reducible repeat (first | refine blk_drewN ?_ _ | refine blk_drew ?_ | refine blk_alloc ?_ _)); exact BK250.out) hb)
   have n2_ := Aside0.mk (below_step (by repeat (first | (with_reducible first | exact HB.out | apply below_alloc | apply pw_below_drewN | apply below_drew1 | refine below_set ?_ GE250.out) | exact HB.out)) hb)
   clear BK250
   clear HB
   have HO253 := n0_
   have BK250 := n1_
   have HB := n2_
   clear n0_ n1_ n2_
   (try clear hb)
   (try clear hb2)
   (try clear hk)
   (try clear hi)
   (try clear ho0)
   refine hK.out _ _ ⟨(blk_cell BK250.out 0).trans rfl, (blk_cell BK250.out 1).trans rfl, (blk_cell BK250.out 2).trans rfl, (blk_cell BK250.out 3).trans rfl⟩ (fun hHeld => ?_)
   clear hK K
   refine norm_ (a' := ?_) ?_ ?_
   rotate_left
   ·show Act.put _ (some 10) _ = _
    simp only [Act.put, List.setIfInBounds_toArray, List.set_cons_zero, List.set_cons_succ, i64_w, i32_w]
    rfl
   refine one_ (i := 3) (N := some 12) #[true, true, true, true, false, false] rfl rfl (by kernel_rfl) (by decide) (fun K hK => ?_)
   refine goes_ Try.func11 (by kernel_rfl) rfl #[.agg #[.int .u64 a1_0, .string a1_1, .bool a1_2, .int .i64 a1_3]] (by rfl) rfl rfl (by (try simp only [List.map_toArray, List.map_cons, List.map_nil]); first | done | rfl | (simp only [List.length_drop, List.length_take]; rfl)) ?_
   with_reducible refine (cellarerlaw05_One.calls a1_0 a1_1 a1_2 a1_3 t254 t255 t256 t257 _ A4.out).mono ?_
   rintro e w52 ⟨rfl, hb⟩
   refine ⟨_, rfl, ?_⟩
   have n0_ := Aside0.mk (Kd.R_below (by (with_reducible repeat (first | apply Kd.R_alloc | apply Kd.R_drewN | apply Kd.R_drew)); exact HO253.out) hb)
   have n1_ := Aside0.mk (blk_below (g := gb250) (o := .cells #[.int .u64 a1_0, .string a1_1, .bool a1_2, .int .i64 a1_3] 25 (0, 0)) (by (with_reducible repeat (first | refine blk_drewN ?_ _ | refine blk_drew ?_ | refine blk_alloc ?_ _)); exact BK250.out) hb)
   have n2_ := Aside0.mk (below_step (by repeat (first | (with_reducible first | exact HB.out | apply below_alloc | apply pw_below_drewN | apply below_drew1 | refine below_set ?_ GE250.out) | exact HB.out)) hb)
   clear HO253
   clear BK250
   clear HB
   have HO253 := n0_
   have BK250 := n1_
   have HB := n2_
   clear n0_ n1_ n2_
   (try clear hb)
   (try clear hb2)
   (try clear hk)
   (try clear hi)
   refine hK.out _ _ ⟨(blk_cell BK250.out 0).trans rfl, (blk_cell BK250.out 1).trans rfl, (blk_cell BK250.out 2).trans rfl, (blk_cell BK250.out 3).trans rfl⟩ (fun hHeld => ?_)
   clear hK K
   refine norm_ (a' := ?_) ?_ ?_
   rotate_left
   ·show Act.put _ (some 12) _ = _
    simp only [Act.put, List.setIfInBounds_toArray, List.set_cons_zero, List.set_cons_succ, i64_w, i32_w]
    rfl
   refine pure_ (i := 4) (N := some 0) (v := ?_) (a' := ?_) #[true, true, true, true, true, false] rfl rfl (by kernel_rfl) (fun _ _ _ h => h) (Or.inl ⟨by rfl, ?_⟩) ?_ ?_
   rotate_left
   ·intro w'
    go_simp
    with_reducible rfl
   rotate_left
   ·simp only [Act.put, List.setIfInBounds_toArray, List.set_cons_zero, List.set_cons_succ, i64_w, i32_w]
    rfl
   refine last_ (i := 5) (N := none) #[true, true, true, true, true, true] rfl rfl (by kernel_rfl) (by decide) (fun K hK => ?_)
   have hs53 : w52.cell? ⟨gb250, 0, none⟩ = some (.int .u64 a1_0) := (blk_cell BK250.out 0).trans rfl
   have hfs53 := blk_frozen BK250.out 0
   have hs54 : w52.cell? ⟨gb250, 1, none⟩ = some (.string a1_1) := (blk_cell BK250.out 1).trans rfl
   have hfs54 := blk_frozen BK250.out 1
   have hs55 : w52.cell? ⟨gb250, 2, none⟩ = some (.bool a1_2) := (blk_cell BK250.out 2).trans rfl
   have hfs55 := blk_frozen BK250.out 2
   have hs56 : w52.cell? ⟨gb250, 3, none⟩ = some (.int .i64 a1_3) := (blk_cell BK250.out 3).trans rfl
   have hfs56 := blk_frozen BK250.out 3
   refine skip_ (w1 := ?_) (by rfl) rfl ?_ ?_
   rotate_left
   ·go_simp
    rfl
   refine hK.out _ _ ?_
   clear hK K
   refine done_ (by kernel_rfl) ?_
   have hcz57_0 : w52.cell? ⟨gb250, 0, none⟩ = some (.int .u64 a1_0) := (blk_cell BK250.out 0).trans rfl
   have hcz57_1 : w52.cell? ⟨gb250, 1, none⟩ = some (.string a1_1) := (blk_cell BK250.out 1).trans rfl
   have hcz57_2 : w52.cell? ⟨gb250, 2, none⟩ = some (.bool a1_2) := (blk_cell BK250.out 2).trans rfl
   have hcz57_3 : w52.cell? ⟨gb250, 3, none⟩ = some (.int .i64 a1_3) := (blk_cell BK250.out 3).trans rfl
   have hfz57_0 := blk_frozen BK250.out 0
   have hfz57_1 := blk_frozen BK250.out 1
   have hfz57_2 := blk_frozen BK250.out 2
   have hfz57_3 := blk_frozen BK250.out 3
   obtain ⟨Ao58, co58, eo58⟩ := Kd.R_slice HO253.out
   subst eo58
   try go_wp2_with (first | ((with_reducible refine gate_callee (f := 12) rfl ?_); refine goesL_ (some 16) rfl rfl Try.func12 (by kernel_rfl) rfl #[.slice Ao58 t251.length co58, .int .i64 2, .agg #[.int .u64 t254, .string t255, .bool t256, .int .i64 t257]] rfl (by (try simp only [List.map_toArray, List.map_cons, List.map_nil]); first | done | rfl | (simp only [List.length_drop, List.length_take]; rfl)) ?_; (with_reducible refine (chain_Put.calls _ _ t251 2 t254 t255 t256 t257 t258 t261 _ ?side1 ?side2 A5.out).mono ?_); (case side1 => refine (Kd.R_reads' (e := 25) (base := w.heap.size) (ok := fun k_ => (True ∧ k_ ≠ gb250)) (n := t251.length) (c := co58) ?_).2.2; exact (by (with_reducible repeat (first | apply Kd.R_alloc | apply Kd.R_drewN | apply Kd.R_drew)); exact (Kd.R_mono (Kd.R_far (p := ⟨gb250, 3, none⟩) (Kd.R_far (p := ⟨gb250, 2, none⟩) (Kd.R_far (p := ⟨gb250, 1, none⟩) (Kd.R_far (p := ⟨gb250, 0, none⟩) (Kd.R_mono HO253.out (fun k_ hk => (⟨hk, hk.2⟩ : _ ∧ k_ ≠ gb250))) (fun _ hk => hk.2) (.int .u64 t254)) (fun _ hk => hk.2) (.string t255)) (fun _ hk => hk.2) (.bool t256)) (fun _ hk => hk.2) (.int .i64 t257)) (fun _ h_ => h_.1)))); (case side2 => exact (Kd.R_reads' HO253.out).2.1); rintro e w59 ⟨v259, rfl, ho0, hb⟩; refine ⟨_, rfl, ?_⟩; have n0_ := Aside0.mk (Kd.R_elder' (by (with_reducible repeat (first | apply Kd.R_alloc | apply Kd.R_drewN | apply Kd.R_drew)); exact (Kd.R_mono (Kd.R_far (p := ⟨gb250, 3, none⟩) (Kd.R_far (p := ⟨gb250, 2, none⟩) (Kd.R_far (p := ⟨gb250, 1, none⟩) (Kd.R_far (p := ⟨gb250, 0, none⟩) (Kd.R_mono HO253.out (fun k_ hk => (⟨hk, hk.2⟩ : _ ∧ k_ ≠ gb250))) (fun _ hk => hk.2) (.int .u64 t254)) (fun _ hk => hk.2) (.string t255)) (fun _ hk => hk.2) (.bool t256)) (fun _ hk => hk.2) (.int .i64 t257)) (fun _ h_ => h_.1))) (Kd.R_base ho0) hb); have n1_ := Aside0.mk (Kd.R_lower (Kd.R_newB (Kd.R_new' ho0 (Kd.R_lt (by (with_reducible repeat (first | apply Kd.R_alloc | apply Kd.R_drewN | apply Kd.R_drew)); exact (Kd.R_mono (Kd.R_far (p := ⟨gb250, 3, none⟩) (Kd.R_far (p := ⟨gb250, 2, none⟩) (Kd.R_far (p := ⟨gb250, 1, none⟩) (Kd.R_far (p := ⟨gb250, 0, none⟩) (Kd.R_mono HO253.out (fun k_ hk => (⟨hk, hk.2⟩ : _ ∧ k_ ≠ gb250))) (fun _ hk => hk.2) (.int .u64 t254)) (fun _ hk => hk.2) (.string t255)) (fun _ hk => hk.2) (.bool t256)) (fun _ hk => hk.2) (.int .i64 t257)) (fun _ h_ => h_.1))))) (g := gb250) (o := .cells #[.int .u64 t254, .string t255, .bool t256, .int .i64 t257] 25 (0, 0)) (by (with_reducible repeat (first | refine blk_drewN ?_ _ | refine blk_drew ?_ | refine blk_alloc ?_ _)); refine blk_put (cs := #[.int .u64 t254, .string t255, .bool t256, .int .i64 a1_3]) ?_ 3 _ rfl; (with_reducible repeat (first | refine blk_drewN ?_ _ | refine blk_drew ?_ | refine blk_alloc ?_ _)); refine blk_put (cs := #[.int .u64 t254, .string t255, .bool a1_2, .int .i64 a1_3]) ?_ 2 _ rfl; (with_reducible repeat (first | refine blk_drewN ?_ _ | refine blk_drew ?_ | refine blk_alloc ?_ _)); refine blk_put (cs := #[.int .u64 t254, .string a1_1, .bool a1_2, .int .i64 a1_3]) ?_ 1 _ rfl; (with_reducible repeat (first | refine blk_drewN ?_ _ | refine blk_drew ?_ | refine blk_alloc ?_ _)); refine blk_put (cs := #[.int .u64 a1_0, .string a1_1, .bool a1_2, .int .i64 a1_3]) ?_ 0 _ rfl; (with_reducible repeat (first | refine blk_drewN ?_ _ | refine blk_drew ?_ | refine blk_alloc ?_ _)); exact BK250.out)) (below_size (by repeat (first | (with_reducible first | exact HB.out | apply below_alloc | apply pw_below_drewN | apply below_drew1 | refine below_set ?_ GE250.out) | exact HB.out)))); have n2_ := Aside0.mk (blk_below (g := gb250) (o := .cells #[.int .u64 t254, .string t255, .bool t256, .int .i64 t257] 25 (0, 0)) (by (with_reducible repeat (first | refine blk_drewN ?_ _ | refine blk_drew ?_ | refine blk_alloc ?_ _)); refine blk_put (cs := #[.int .u64 t254, .string t255, .bool t256, .int .i64 a1_3]) ?_ 3 _ rfl; (with_reducible repeat (first | refine blk_drewN ?_ _ | refine blk_drew ?_ | refine blk_alloc ?_ _)); refine blk_put (cs := #[.int .u64 t254, .string t255, .bool a1_2, .int .i64 a1_3]) ?_ 2 _ rfl; (with_reducible repeat (first | refine blk_drewN ?_ _ | refine blk_drew ?_ | refine blk_alloc ?_ _)); refine blk_put (cs := #[.int .u64 t254, .string a1_1, .bool a1_2, .int .i64 a1_3]) ?_ 1 _ rfl; (with_reducible repeat (first | refine blk_drewN ?_ _ | refine blk_drew ?_ | refine blk_alloc ?_ _)); refine blk_put (cs := #[.int .u64 a1_0, .string a1_1, .bool a1_2, .int .i64 a1_3]) ?_ 0 _ rfl; (with_reducible repeat (first | refine blk_drewN ?_ _ | refine blk_drew ?_ | refine blk_alloc ?_ _)); exact BK250.out) hb); have n3_ := Aside0.mk (below_step (by repeat (first | (with_reducible first | exact HB.out | apply below_alloc | apply pw_below_drewN | apply below_drew1 | refine below_set ?_ GE250.out) | exact HB.out)) hb); clear HO253; clear BK250; clear HB; have HO253 := n0_; have HO260 := n1_; have BK250 := n2_; have HB := n3_; clear n0_ n1_ n2_ n3_; (try clear hb); (try clear hb2); (try clear hk); (try clear hi); (try clear ho0); obtain ⟨Ao60, co60, eo60⟩ := Kd.R_slice HO260.out; subst eo60) | (go_at_call 19; (with_reducible refine (cellarerlaw05_awake.calls  t262 _ A48.out).mono ?_); rintro e w61 ⟨rfl, hb⟩; have n0_ := Aside0.mk (Kd.R_below (by (with_reducible repeat (first | apply Kd.R_alloc | apply Kd.R_drewN | apply Kd.R_drew)); exact HO253.out) hb); have n1_ := Aside0.mk (Kd.R_below (by (with_reducible repeat (first | apply Kd.R_alloc | apply Kd.R_drewN | apply Kd.R_drew)); exact HO260.out) hb); have n2_ := Aside0.mk (blk_below (g := gb250) (o := .cells #[.int .u64 t254, .string t255, .bool t256, .int .i64 t257] 25 (0, 0)) (by (with_reducible repeat (first | refine blk_drewN ?_ _ | refine blk_drew ?_ | refine blk_alloc ?_ _)); exact BK250.out) hb); have n3_ := Aside0.mk (below_step (by repeat (first | (with_reducible first | exact HB.out | apply below_alloc | apply pw_below_drewN | apply below_drew1 | refine below_set ?_ GE250.out) | exact HB.out)) hb); clear HO253; clear HO260; clear BK250; clear HB; have HO253 := n0_; have HO260 := n1_; have BK250 := n2_; have HB := n3_; clear n0_ n1_ n2_ n3_; (try clear hb); (try clear hb2); (try clear hk); (try clear hi)))
   go_ret
   exact ⟨by first | rfl | (simp [errW_none, errW_some] <;> rfl) | (simp [*, errW_none, errW_some] <;> rfl), by repeat (first | (with_reducible first | exact HB.out | apply below_alloc | apply pw_below_drewN | apply below_drew1 | refine below_set ?_ GE250.out) | exact HB.out)⟩
  ·rw [if_neg c47] at H
   have c47b0 : ((t258.length : Int) == 0) = false := beq_eq_false_iff_ne.mpr c47
   have c47b1 : ((t258.length : Int) != 0) = true := bne_iff_ne.mpr c47
   have c47b2 : ¬ (t258 = []) := fun h_ => c47 (by rw [h_]; rfl)
   obtain rfl := Option.some.inj H
   go_enter Try.func5, Try.ntmps5
   try go_wp2_with (first | ((with_reducible refine gate_dst (N := 3) rfl ?_); refine box_event ?hg (N := 3) ?hd (cs := #[.int .u64 a1_0, .string a1_1, .bool a1_2, .int .i64 a1_3]) (t := 25) ?hr ?_; (case hd => rfl); (case hg => rfl); (case hr => first | (go_simp; done) | (go_simp; rfl)); intro gb250 hg w62 hbox hb; have n0_ := Aside0.mk (below_step (by repeat (first | (with_reducible first | exact HB.out | apply below_alloc | apply pw_below_drewN | apply below_drew1) | exact HB.out)) hb); have n1_ := Aside0.mk (hbox); have n2_ := Aside0.mk ((by rw [hg]; exact (below_size (by repeat (first | (with_reducible first | exact HB.out | apply below_alloc | apply pw_below_drewN | apply below_drew1) | exact HB.out))) : w.heap.size ≤ gb250)); have n3_ := Aside0.mk ((by rw [hg]; exact (below_size (by repeat (first | (with_reducible first | exact HB.out | apply below_alloc | apply pw_below_drewN | apply below_drew1) | exact HB.out))) : w.heap.size ≤ gb250)); clear HB; have HB := n0_; have BK250 := n1_; have GW250 := n2_; have GE250 := n3_; clear n0_ n1_ n2_ n3_; clear hb hbox hg))
   have n0_ := Aside0.mk (blk_drew BK250.out)
   have n1_ := Aside0.mk (below_drew1 HB.out)
   clear BK250
   clear HB
   have BK250 := n0_
   have HB := n1_
   clear n0_ n1_
   refine start_ (n := 6) (S := fun w' => w'.cell? ⟨gb250, 0, none⟩ = some (.int .u64 a1_0) ∧ w'.cell? ⟨gb250, 1, none⟩ = some (.string a1_1) ∧ w'.cell? ⟨gb250, 2, none⟩ = some (.bool a1_2) ∧ w'.cell? ⟨gb250, 3, none⟩ = some (.int .i64 a1_3)) (ds := [5]) #[false, false, false, false, false, false] (by kernel_rfl) rfl rfl ⟨(blk_cell BK250.out 0).trans rfl, (blk_cell BK250.out 1).trans rfl, (blk_cell BK250.out 2).trans rfl, (blk_cell BK250.out 3).trans rfl⟩ (fun hHeld => ?_)
   generalize w62.drew = w63 at BK250 HB hHeld ⊢
   refine pure_ (i := 0) (N := some 9) (v := ?_) (a' := ?_) #[true, false, false, false, false, false] rfl rfl (by kernel_rfl) (fun _ _ _ h => h) (Or.inl ⟨by rfl, ?_⟩) ?_ ?_
   rotate_left
   ·intro w'
    go_simp
    with_reducible rfl
   rotate_left
   ·simp only [Act.put, List.setIfInBounds_toArray, List.set_cons_zero, List.set_cons_succ, i64_w, i32_w]
    rfl
   refine take_ (i := 2) (N := some 11) (v := ?_) (a' := ?_) #[true, false, true, false, false, false] rfl rfl (by kernel_rfl) (fun _ _ _ h => h) (Or.inl ⟨by rfl, ?_⟩) hHeld ?_ ?_
   rotate_left
   ·rintro w' ⟨s0, s1, s2, s3⟩
    go_simp
    with_reducible rfl
   rotate_left
   ·simp only [Act.put, List.setIfInBounds_toArray, List.set_cons_zero, List.set_cons_succ, i64_w, i32_w]
    rfl
   refine one_ (i := 1) (N := some 10) #[true, true, true, false, false, false] rfl rfl (by kernel_rfl) (by decide) (fun K hK => ?_)
   refine goes_ Try.func10 (by kernel_rfl) rfl #[.slice A0 l0.length c0] (by rfl) rfl rfl (by (try simp only [List.map_toArray, List.map_cons, List.map_nil]); first | done | rfl | (simp only [List.length_drop, List.length_take]; rfl)) ?_
   with_reducible refine (cellarerlaw05_Few.calls k _ _ l0 t251 _ ?side1 ?side2 A3.out).mono ?_
   (case side1 => repeat (first | exact (Kd.C_below HR0.out HB.out) | (with_reducible refine Kd.C_alloc ?_ _) | (with_reducible refine Kd.C_drewN ?_ _) | (with_reducible refine Kd.C_drew ?_)))
   (case side2 => exact HC0.out)
   rintro e w64 ⟨v252, rfl, ho0, hb⟩
   refine ⟨_, rfl, ?_⟩
   have n0_ := Aside0.mk (Kd.R_lower (Kd.R_newB ho0 (g := gb250) (o := .cells #[.int .u64 a1_0, .string a1_1, .bool a1_2, .int .i64 a1_3] 25 (0, 0)) (by (with_reducible repeat (first | refine blk_drewN ?_ _ | refine blk_drew ?_ | refine blk_alloc ?_ _)); exact BK250.out)) (below_size (by repeat (first | (with_reducible first | exact HB.out | apply below_alloc | apply pw_below_drewN | apply below_drew1 | refine below_set ?_ GE250.out) | exact HB.out))))
   have n1_ := Aside0.mk (blk_below (g := gb250) (o := .cells #[.int .u64 a1_0, .string a1_1, .bool a1_2, .int .i64 a1_3] 25 (0, 0)) (by (with_reducible repeat (first | refine blk_drewN ?_ _ | refine blk_drew ?_ | refine blk_alloc ?_ _)); exact BK250.out) hb)
   have n2_ := Aside0.mk (below_step (by repeat (first | (with_reducible first | exact HB.out | apply below_alloc | apply pw_below_drewN | apply below_drew1 | refine below_set ?_ GE250.out) | exact HB.out)) hb)
   clear BK250
   clear HB
   have HO253 := n0_
   have BK250 := n1_
   have HB := n2_
   clear n0_ n1_ n2_
   (try clear hb)
   (try clear hb2)
   (try clear hk)
   (try clear hi)
   (try clear ho0)
   refine hK.out _ _ ⟨(blk_cell BK250.out 0).trans rfl, (blk_cell BK250.out 1).trans rfl, (blk_cell BK250.out 2).trans rfl, (blk_cell BK250.out 3).trans rfl⟩ (fun hHeld => ?_)
   clear hK K
   refine norm_ (a' := ?_) ?_ ?_
   rotate_left
   ·show Act.put _ (some 10) _ = _
    simp only [Act.put, List.setIfInBounds_toArray, List.set_cons_zero, List.set_cons_succ, i64_w, i32_w]
    rfl
   refine one_ (i := 3) (N := some 12) #[true, true, true, true, false, false] rfl rfl (by kernel_rfl) (by decide) (fun K hK => ?_)
   refine goes_ Try.func11 (by kernel_rfl) rfl #[.agg #[.int .u64 a1_0, .string a1_1, .bool a1_2, .int .i64 a1_3]] (by rfl) rfl rfl (by (try simp only [List.map_toArray, List.map_cons, List.map_nil]); first | done | rfl | (simp only [List.length_drop, List.length_take]; rfl)) ?_
   with_reducible refine (cellarerlaw05_One.calls a1_0 a1_1 a1_2 a1_3 t254 t255 t256 t257 _ A4.out).mono ?_
   rintro e w65 ⟨rfl, hb⟩
   refine ⟨_, rfl, ?_⟩
   have n0_ := Aside0.mk (Kd.R_below (by (with_reducible repeat (first | apply Kd.R_alloc | apply Kd.R_drewN | apply Kd.R_drew)); exact HO253.out) hb)
   have n1_ := Aside0.mk (blk_below (g := gb250) (o := .cells #[.int .u64 a1_0, .string a1_1, .bool a1_2, .int .i64 a1_3] 25 (0, 0)) (by (with_reducible repeat (first | refine blk_drewN ?_ _ | refine blk_drew ?_ | refine blk_alloc ?_ _)); exact BK250.out) hb)
   have n2_ := Aside0.mk (below_step (by repeat (first | (with_reducible first | exact HB.out | apply below_alloc | apply pw_below_drewN | apply below_drew1 | refine below_set ?_ GE250.out) | exact HB.out)) hb)
   clear HO253
   clear BK250
   clear HB
   have HO253 := n0_
   have BK250 := n1_
   have HB := n2_
   clear n0_ n1_ n2_
   (try clear hb)
   (try clear hb2)
   (try clear hk)
   (try clear hi)
   refine hK.out _ _ ⟨(blk_cell BK250.out 0).trans rfl, (blk_cell BK250.out 1).trans rfl, (blk_cell BK250.out 2).trans rfl, (blk_cell BK250.out 3).trans rfl⟩ (fun hHeld => ?_)
   clear hK K
   refine norm_ (a' := ?_) ?_ ?_
   rotate_left
   ·show Act.put _ (some 12) _ = _
    simp only [Act.put, List.setIfInBounds_toArray, List.set_cons_zero, List.set_cons_succ, i64_w, i32_w]
    rfl
   refine pure_ (i := 4) (N := some 0) (v := ?_) (a' := ?_) #[true, true, true, true, true, false] rfl rfl (by kernel_rfl) (fun _ _ _ h => h) (Or.inl ⟨by rfl, ?_⟩) ?_ ?_
   rotate_left
   ·intro w'
    go_simp
    with_reducible rfl
   rotate_left
   ·simp only [Act.put, List.setIfInBounds_toArray, List.set_cons_zero, List.set_cons_succ, i64_w, i32_w]
    rfl
   refine last_ (i := 5) (N := none) #[true, true, true, true, true, true] rfl rfl (by kernel_rfl) (by decide) (fun K hK => ?_)
   have hs66 : w65.cell? ⟨gb250, 0, none⟩ = some (.int .u64 a1_0) := (blk_cell BK250.out 0).trans rfl
   have hfs66 := blk_frozen BK250.out 0
   have hs67 : w65.cell? ⟨gb250, 1, none⟩ = some (.string a1_1) := (blk_cell BK250.out 1).trans rfl
   have hfs67 := blk_frozen BK250.out 1
   have hs68 : w65.cell? ⟨gb250, 2, none⟩ = some (.bool a1_2) := (blk_cell BK250.out 2).trans rfl
   have hfs68 := blk_frozen BK250.out 2
   have hs69 : w65.cell? ⟨gb250, 3, none⟩ = some (.int .i64 a1_3) := (blk_cell BK250.out 3).trans rfl
   have hfs69 := blk_frozen BK250.out 3
   refine skip_ (w1 := ?_) (by rfl) rfl ?_ ?_
   rotate_left
   ·go_simp
    rfl
   refine hK.out _ _ ?_
   clear hK K
   refine done_ (by kernel_rfl) ?_
   have hcz70_0 : w65.cell? ⟨gb250, 0, none⟩ = some (.int .u64 a1_0) := (blk_cell BK250.out 0).trans rfl
   have hcz70_1 : w65.cell? ⟨gb250, 1, none⟩ = some (.string a1_1) := (blk_cell BK250.out 1).trans rfl
   have hcz70_2 : w65.cell? ⟨gb250, 2, none⟩ = some (.bool a1_2) := (blk_cell BK250.out 2).trans rfl
   have hcz70_3 : w65.cell? ⟨gb250, 3, none⟩ = some (.int .i64 a1_3) := (blk_cell BK250.out 3).trans rfl
   have hfz70_0 := blk_frozen BK250.out 0
   have hfz70_1 := blk_frozen BK250.out 1
   have hfz70_2 := blk_frozen BK250.out 2
   have hfz70_3 := blk_frozen BK250.out 3
   obtain ⟨Ao71, co71, eo71⟩ := Kd.R_slice HO253.out
   subst eo71
   try go_wp2_with (first | ((with_reducible refine gate_callee (f := 12) rfl ?_); refine goesL_ (some 16) rfl rfl Try.func12 (by kernel_rfl) rfl #[.slice Ao71 t251.length co71, .int .i64 2, .agg #[.int .u64 t254, .string t255, .bool t256, .int .i64 t257]] rfl (by (try simp only [List.map_toArray, List.map_cons, List.map_nil]); first | done | rfl | (simp only [List.length_drop, List.length_take]; rfl)) ?_; (with_reducible refine (chain_Put.calls _ _ t251 2 t254 t255 t256 t257 t258 t261 _ ?side1 ?side2 A5.out).mono ?_); (case side1 => refine (Kd.R_reads' (e := 25) (base := w.heap.size) (ok := fun k_ => (True ∧ k_ ≠ gb250)) (n := t251.length) (c := co71) ?_).2.2; exact (by (with_reducible repeat (first | apply Kd.R_alloc | apply Kd.R_drewN | apply Kd.R_drew)); exact (Kd.R_mono (Kd.R_far (p := ⟨gb250, 3, none⟩) (Kd.R_far (p := ⟨gb250, 2, none⟩) (Kd.R_far (p := ⟨gb250, 1, none⟩) (Kd.R_far (p := ⟨gb250, 0, none⟩) (Kd.R_mono HO253.out (fun k_ hk => (⟨hk, hk.2⟩ : _ ∧ k_ ≠ gb250))) (fun _ hk => hk.2) (.int .u64 t254)) (fun _ hk => hk.2) (.string t255)) (fun _ hk => hk.2) (.bool t256)) (fun _ hk => hk.2) (.int .i64 t257)) (fun _ h_ => h_.1)))); (case side2 => exact (Kd.R_reads' HO253.out).2.1); rintro e w72 ⟨v259, rfl, ho0, hb⟩; refine ⟨_, rfl, ?_⟩; have n0_ := Aside0.mk (Kd.R_elder' (by (with_reducible repeat (first | apply Kd.R_alloc | apply Kd.R_drewN | apply Kd.R_drew)); exact (Kd.R_mono (Kd.R_far (p := ⟨gb250, 3, none⟩) (Kd.R_far (p := ⟨gb250, 2, none⟩) (Kd.R_far (p := ⟨gb250, 1, none⟩) (Kd.R_far (p := ⟨gb250, 0, none⟩) (Kd.R_mono HO253.out (fun k_ hk => (⟨hk, hk.2⟩ : _ ∧ k_ ≠ gb250))) (fun _ hk => hk.2) (.int .u64 t254)) (fun _ hk => hk.2) (.string t255)) (fun _ hk => hk.2) (.bool t256)) (fun _ hk => hk.2) (.int .i64 t257)) (fun _ h_ => h_.1))) (Kd.R_base ho0) hb); have n1_ := Aside0.mk (Kd.R_lower (Kd.R_newB (Kd.R_new' ho0 (Kd.R_lt (by (with_reducible repeat (first | apply Kd.R_alloc | apply Kd.R_drewN | apply Kd.R_drew)); exact (Kd.R_mono (Kd.R_far (p := ⟨gb250, 3, none⟩) (Kd.R_far (p := ⟨gb250, 2, none⟩) (Kd.R_far (p := ⟨gb250, 1, none⟩) (Kd.R_far (p := ⟨gb250, 0, none⟩) (Kd.R_mono HO253.out (fun k_ hk => (⟨hk, hk.2⟩ : _ ∧ k_ ≠ gb250))) (fun _ hk => hk.2) (.int .u64 t254)) (fun _ hk => hk.2) (.string t255)) (fun _ hk => hk.2) (.bool t256)) (fun _ hk => hk.2) (.int .i64 t257)) (fun _ h_ => h_.1))))) (g := gb250) (o := .cells #[.int .u64 t254, .string t255, .bool t256, .int .i64 t257] 25 (0, 0)) (by (with_reducible repeat (first | refine blk_drewN ?_ _ | refine blk_drew ?_ | refine blk_alloc ?_ _)); refine blk_put (cs := #[.int .u64 t254, .string t255, .bool t256, .int .i64 a1_3]) ?_ 3 _ rfl; (with_reducible repeat (first | refine blk_drewN ?_ _ | refine blk_drew ?_ | refine blk_alloc ?_ _)); refine blk_put (cs := #[.int .u64 t254, .string t255, .bool a1_2, .int .i64 a1_3]) ?_ 2 _ rfl; (with_reducible repeat (first | refine blk_drewN ?_ _ | refine blk_drew ?_ | refine blk_alloc ?_ _)); refine blk_put (cs := #[.int .u64 t254, .string a1_1, .bool a1_2, .int .i64 a1_3]) ?_ 1 _ rfl; (with_reducible repeat (first | refine blk_drewN ?_ _ | refine blk_drew ?_ | refine blk_alloc ?_ _)); refine blk_put (cs := #[.int .u64 a1_0, .string a1_1, .bool a1_2, .int .i64 a1_3]) ?_ 0 _ rfl; (with_reducible repeat (first | refine blk_drewN ?_ _ | refine blk_drew ?_ | refine blk_alloc ?_ _)); exact BK250.out)) (below_size (by repeat (first | (with_reducible first | exact HB.out | apply below_alloc | apply pw_below_drewN | apply below_drew1 | refine below_set ?_ GE250.out) | exact HB.out)))); have n2_ := Aside0.mk (blk_below (g := gb250) (o := .cells #[.int .u64 t254, .string t255, .bool t256, .int .i64 t257] 25 (0, 0)) (by (with_reducible repeat (first | refine blk_drewN ?_ _ | refine blk_drew ?_ | refine blk_alloc ?_ _)); refine blk_put (cs := #[.int .u64 t254, .string t255, .bool t256, .int .i64 a1_3]) ?_ 3 _ rfl; (with_reducible repeat (first | refine blk_drewN ?_ _ | refine blk_drew ?_ | refine blk_alloc ?_ _)); refine blk_put (cs := #[.int .u64 t254, .string t255, .bool a1_2, .int .i64 a1_3]) ?_ 2 _ rfl; (with_reducible repeat (first | refine blk_drewN ?_ _ | refine blk_drew ?_ | refine blk_alloc ?_ _)); refine blk_put (cs := #[.int .u64 t254, .string a1_1, .bool a1_2, .int .i64 a1_3]) ?_ 1 _ rfl; (with_reducible repeat (first | refine blk_drewN ?_ _ | refine blk_drew ?_ | refine blk_alloc ?_ _)); refine blk_put (cs := #[.int .u64 a1_0, .string a1_1, .bool a1_2, .int .i64 a1_3]) ?_ 0 _ rfl; (with_reducible repeat (first | refine blk_drewN ?_ _ | refine blk_drew ?_ | refine blk_alloc ?_ _)); exact BK250.out) hb); have n3_ := Aside0.mk (below_step (by repeat (first | (with_reducible first | exact HB.out | apply below_alloc | apply pw_below_drewN | apply below_drew1 | refine below_set ?_ GE250.out) | exact HB.out)) hb); clear HO253; clear BK250; clear HB; have HO253 := n0_; have HO260 := n1_; have BK250 := n2_; have HB := n3_; clear n0_ n1_ n2_ n3_; (try clear hb); (try clear hb2); (try clear hk); (try clear hi); (try clear ho0); obtain ⟨Ao73, co73, eo73⟩ := Kd.R_slice HO260.out; subst eo73))
   go_ret
   exact ⟨by first | rfl | (simp [errW_none, errW_some] <;> rfl) | (simp [*, errW_none, errW_some] <;> rfl), by repeat (first | (with_reducible first | exact HB.out | apply below_alloc | apply pw_below_drewN | apply below_drew1 | refine below_set ?_ GE250.out) | exact HB.out)⟩

/-- THE ONE PURE STATEMENT of cellarerlaw05_ChainHeld. -/
-- GIVEN cellarerlaw05_ChainHeld.Pure
def cellarerlaw05_ChainHeld.Pure : Prop := ∀ (l0 : List (S25)) (a1_0 : Int) (a1_1 : ByteArray) (a1_2 : Bool) (a1_3 : Int), (l0.length ≤ maxLen ∧ ∀ y1_ ∈ l0, okS25 y1_) → okS25 (⟨a1_0, a1_1, a1_2, a1_3⟩ : S25) → ∃ k, cellarerlaw05_ChainHeld.f k l0 a1_0 a1_1 a1_2 a1_3 = some true

end Go.Proofs.Ytldmidoemcdaaaa.P
