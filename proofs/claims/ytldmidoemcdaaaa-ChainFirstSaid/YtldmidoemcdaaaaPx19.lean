/- Printed by a program of this session (wip/tools/gprint.py, over the kit's print) out of the translation: functions and their contracts. -/
import Derived.Test.YtldmidoemcdaaaaPx0
import Derived.Test.YtldmidoemcdaaaaPx1
import Derived.Test.YtldmidoemcdaaaaPx2
import Derived.Test.YtldmidoemcdaaaaPx10
import Derived.Test.YtldmidoemcdaaaaPx11
import Derived.Test.YtldmidoemcdaaaaPx16
import Derived.Test.YtldmidoemcdaaaaPxOpens
namespace Go.Proofs.Ytldmidoemcdaaaa.P
open Go.RowKit Go.Proofs.YtldmidoemcdaaaaW.PrintWords Go.Proofs.YtldmidoemcdaaaaW.PrintLast Go.Proofs.YtldmidoemcdaaaaW.PrintMore
attribute [local go_sem] max2_int min2_int max_two min_two max_three min_three max_four min_four   -- for this text's walks alone
set_option linter.unusedVariables false
set_option linter.unusedSimpArgs false

attribute [local go_sem high] eqA25
/-! ### cellarerlaw05_ChainFirst: function 9 -/
mutual
def cellarerlaw05_ChainFirst.l0 : Nat → List (S25) → Int → Bool → Int → Option (Bool)
  | 0, _, _, _, _ => none
  | k + 1, x0, x1, x5, x6 => if x6 < (x0.length : Int) then (if 0 ≤ x6 then ((chain_Find.f k x0 ((rd_T25 x0 x6).f0)).bind fun bt380 => (if (!(bt380.1 == ((rd_T25 x0 x6).f0)) || (!(bt380.2.1.toList == (((rd_T25 x0 x6).f1).toList)) || (!(bt380.2.2.1 == ((rd_T25 x0 x6).f2)) || (!(bt380.2.2.2.1 == ((rd_T25 x0 x6).f3)))))) = true then (cellarerlaw05_ChainFirst.j1 k x0 x1 x5 x6 true) else (if ((bt380.2.2.2.2 == 13) != ((rd_T25 x0 x6).f2)) = true then (cellarerlaw05_ChainFirst.j1 k x0 x1 x5 x6 true) else (if bt380.2.2.2.2 = 0 then (cellarerlaw05_ChainFirst.j1 k x0 x1 x5 x6 false) else (cellarerlaw05_ChainFirst.j1 k x0 x1 x5 x6 (bt380.2.2.2.2 != 13)))))) else (none)) else ((chain_Get.f k x0).bind fun bt389 => (if (x0.length : Int) = 0 then (if bt389.2.2.2.2 = 4 then (if (x0.length : Int) > 0 then (if 0 < (x0.length : Int) then (cellarerlaw05_ChainFirst.j2 k x0 x1 x5 (!(bt389.1 == ((rd_T25 x0 0).f0)) || (!(bt389.2.1.toList == (((rd_T25 x0 0).f1).toList)) || (!(bt389.2.2.1 == ((rd_T25 x0 0).f2)) || (!(bt389.2.2.2.1 == ((rd_T25 x0 0).f3))))))) else (none)) else (cellarerlaw05_ChainFirst.j2 k x0 x1 x5 false)) else (cellarerlaw05_ChainFirst.j2 k x0 x1 x5 true)) else (if (x0.length : Int) > 0 then (if 0 < (x0.length : Int) then (cellarerlaw05_ChainFirst.j2 k x0 x1 x5 (!(bt389.1 == ((rd_T25 x0 0).f0)) || (!(bt389.2.1.toList == (((rd_T25 x0 0).f1).toList)) || (!(bt389.2.2.1 == ((rd_T25 x0 0).f2)) || (!(bt389.2.2.2.1 == ((rd_T25 x0 0).f3))))))) else (none)) else (cellarerlaw05_ChainFirst.j2 k x0 x1 x5 false))))
def cellarerlaw05_ChainFirst.j1 : Nat → List (S25) → Int → Bool → Int → Bool → Option (Bool)
  | 0, _, _, _, _, _ => none
  | k + 1, x0, x1, x5, x6, x58 => if x58 = true then (some false) else (if x5 = true then (cellarerlaw05_ChainFirst.l0 k x0 x1 true (wrap64 (x6 + 1))) else (if 0 ≤ x6 then (if x6 < (x0.length : Int) then (cellarerlaw05_ChainFirst.l0 k x0 x1 (((rd_T25 x0 x6).f0) == x1) (wrap64 (x6 + 1))) else (none)) else (none)))
def cellarerlaw05_ChainFirst.j2 : Nat → List (S25) → Int → Bool → Bool → Option (Bool)
  | 0, _, _, _, _ => none
  | k + 1, x0, x1, x5, x92 => if x92 = true then (some false) else ((chain_Find.f k x0 x1).bind fun bt397 => (if ((bt397.2.2.2.2 == 4) != x5) = true then ((cellarerlaw05_awake.f).bind fun t403 => (some t403)) else (some false)))
end
def cellarerlaw05_ChainFirst.f (k : Nat) (l0 : List (S25)) (a1 : Int) : Option (Bool) := (cellarerlaw05_Few.f k l0).bind fun t374 => ((chain_Check.f k t374).bind fun t377 => (if t377 = 0 then (cellarerlaw05_ChainFirst.l0 k t374 a1 false 0) else ((cellarerlaw05_awake.f).bind fun t378 => (some t378))))
theorem cellarerlaw05_ChainFirst.mono_l : ∀ k, (∀ y0 y1 y2 y3, LeO (cellarerlaw05_ChainFirst.l0 k y0 y1 y2 y3) (cellarerlaw05_ChainFirst.l0 (k + 1) y0 y1 y2 y3)) ∧ (∀ y0 y1 y2 y3 y4, LeO (cellarerlaw05_ChainFirst.j1 k y0 y1 y2 y3 y4) (cellarerlaw05_ChainFirst.j1 (k + 1) y0 y1 y2 y3 y4)) ∧ (∀ y0 y1 y2 y3, LeO (cellarerlaw05_ChainFirst.j2 k y0 y1 y2 y3) (cellarerlaw05_ChainFirst.j2 (k + 1) y0 y1 y2 y3))
  | 0 => ⟨fun _ _ _ _ r h => by simp [cellarerlaw05_ChainFirst.l0] at h, fun _ _ _ _ _ r h => by simp [cellarerlaw05_ChainFirst.j1] at h, fun _ _ _ _ r h => by simp [cellarerlaw05_ChainFirst.j2] at h⟩
  | k + 1 => by
    obtain ⟨ih0, ih1, ih2⟩ := cellarerlaw05_ChainFirst.mono_l k
    refine ⟨?_, ?_, ?_⟩
    · intro y0 y1 y2 y3
      unfold cellarerlaw05_ChainFirst.l0
      repeat' first
      | (with_reducible exact ih0 _ _ _ _)
      | (with_reducible exact ih1 _ _ _ _ _)
      | (with_reducible exact ih2 _ _ _ _)
      | (with_reducible exact cellarerlaw05_Few.mono _ _)
      | (with_reducible exact chain_Check.mono _ _)
      | (with_reducible exact chain_Find.mono _ _ _)
      | (with_reducible exact chain_Get.mono _ _)
      | (with_reducible exact LeO.refl _)
      | (with_reducible exact LeO.none _)
      | (with_reducible refine LeO.ite ?_ ?_)
      | (with_reducible refine LeO.bind ?_ (fun _ => ?_))
      | exact ih0 _ _ _ _
      | exact ih1 _ _ _ _ _
      | exact ih2 _ _ _ _
      | exact cellarerlaw05_Few.mono _ _
      | exact chain_Check.mono _ _
      | exact chain_Find.mono _ _ _
      | exact chain_Get.mono _ _
      | exact LeO.none _
      | refine LeO.ite ?_ ?_
      | refine LeO.bind ?_ (fun _ => ?_)
    · intro y0 y1 y2 y3 y4
      unfold cellarerlaw05_ChainFirst.j1
      repeat' first
      | (with_reducible exact ih0 _ _ _ _)
      | (with_reducible exact ih1 _ _ _ _ _)
      | (with_reducible exact ih2 _ _ _ _)
      | (with_reducible exact cellarerlaw05_Few.mono _ _)
      | (with_reducible exact chain_Check.mono _ _)
      | (with_reducible exact chain_Find.mono _ _ _)
      | (with_reducible exact chain_Get.mono _ _)
      | (with_reducible exact LeO.refl _)
      | (with_reducible exact LeO.none _)
      | (with_reducible refine LeO.ite ?_ ?_)
      | (with_reducible refine LeO.bind ?_ (fun _ => ?_))
      | exact ih0 _ _ _ _
      | exact ih1 _ _ _ _ _
      | exact ih2 _ _ _ _
      | exact cellarerlaw05_Few.mono _ _
      | exact chain_Check.mono _ _
      | exact chain_Find.mono _ _ _
      | exact chain_Get.mono _ _
      | exact LeO.none _
      | refine LeO.ite ?_ ?_
      | refine LeO.bind ?_ (fun _ => ?_)
    · intro y0 y1 y2 y3
      unfold cellarerlaw05_ChainFirst.j2
      repeat' first
      | (with_reducible exact ih0 _ _ _ _)
      | (with_reducible exact ih1 _ _ _ _ _)
      | (with_reducible exact ih2 _ _ _ _)
      | (with_reducible exact cellarerlaw05_Few.mono _ _)
      | (with_reducible exact chain_Check.mono _ _)
      | (with_reducible exact chain_Find.mono _ _ _)
      | (with_reducible exact chain_Get.mono _ _)
      | (with_reducible exact LeO.refl _)
      | (with_reducible exact LeO.none _)
      | (with_reducible refine LeO.ite ?_ ?_)
      | (with_reducible refine LeO.bind ?_ (fun _ => ?_))
      | exact ih0 _ _ _ _
      | exact ih1 _ _ _ _ _
      | exact ih2 _ _ _ _
      | exact cellarerlaw05_Few.mono _ _
      | exact chain_Check.mono _ _
      | exact chain_Find.mono _ _ _
      | exact chain_Get.mono _ _
      | exact LeO.none _
      | refine LeO.ite ?_ ?_
      | refine LeO.bind ?_ (fun _ => ?_)
theorem cellarerlaw05_ChainFirst.mono : ∀ a0 a1 k, LeO (cellarerlaw05_ChainFirst.f k a0 a1) (cellarerlaw05_ChainFirst.f (k + 1) a0 a1) := by
  intro a0 a1 k
  obtain ⟨ih0, ih1, ih2⟩ := cellarerlaw05_ChainFirst.mono_l k
  unfold cellarerlaw05_ChainFirst.f
  repeat' first
      | (with_reducible exact ih0 _ _ _ _)
      | (with_reducible exact ih1 _ _ _ _ _)
      | (with_reducible exact ih2 _ _ _ _)
      | (with_reducible exact cellarerlaw05_Few.mono _ _)
      | (with_reducible exact chain_Check.mono _ _)
      | (with_reducible exact chain_Find.mono _ _ _)
      | (with_reducible exact chain_Get.mono _ _)
      | (with_reducible exact LeO.refl _)
      | (with_reducible exact LeO.none _)
      | (with_reducible refine LeO.ite ?_ ?_)
      | (with_reducible refine LeO.bind ?_ (fun _ => ?_))
      | exact ih0 _ _ _ _
      | exact ih1 _ _ _ _ _
      | exact ih2 _ _ _ _
      | exact cellarerlaw05_Few.mono _ _
      | exact chain_Check.mono _ _
      | exact chain_Find.mono _ _ _
      | exact chain_Get.mono _ _
      | exact LeO.none _
      | refine LeO.ite ?_ ?_
      | refine LeO.bind ?_ (fun _ => ?_)
set_option maxHeartbeats 8000000 in
set_option maxRecDepth 100000 in
theorem cellarerlaw05_ChainFirst.calls (k : Nat) (A0 : Option Addr) (c0 : Nat) (l0 : List (S25)) (a1 : Int) (r : Bool) (w : World) (hr0 : Kd.C k25 w A0 l0.length l0) (hc0 : l0.length ≤ c0) (h : cellarerlaw05_ChainFirst.f k l0 a1 = some r) :
  Calls Try.prog 9 #[.slice A0 l0.length c0, .int .u64 a1] w fun e w' => e = .returned (.bool r) ∧ Below w.heap.size w w' := by
 have hu25 := Try.underlying25
 have HR0 := Aside0.mk hr0
 have HC0 := Aside0.mk hc0
 clear hr0 hc0
 have HB := Aside0.mk (Below.refl w.heap.size w)
 have H : ((cellarerlaw05_Few.f k l0).bind fun t374 => ((chain_Check.f k t374).bind fun t377 => (if t377 = 0 then (cellarerlaw05_ChainFirst.l0 k t374 a1 false 0) else ((cellarerlaw05_awake.f).bind fun t378 => (some t378))))) = some r := h
 clear h
 replace H := Option.bind_eq_some_iff.mp H
 obtain ⟨t374, A30, H⟩ := H
 replace H : ((chain_Check.f k t374).bind fun t377 => (if t377 = 0 then (cellarerlaw05_ChainFirst.l0 k t374 a1 false 0) else ((cellarerlaw05_awake.f).bind fun t378 => (some t378)))) = some r := H
 have A3 := Aside0.mk A30
 clear A30
 replace H := Option.bind_eq_some_iff.mp H
 obtain ⟨t377, A40, H⟩ := H
 replace H : (if t377 = 0 then (cellarerlaw05_ChainFirst.l0 k t374 a1 false 0) else ((cellarerlaw05_awake.f).bind fun t378 => (some t378))) = some r := H
 have A4 := Aside0.mk A40
 clear A40
 by_cases c5 : t377 = 0
 ·rw [if_pos c5] at H
  have c5b0 : (t377 == 0) = true := beq_iff_eq.mpr c5
  have c5b1 : (t377 != 0) = false := bne_eq_false_iff_eq.mpr c5
  clear c5
  have H' := Aside0.mk H
  clear H
  go_enter Try.func9, Try.ntmps9
  go_wp2_with (first | (go_at_call 10; (with_reducible refine (cellarerlaw05_Few.calls k _ _ l0 t374 _ ?side1 ?side2 A3.out).mono ?_); (case side1 => repeat (first | exact HR0.out | (with_reducible refine Kd.C_alloc ?_ _) | (with_reducible refine Kd.C_drewN ?_ _) | (with_reducible refine Kd.C_drew ?_))); (case side2 => exact HC0.out); rintro e w6 ⟨v375, rfl, ho0, hb⟩; have n0_ := Aside0.mk (Kd.R_lower ho0 (below_size (by repeat (first | (with_reducible first | exact HB.out | apply below_alloc | apply pw_below_drewN | apply below_drew1) | exact HB.out)))); have n1_ := Aside0.mk (below_step (by repeat (first | (with_reducible first | exact HB.out | apply below_alloc | apply pw_below_drewN | apply below_drew1) | exact HB.out)) hb); clear HB; have HO376 := n0_; have HB := n1_; clear n0_ n1_; (try clear hb); (try clear hb2); (try clear hk); (try clear hi); (try clear ho0); obtain ⟨Ao7, co7, eo7⟩ := Kd.R_slice HO376.out; subst eo7) | (go_at_call 17; (with_reducible refine (chain_Check.calls k _ _ t374 t377 _ ?side1 ?side2 A4.out).mono ?_); (case side1 => repeat (first | exact (Kd.R_reads' HO376.out).2.2 | (with_reducible refine Kd.C_alloc ?_ _) | (with_reducible refine Kd.C_drewN ?_ _) | (with_reducible refine Kd.C_drew ?_))); (case side2 => exact (Kd.R_reads' HO376.out).2.1); rintro e w8 ⟨rfl, hb⟩; have n0_ := Aside0.mk (Kd.R_below (by (with_reducible repeat (first | apply Kd.R_alloc | apply Kd.R_drewN | apply Kd.R_drew)); exact HO376.out) hb); have n1_ := Aside0.mk (below_step (by repeat (first | (with_reducible first | exact HB.out | apply below_alloc | apply pw_below_drewN | apply below_drew1) | exact HB.out)) hb); clear HO376; clear HB; have HO376 := n0_; have HB := n1_; clear n0_ n1_; (try clear hb); (try clear hb2); (try clear hk); (try clear hi)))
  repeat (go_quiet (first | (go_at_call 10; (with_reducible refine (cellarerlaw05_Few.calls k _ _ l0 t374 _ ?side1 ?side2 A3.out).mono ?_); (case side1 => repeat (first | exact HR0.out | (with_reducible refine Kd.C_alloc ?_ _) | (with_reducible refine Kd.C_drewN ?_ _) | (with_reducible refine Kd.C_drew ?_))); (case side2 => exact HC0.out); rintro e w6 ⟨v375, rfl, ho0, hb⟩; have n0_ := Aside0.mk (Kd.R_lower ho0 (below_size (by repeat (first | (with_reducible first | exact HB.out | apply below_alloc | apply pw_below_drewN | apply below_drew1) | exact HB.out)))); have n1_ := Aside0.mk (below_step (by repeat (first | (with_reducible first | exact HB.out | apply below_alloc | apply pw_below_drewN | apply below_drew1) | exact HB.out)) hb); clear HB; have HO376 := n0_; have HB := n1_; clear n0_ n1_; (try clear hb); (try clear hb2); (try clear hk); (try clear hi); (try clear ho0); obtain ⟨Ao7, co7, eo7⟩ := Kd.R_slice HO376.out; subst eo7) | (go_at_call 17; (with_reducible refine (chain_Check.calls k _ _ t374 t377 _ ?side1 ?side2 A4.out).mono ?_); (case side1 => repeat (first | exact (Kd.R_reads' HO376.out).2.2 | (with_reducible refine Kd.C_alloc ?_ _) | (with_reducible refine Kd.C_drewN ?_ _) | (with_reducible refine Kd.C_drew ?_))); (case side2 => exact (Kd.R_reads' HO376.out).2.1); rintro e w8 ⟨rfl, hb⟩; have n0_ := Aside0.mk (Kd.R_below (by (with_reducible repeat (first | apply Kd.R_alloc | apply Kd.R_drewN | apply Kd.R_drew)); exact HO376.out) hb); have n1_ := Aside0.mk (below_step (by repeat (first | (with_reducible first | exact HB.out | apply below_alloc | apply pw_below_drewN | apply below_drew1) | exact HB.out)) hb); clear HO376; clear HB; have HO376 := n0_; have HB := n1_; clear n0_ n1_; (try clear hb); (try clear hb2); (try clear hk); (try clear hi))); try go_wp2_with (first | (go_at_call 10; (with_reducible refine (cellarerlaw05_Few.calls k _ _ l0 t374 _ ?side1 ?side2 A3.out).mono ?_); (case side1 => repeat (first | exact HR0.out | (with_reducible refine Kd.C_alloc ?_ _) | (with_reducible refine Kd.C_drewN ?_ _) | (with_reducible refine Kd.C_drew ?_))); (case side2 => exact HC0.out); rintro e w6 ⟨v375, rfl, ho0, hb⟩; have n0_ := Aside0.mk (Kd.R_lower ho0 (below_size (by repeat (first | (with_reducible first | exact HB.out | apply below_alloc | apply pw_below_drewN | apply below_drew1) | exact HB.out)))); have n1_ := Aside0.mk (below_step (by repeat (first | (with_reducible first | exact HB.out | apply below_alloc | apply pw_below_drewN | apply below_drew1) | exact HB.out)) hb); clear HB; have HO376 := n0_; have HB := n1_; clear n0_ n1_; (try clear hb); (try clear hb2); (try clear hk); (try clear hi); (try clear ho0); obtain ⟨Ao7, co7, eo7⟩ := Kd.R_slice HO376.out; subst eo7) | (go_at_call 17; (with_reducible refine (chain_Check.calls k _ _ t374 t377 _ ?side1 ?side2 A4.out).mono ?_); (case side1 => repeat (first | exact (Kd.R_reads' HO376.out).2.2 | (with_reducible refine Kd.C_alloc ?_ _) | (with_reducible refine Kd.C_drewN ?_ _) | (with_reducible refine Kd.C_drew ?_))); (case side2 => exact (Kd.R_reads' HO376.out).2.1); rintro e w8 ⟨rfl, hb⟩; have n0_ := Aside0.mk (Kd.R_below (by (with_reducible repeat (first | apply Kd.R_alloc | apply Kd.R_drewN | apply Kd.R_drew)); exact HO376.out) hb); have n1_ := Aside0.mk (below_step (by repeat (first | (with_reducible first | exact HB.out | apply below_alloc | apply pw_below_drewN | apply below_drew1) | exact HB.out)) hb); clear HO376; clear HB; have HO376 := n0_; have HB := n1_; clear n0_ n1_; (try clear hb); (try clear hb2); (try clear hk); (try clear hi))))
  go_loopg [5, 6] k (fun kq v5 v6 w' => ∃ (x5_1 : Bool) (x6_1 : Int), v5 = .bool x5_1 ∧ v6 = .int .i64 x6_1 ∧ Aside0 (cellarerlaw05_ChainFirst.l0 kq t374 a1 x5_1 x6_1 = some r) ∧ Aside0 (kq ≤ k) ∧ Aside0 (Kd.R k25 25 w' w.heap.size (fun _ => True) (.slice Ao7 t374.length co7) t374) ∧ Aside0 (Below w.heap.size w w'))
  case atStart => exact ⟨(false), (0), (by first | rfl | (simp; done) | (simp [*]; done)), (by first | rfl | (simp; done) | (simp [*]; done)), H', ⟨Nat.le_refl _⟩, ⟨by (with_reducible repeat (first | apply Kd.R_alloc | apply Kd.R_drewN | apply Kd.R_drew)); exact HO376.out⟩, ⟨by repeat (first | (with_reducible first | exact HB.out | apply below_alloc | apply pw_below_drewN | apply below_drew1) | exact HB.out)⟩⟩
  case round =>
   clear H'
   try clear p2
   try clear c5
   try clear c5b0
   try clear c5b1
   obtain ⟨x5_1, x6_1, rfl, rfl, HA, HK1, HO_0, HB⟩ := hrel
   cases gk with
   | zero => exact absurd HA.out (by simp [cellarerlaw05_ChainFirst.l0])
   | succ k1 =>
    have H := HA.out
    clear HA
    simp only [cellarerlaw05_ChainFirst.l0] at H
    by_cases c9 : x6_1 < (t374.length : Int)
    ·rw [if_pos c9] at H
     have c9b0 : decide (x6_1 < (t374.length : Int)) = true := decide_eq_true c9
     clear c9
     by_cases c10 : 0 ≤ x6_1
     ·rw [if_pos c10] at H
      have c10b0 : decide (0 ≤ x6_1) = true := decide_eq_true c10
      clear c10
      replace H := Option.bind_eq_some_iff.mp H
      obtain ⟨⟨t380, t381, t382, t383, t384⟩, A110, H⟩ := H
      replace H : (if (!(t380 == ((rd_T25 t374 x6_1).f0)) || (!(t381.toList == (((rd_T25 t374 x6_1).f1).toList)) || (!(t382 == ((rd_T25 t374 x6_1).f2)) || (!(t383 == ((rd_T25 t374 x6_1).f3)))))) = true then (cellarerlaw05_ChainFirst.j1 k1 t374 a1 x5_1 x6_1 true) else (if ((t384 == 13) != ((rd_T25 t374 x6_1).f2)) = true then (cellarerlaw05_ChainFirst.j1 k1 t374 a1 x5_1 x6_1 true) else (if t384 = 0 then (cellarerlaw05_ChainFirst.j1 k1 t374 a1 x5_1 x6_1 false) else (cellarerlaw05_ChainFirst.j1 k1 t374 a1 x5_1 x6_1 (t384 != 13))))) = some r := H
      have A11 := Aside0.mk A110
      clear A110
      have HC12 := Aside0.mk H
      clear H
      have p379 : 0 ≤ (x6_1 : Int) := of_decide_eq_true (by first | (with_reducible assumption) | assumption)
      have q379 : x6_1 < (t374.length : Int) := of_decide_eq_true (by first | (with_reducible assumption) | assumption)
      obtain ⟨ad379, e379, hx379_0, hx379_1, hx379_2, hx379_3⟩ := at_T25 (Kd.R_reads' HO_0.out).2.2 x6_1 p379 q379
      cases e379
      replace p379 := eq_true p379
      replace q379 := eq_true q379
      go_upto_region 9 with (first | (go_at_call 24; (with_reducible refine (chain_Find.calls k1 _ _ t374 ((rd_T25 t374 x6_1).f0) t380 t381 t382 t383 t384 _ ?side1 ?side2 A11.out).mono ?_); (case side1 => repeat (first | exact (Kd.R_reads' HO_0.out).2.2 | (with_reducible refine Kd.C_alloc ?_ _) | (with_reducible refine Kd.C_drewN ?_ _) | (with_reducible refine Kd.C_drew ?_))); (case side2 => exact (Kd.R_reads' HO_0.out).2.1); rintro e w13 ⟨rfl, hb⟩; have n0_ := Aside0.mk (Kd.R_below (by (with_reducible repeat (first | apply Kd.R_alloc | apply Kd.R_drewN | apply Kd.R_drew)); exact HO_0.out) hb); have n1_ := Aside0.mk (below_step (by repeat (first | (with_reducible first | exact HB.out | apply below_alloc | apply pw_below_drewN | apply below_drew1) | exact HB.out)) hb); clear HO_0; clear HB; have HO_0 := n0_; have HB := n1_; clear n0_ n1_; (try clear hb); (try clear hb2); (try clear hk); (try clear hi)) | ((with_reducible refine gate_dst (N := 7) rfl ?_); (try (refine gate_guard (by rfl) ?_; dsimp only)); refine box_event ?hg (N := 7) ?hd (cs := #[.int .u64 0, .string (⟨#[]⟩ : ByteArray), .bool false, .int .i64 0]) (t := 25) ?hr ?_; (case hd => rfl); (case hg => rfl); (case hr => first | (go_simp; done) | (go_simp; rfl)); intro gb385 hg w14 hbox hb; have n0_ := Aside0.mk (Kd.R_below (Kd.R_elderB (by (with_reducible repeat (first | apply Kd.R_alloc | apply Kd.R_drewN | apply Kd.R_drew)); exact HO_0.out) gb385 (Nat.le_of_eq hg.symm)) hb); have n1_ := Aside0.mk (below_step (by repeat (first | (with_reducible first | exact HB.out | apply below_alloc | apply pw_below_drewN | apply below_drew1) | exact HB.out)) hb); have n2_ := Aside0.mk (hbox); have n3_ := Aside0.mk ((by rw [hg]; exact (below_size (by repeat (first | (with_reducible first | exact HB.out | apply below_alloc | apply pw_below_drewN | apply below_drew1) | exact HB.out))) : w.heap.size ≤ gb385)); have n4_ := Aside0.mk ((by rw [hg]; exact (below_size (by repeat (first | (with_reducible first | exact HB.out | apply below_alloc | apply pw_below_drewN | apply below_drew1) | exact HB.out))) : w.heap.size ≤ gb385)); clear HO_0; clear HB; have HO_0 := n0_; have HB := n1_; have BK385 := n2_; have GW385 := n3_; have GE385 := n4_; clear n0_ n1_ n2_ n3_ n4_; clear hb hbox hg; have hcz15_0 : w14.cell? ⟨gb385, 0, none⟩ = some (.int .u64 0) := (blk_cell BK385.out 0).trans rfl; have hcz15_1 : w14.cell? ⟨gb385, 1, none⟩ = some (.string (⟨#[]⟩ : ByteArray)) := (blk_cell BK385.out 1).trans rfl; have hcz15_2 : w14.cell? ⟨gb385, 2, none⟩ = some (.bool false) := (blk_cell BK385.out 2).trans rfl; have hcz15_3 : w14.cell? ⟨gb385, 3, none⟩ = some (.int .i64 0) := (blk_cell BK385.out 3).trans rfl; have hfz15_0 := blk_frozen BK385.out 0; have hfz15_1 := blk_frozen BK385.out 1; have hfz15_2 := blk_frozen BK385.out 2; have hfz15_3 := blk_frozen BK385.out 3))
      repeat (go_quiet (first | (go_at_call 24; (with_reducible refine (chain_Find.calls k1 _ _ t374 ((rd_T25 t374 x6_1).f0) t380 t381 t382 t383 t384 _ ?side1 ?side2 A11.out).mono ?_); (case side1 => repeat (first | exact (Kd.R_reads' HO_0.out).2.2 | (with_reducible refine Kd.C_alloc ?_ _) | (with_reducible refine Kd.C_drewN ?_ _) | (with_reducible refine Kd.C_drew ?_))); (case side2 => exact (Kd.R_reads' HO_0.out).2.1); rintro e w13 ⟨rfl, hb⟩; have n0_ := Aside0.mk (Kd.R_below (by (with_reducible repeat (first | apply Kd.R_alloc | apply Kd.R_drewN | apply Kd.R_drew)); exact HO_0.out) hb); have n1_ := Aside0.mk (below_step (by repeat (first | (with_reducible first | exact HB.out | apply below_alloc | apply pw_below_drewN | apply below_drew1) | exact HB.out)) hb); clear HO_0; clear HB; have HO_0 := n0_; have HB := n1_; clear n0_ n1_; (try clear hb); (try clear hb2); (try clear hk); (try clear hi)) | ((with_reducible refine gate_dst (N := 7) rfl ?_); (try (refine gate_guard (by rfl) ?_; dsimp only)); refine box_event ?hg (N := 7) ?hd (cs := #[.int .u64 0, .string (⟨#[]⟩ : ByteArray), .bool false, .int .i64 0]) (t := 25) ?hr ?_; (case hd => rfl); (case hg => rfl); (case hr => first | (go_simp; done) | (go_simp; rfl)); intro gb385 hg w14 hbox hb; have n0_ := Aside0.mk (Kd.R_below (Kd.R_elderB (by (with_reducible repeat (first | apply Kd.R_alloc | apply Kd.R_drewN | apply Kd.R_drew)); exact HO_0.out) gb385 (Nat.le_of_eq hg.symm)) hb); have n1_ := Aside0.mk (below_step (by repeat (first | (with_reducible first | exact HB.out | apply below_alloc | apply pw_below_drewN | apply below_drew1) | exact HB.out)) hb); have n2_ := Aside0.mk (hbox); have n3_ := Aside0.mk ((by rw [hg]; exact (below_size (by repeat (first | (with_reducible first | exact HB.out | apply below_alloc | apply pw_below_drewN | apply below_drew1) | exact HB.out))) : w.heap.size ≤ gb385)); have n4_ := Aside0.mk ((by rw [hg]; exact (below_size (by repeat (first | (with_reducible first | exact HB.out | apply below_alloc | apply pw_below_drewN | apply below_drew1) | exact HB.out))) : w.heap.size ≤ gb385)); clear HO_0; clear HB; have HO_0 := n0_; have HB := n1_; have BK385 := n2_; have GW385 := n3_; have GE385 := n4_; clear n0_ n1_ n2_ n3_ n4_; clear hb hbox hg; have hcz15_0 : w14.cell? ⟨gb385, 0, none⟩ = some (.int .u64 0) := (blk_cell BK385.out 0).trans rfl; have hcz15_1 : w14.cell? ⟨gb385, 1, none⟩ = some (.string (⟨#[]⟩ : ByteArray)) := (blk_cell BK385.out 1).trans rfl; have hcz15_2 : w14.cell? ⟨gb385, 2, none⟩ = some (.bool false) := (blk_cell BK385.out 2).trans rfl; have hcz15_3 : w14.cell? ⟨gb385, 3, none⟩ = some (.int .i64 0) := (blk_cell BK385.out 3).trans rfl; have hfz15_0 := blk_frozen BK385.out 0; have hfz15_1 := blk_frozen BK385.out 1; have hfz15_2 := blk_frozen BK385.out 2; have hfz15_3 := blk_frozen BK385.out 3)); go_upto_region 9 with (first | (go_at_call 24; (with_reducible refine (chain_Find.calls k1 _ _ t374 ((rd_T25 t374 x6_1).f0) t380 t381 t382 t383 t384 _ ?side1 ?side2 A11.out).mono ?_); (case side1 => repeat (first | exact (Kd.R_reads' HO_0.out).2.2 | (with_reducible refine Kd.C_alloc ?_ _) | (with_reducible refine Kd.C_drewN ?_ _) | (with_reducible refine Kd.C_drew ?_))); (case side2 => exact (Kd.R_reads' HO_0.out).2.1); rintro e w13 ⟨rfl, hb⟩; have n0_ := Aside0.mk (Kd.R_below (by (with_reducible repeat (first | apply Kd.R_alloc | apply Kd.R_drewN | apply Kd.R_drew)); exact HO_0.out) hb); have n1_ := Aside0.mk (below_step (by repeat (first | (with_reducible first | exact HB.out | apply below_alloc | apply pw_below_drewN | apply below_drew1) | exact HB.out)) hb); clear HO_0; clear HB; have HO_0 := n0_; have HB := n1_; clear n0_ n1_; (try clear hb); (try clear hb2); (try clear hk); (try clear hi)) | ((with_reducible refine gate_dst (N := 7) rfl ?_); (try (refine gate_guard (by rfl) ?_; dsimp only)); refine box_event ?hg (N := 7) ?hd (cs := #[.int .u64 0, .string (⟨#[]⟩ : ByteArray), .bool false, .int .i64 0]) (t := 25) ?hr ?_; (case hd => rfl); (case hg => rfl); (case hr => first | (go_simp; done) | (go_simp; rfl)); intro gb385 hg w14 hbox hb; have n0_ := Aside0.mk (Kd.R_below (Kd.R_elderB (by (with_reducible repeat (first | apply Kd.R_alloc | apply Kd.R_drewN | apply Kd.R_drew)); exact HO_0.out) gb385 (Nat.le_of_eq hg.symm)) hb); have n1_ := Aside0.mk (below_step (by repeat (first | (with_reducible first | exact HB.out | apply below_alloc | apply pw_below_drewN | apply below_drew1) | exact HB.out)) hb); have n2_ := Aside0.mk (hbox); have n3_ := Aside0.mk ((by rw [hg]; exact (below_size (by repeat (first | (with_reducible first | exact HB.out | apply below_alloc | apply pw_below_drewN | apply below_drew1) | exact HB.out))) : w.heap.size ≤ gb385)); have n4_ := Aside0.mk ((by rw [hg]; exact (below_size (by repeat (first | (with_reducible first | exact HB.out | apply below_alloc | apply pw_below_drewN | apply below_drew1) | exact HB.out))) : w.heap.size ≤ gb385)); clear HO_0; clear HB; have HO_0 := n0_; have HB := n1_; have BK385 := n2_; have GW385 := n3_; have GE385 := n4_; clear n0_ n1_ n2_ n3_ n4_; clear hb hbox hg; have hcz15_0 : w14.cell? ⟨gb385, 0, none⟩ = some (.int .u64 0) := (blk_cell BK385.out 0).trans rfl; have hcz15_1 : w14.cell? ⟨gb385, 1, none⟩ = some (.string (⟨#[]⟩ : ByteArray)) := (blk_cell BK385.out 1).trans rfl; have hcz15_2 : w14.cell? ⟨gb385, 2, none⟩ = some (.bool false) := (blk_cell BK385.out 2).trans rfl; have hcz15_3 : w14.cell? ⟨gb385, 3, none⟩ = some (.int .i64 0) := (blk_cell BK385.out 3).trans rfl; have hfz15_0 := blk_frozen BK385.out 0; have hfz15_1 := blk_frozen BK385.out 1; have hfz15_2 := blk_frozen BK385.out 2; have hfz15_3 := blk_frozen BK385.out 3)))
      (try simp only [Act.put, List.setIfInBounds_toArray, List.set_cons_zero, List.set_cons_succ])
      go_cut [58] (fun v58 wc => ∃ (kq : Nat) (x58_11 : Bool), v58 = .bool x58_11 ∧ Aside0 (cellarerlaw05_ChainFirst.j1 kq t374 a1 x5_1 x6_1 x58_11 = some r) ∧ Aside0 (kq ≤ k1) ∧ Aside0 (Kd.R k25 25 wc w.heap.size (fun k_ => k_ ≠ gb385) (.slice (some ad379) t374.length co7) t374) ∧ Aside0 (wc.heap[gb385]? = some (.cells #[.int .u64 t380, .string t381, .bool t382, .int .i64 t383] 25 (0, 0))) ∧ Aside0 (Below w.heap.size w wc))
      case first =>
       have H := HC12.out
       clear HC12
       by_cases c16 : (!(t380 == ((rd_T25 t374 x6_1).f0)) || (!(t381.toList == (((rd_T25 t374 x6_1).f1).toList)) || (!(t382 == ((rd_T25 t374 x6_1).f2)) || (!(t383 == ((rd_T25 t374 x6_1).f3)))))) = true
       ·rw [if_pos c16] at H
        have c16b0 : (!(t380 == ((rd_T25 t374 x6_1).f0)) || (!(t381.toList == (((rd_T25 t374 x6_1).f1).toList)) || (!(t382 == ((rd_T25 t374 x6_1).f2)) || (!(t383 == ((rd_T25 t374 x6_1).f3)))))) = true := c16
        clear c16
        (first | rw [c16b0] | (simp only [i64_w, i32_w]; rw [c16b0]) | skip)
        have H' := Aside0.mk H
        clear H
        have hcz17_0 : w14.cell? ⟨gb385, 0, none⟩ = some (.int .u64 0) := (blk_cell BK385.out 0).trans rfl
        have hcz17_1 : w14.cell? ⟨gb385, 1, none⟩ = some (.string (⟨#[]⟩ : ByteArray)) := (blk_cell BK385.out 1).trans rfl
        have hcz17_2 : w14.cell? ⟨gb385, 2, none⟩ = some (.bool false) := (blk_cell BK385.out 2).trans rfl
        have hcz17_3 : w14.cell? ⟨gb385, 3, none⟩ = some (.int .i64 0) := (blk_cell BK385.out 3).trans rfl
        have hfz17_0 := blk_frozen BK385.out 0
        have hfz17_1 := blk_frozen BK385.out 1
        have hfz17_2 := blk_frozen BK385.out 2
        have hfz17_3 := blk_frozen BK385.out 3
        have p386 : 0 ≤ (x6_1 : Int) := of_decide_eq_true (by first | (with_reducible assumption) | assumption)
        have q386 : x6_1 < (t374.length : Int) := of_decide_eq_true (by first | (with_reducible assumption) | assumption)
        obtain ⟨ad386, e386, hx386_0, hx386_1, hx386_2, hx386_3⟩ := at_T25 (Kd.R_reads' HO_0.out).2.2 x6_1 p386 q386
        obtain rfl : ad379 = ad386 := (by injection e386)
        have hn386_0 : ad379.block ≠ gb385 := Kd.own_blk (by first | exact Kd.R_ne HO_0.out BK385.out (by decide) | exact Kd.R_away HO_0.out (fun _ h => h) | exact Kd.R_away HO_0.out (fun _ h => h.2) | exact Kd.R_away HO_0.out (fun _ h => h.1))
        have hn386_1 : ad379.block ≠ gb385 := Kd.own_blk (by first | exact Kd.R_ne HO_0.out BK385.out (by decide) | exact Kd.R_away HO_0.out (fun _ h => h) | exact Kd.R_away HO_0.out (fun _ h => h.2) | exact Kd.R_away HO_0.out (fun _ h => h.1))
        have hn386_2 : ad379.block ≠ gb385 := Kd.own_blk (by first | exact Kd.R_ne HO_0.out BK385.out (by decide) | exact Kd.R_away HO_0.out (fun _ h => h) | exact Kd.R_away HO_0.out (fun _ h => h.2) | exact Kd.R_away HO_0.out (fun _ h => h.1))
        have hn386_3 : ad379.block ≠ gb385 := Kd.own_blk (by first | exact Kd.R_ne HO_0.out BK385.out (by decide) | exact Kd.R_away HO_0.out (fun _ h => h) | exact Kd.R_away HO_0.out (fun _ h => h.2) | exact Kd.R_away HO_0.out (fun _ h => h.1))
        replace hx386_0 := (cell_far (p := ⟨gb385, 0, none⟩) (by first | (rw [add_block]; exact hn386_0) | (show (Addr.add _ _).block ≠ _; rw [add_block]; exact hn386_0) | exact hn386_0) (.int .u64 t380)).trans hx386_0
        replace hx386_1 := (cell_far (p := ⟨gb385, 0, none⟩) (by first | (rw [add_block]; exact hn386_0) | (show (Addr.add _ _).block ≠ _; rw [add_block]; exact hn386_0) | exact hn386_0) (.int .u64 t380)).trans hx386_1
        replace hx386_2 := (cell_far (p := ⟨gb385, 0, none⟩) (by first | (rw [add_block]; exact hn386_0) | (show (Addr.add _ _).block ≠ _; rw [add_block]; exact hn386_0) | exact hn386_0) (.int .u64 t380)).trans hx386_2
        replace hx386_3 := (cell_far (p := ⟨gb385, 0, none⟩) (by first | (rw [add_block]; exact hn386_0) | (show (Addr.add _ _).block ≠ _; rw [add_block]; exact hn386_0) | exact hn386_0) (.int .u64 t380)).trans hx386_3
        replace hx386_0 := (cell_far (p := ⟨gb385, 1, none⟩) (by first | (rw [add_block]; exact hn386_1) | (show (Addr.add _ _).block ≠ _; rw [add_block]; exact hn386_1) | exact hn386_1) (.string t381)).trans hx386_0
        replace hx386_1 := (cell_far (p := ⟨gb385, 1, none⟩) (by first | (rw [add_block]; exact hn386_1) | (show (Addr.add _ _).block ≠ _; rw [add_block]; exact hn386_1) | exact hn386_1) (.string t381)).trans hx386_1
        replace hx386_2 := (cell_far (p := ⟨gb385, 1, none⟩) (by first | (rw [add_block]; exact hn386_1) | (show (Addr.add _ _).block ≠ _; rw [add_block]; exact hn386_1) | exact hn386_1) (.string t381)).trans hx386_2
        replace hx386_3 := (cell_far (p := ⟨gb385, 1, none⟩) (by first | (rw [add_block]; exact hn386_1) | (show (Addr.add _ _).block ≠ _; rw [add_block]; exact hn386_1) | exact hn386_1) (.string t381)).trans hx386_3
        replace hx386_0 := (cell_far (p := ⟨gb385, 2, none⟩) (by first | (rw [add_block]; exact hn386_2) | (show (Addr.add _ _).block ≠ _; rw [add_block]; exact hn386_2) | exact hn386_2) (.bool t382)).trans hx386_0
        replace hx386_1 := (cell_far (p := ⟨gb385, 2, none⟩) (by first | (rw [add_block]; exact hn386_2) | (show (Addr.add _ _).block ≠ _; rw [add_block]; exact hn386_2) | exact hn386_2) (.bool t382)).trans hx386_1
        replace hx386_2 := (cell_far (p := ⟨gb385, 2, none⟩) (by first | (rw [add_block]; exact hn386_2) | (show (Addr.add _ _).block ≠ _; rw [add_block]; exact hn386_2) | exact hn386_2) (.bool t382)).trans hx386_2
        replace hx386_3 := (cell_far (p := ⟨gb385, 2, none⟩) (by first | (rw [add_block]; exact hn386_2) | (show (Addr.add _ _).block ≠ _; rw [add_block]; exact hn386_2) | exact hn386_2) (.bool t382)).trans hx386_3
        replace hx386_0 := (cell_far (p := ⟨gb385, 3, none⟩) (by first | (rw [add_block]; exact hn386_3) | (show (Addr.add _ _).block ≠ _; rw [add_block]; exact hn386_3) | exact hn386_3) (.int .i64 t383)).trans hx386_0
        replace hx386_1 := (cell_far (p := ⟨gb385, 3, none⟩) (by first | (rw [add_block]; exact hn386_3) | (show (Addr.add _ _).block ≠ _; rw [add_block]; exact hn386_3) | exact hn386_3) (.int .i64 t383)).trans hx386_1
        replace hx386_2 := (cell_far (p := ⟨gb385, 3, none⟩) (by first | (rw [add_block]; exact hn386_3) | (show (Addr.add _ _).block ≠ _; rw [add_block]; exact hn386_3) | exact hn386_3) (.int .i64 t383)).trans hx386_2
        replace hx386_3 := (cell_far (p := ⟨gb385, 3, none⟩) (by first | (rw [add_block]; exact hn386_3) | (show (Addr.add _ _).block ≠ _; rw [add_block]; exact hn386_3) | exact hn386_3) (.int .i64 t383)).trans hx386_3
        (try have hy386_0 := fun (n_ : Nat) => (show ((((((w14.drewN n_).setCell ⟨gb385, 0, none⟩ (.int .u64 t380)).setCell ⟨gb385, 1, none⟩ (.string t381)).setCell ⟨gb385, 2, none⟩ (.bool t382)).setCell ⟨gb385, 3, none⟩ (.int .i64 t383))).cell? _ = some _ from hx386_0))
        (try have hy386_1 := fun (n_ : Nat) => (show ((((((w14.drewN n_).setCell ⟨gb385, 0, none⟩ (.int .u64 t380)).setCell ⟨gb385, 1, none⟩ (.string t381)).setCell ⟨gb385, 2, none⟩ (.bool t382)).setCell ⟨gb385, 3, none⟩ (.int .i64 t383))).cell? _ = some _ from hx386_1))
        (try have hy386_2 := fun (n_ : Nat) => (show ((((((w14.drewN n_).setCell ⟨gb385, 0, none⟩ (.int .u64 t380)).setCell ⟨gb385, 1, none⟩ (.string t381)).setCell ⟨gb385, 2, none⟩ (.bool t382)).setCell ⟨gb385, 3, none⟩ (.int .i64 t383))).cell? _ = some _ from hx386_2))
        (try have hy386_3 := fun (n_ : Nat) => (show ((((((w14.drewN n_).setCell ⟨gb385, 0, none⟩ (.int .u64 t380)).setCell ⟨gb385, 1, none⟩ (.string t381)).setCell ⟨gb385, 2, none⟩ (.bool t382)).setCell ⟨gb385, 3, none⟩ (.int .i64 t383))).cell? _ = some _ from hx386_3))
        clear hn386_0
        clear hn386_1
        clear hn386_2
        clear hn386_3
        replace p386 := eq_true p386
        replace q386 := eq_true q386
        go_wp2
        repeat (go_quiet (fail); try go_wp2)
        go_meet
        case rel => exact ⟨_, (true), (by first | rfl | (simp; done) | (simp [*]; done)), H', ⟨by have := HK1.out; first | omega | exact Nat.le_refl _⟩, ⟨by (with_reducible repeat (first | apply Kd.R_alloc | apply Kd.R_drewN | apply Kd.R_drew)); exact Kd.R_mono (Kd.R_far (p := ⟨gb385, 3, none⟩) (Kd.R_far (p := ⟨gb385, 2, none⟩) (Kd.R_far (p := ⟨gb385, 1, none⟩) (Kd.R_far (p := ⟨gb385, 0, none⟩) (Kd.R_mono HO_0.out (fun k_ hk => (⟨hk, hk.2⟩ : _ ∧ k_ ≠ gb385))) (fun _ hk => hk.2) (.int .u64 t380)) (fun _ hk => hk.2) (.string t381)) (fun _ hk => hk.2) (.bool t382)) (fun _ hk => hk.2) (.int .i64 t383)) (fun _ hk => hk.1.2)⟩, ⟨by (with_reducible repeat (first | refine blk_drewN ?_ _ | refine blk_drew ?_ | refine blk_alloc ?_ _)); refine blk_put (cs := #[.int .u64 t380, .string t381, .bool t382, .int .i64 0]) ?_ 3 _ rfl; (with_reducible repeat (first | refine blk_drewN ?_ _ | refine blk_drew ?_ | refine blk_alloc ?_ _)); refine blk_put (cs := #[.int .u64 t380, .string t381, .bool false, .int .i64 0]) ?_ 2 _ rfl; (with_reducible repeat (first | refine blk_drewN ?_ _ | refine blk_drew ?_ | refine blk_alloc ?_ _)); refine blk_put (cs := #[.int .u64 t380, .string (⟨#[]⟩ : ByteArray), .bool false, .int .i64 0]) ?_ 1 _ rfl; (with_reducible repeat (first | refine blk_drewN ?_ _ | refine blk_drew ?_ | refine blk_alloc ?_ _)); refine blk_put (cs := #[.int .u64 0, .string (⟨#[]⟩ : ByteArray), .bool false, .int .i64 0]) ?_ 0 _ rfl; (with_reducible repeat (first | refine blk_drewN ?_ _ | refine blk_drew ?_ | refine blk_alloc ?_ _)); exact BK385.out⟩, ⟨by repeat (first | (with_reducible first | exact HB.out | apply below_alloc | apply pw_below_drewN | apply below_drew1 | refine below_set ?_ GE385.out) | exact HB.out)⟩⟩
       ·rw [if_neg c16] at H
        have c16b0 : (!(t380 == ((rd_T25 t374 x6_1).f0)) || (!(t381.toList == (((rd_T25 t374 x6_1).f1).toList)) || (!(t382 == ((rd_T25 t374 x6_1).f2)) || (!(t383 == ((rd_T25 t374 x6_1).f3)))))) = false := by simpa using c16
        clear c16
        (first | rw [c16b0] | (simp only [i64_w, i32_w]; rw [c16b0]) | skip)
        by_cases c18 : ((t384 == 13) != ((rd_T25 t374 x6_1).f2)) = true
        ·rw [if_pos c18] at H
         have c18b0 : ((t384 == 13) != ((rd_T25 t374 x6_1).f2)) = true := c18
         (try (have c18b1 : decide ((t384 == 13) = ((rd_T25 t374 x6_1).f2)) = false := by simpa using c18))
         (try (have c18b2 : ((t384 == 13) == ((rd_T25 t374 x6_1).f2)) = false := by simpa using c18))
         (try (have c18b3 : ¬ ((t384 == 13) = ((rd_T25 t374 x6_1).f2)) := by simpa using c18))
         clear c18
         have H' := Aside0.mk H
         clear H
         have hcz19_0 : w14.cell? ⟨gb385, 0, none⟩ = some (.int .u64 0) := (blk_cell BK385.out 0).trans rfl
         have hcz19_1 : w14.cell? ⟨gb385, 1, none⟩ = some (.string (⟨#[]⟩ : ByteArray)) := (blk_cell BK385.out 1).trans rfl
         have hcz19_2 : w14.cell? ⟨gb385, 2, none⟩ = some (.bool false) := (blk_cell BK385.out 2).trans rfl
         have hcz19_3 : w14.cell? ⟨gb385, 3, none⟩ = some (.int .i64 0) := (blk_cell BK385.out 3).trans rfl
         have hfz19_0 := blk_frozen BK385.out 0
         have hfz19_1 := blk_frozen BK385.out 1
         have hfz19_2 := blk_frozen BK385.out 2
         have hfz19_3 := blk_frozen BK385.out 3
         have p386 : 0 ≤ (x6_1 : Int) := of_decide_eq_true (by first | (with_reducible assumption) | assumption)
         have q386 : x6_1 < (t374.length : Int) := of_decide_eq_true (by first | (with_reducible assumption) | assumption)
         obtain ⟨ad386, e386, hx386_0, hx386_1, hx386_2, hx386_3⟩ := at_T25 (Kd.R_reads' HO_0.out).2.2 x6_1 p386 q386
         obtain rfl : ad379 = ad386 := (by injection e386)
         have hn386_0 : ad379.block ≠ gb385 := Kd.own_blk (by first | exact Kd.R_ne HO_0.out BK385.out (by decide) | exact Kd.R_away HO_0.out (fun _ h => h) | exact Kd.R_away HO_0.out (fun _ h => h.2) | exact Kd.R_away HO_0.out (fun _ h => h.1))
         have hn386_1 : ad379.block ≠ gb385 := Kd.own_blk (by first | exact Kd.R_ne HO_0.out BK385.out (by decide) | exact Kd.R_away HO_0.out (fun _ h => h) | exact Kd.R_away HO_0.out (fun _ h => h.2) | exact Kd.R_away HO_0.out (fun _ h => h.1))
         have hn386_2 : ad379.block ≠ gb385 := Kd.own_blk (by first | exact Kd.R_ne HO_0.out BK385.out (by decide) | exact Kd.R_away HO_0.out (fun _ h => h) | exact Kd.R_away HO_0.out (fun _ h => h.2) | exact Kd.R_away HO_0.out (fun _ h => h.1))
         have hn386_3 : ad379.block ≠ gb385 := Kd.own_blk (by first | exact Kd.R_ne HO_0.out BK385.out (by decide) | exact Kd.R_away HO_0.out (fun _ h => h) | exact Kd.R_away HO_0.out (fun _ h => h.2) | exact Kd.R_away HO_0.out (fun _ h => h.1))
         replace hx386_0 := (cell_far (p := ⟨gb385, 0, none⟩) (by first | (rw [add_block]; exact hn386_0) | (show (Addr.add _ _).block ≠ _; rw [add_block]; exact hn386_0) | exact hn386_0) (.int .u64 t380)).trans hx386_0
         replace hx386_1 := (cell_far (p := ⟨gb385, 0, none⟩) (by first | (rw [add_block]; exact hn386_0) | (show (Addr.add _ _).block ≠ _; rw [add_block]; exact hn386_0) | exact hn386_0) (.int .u64 t380)).trans hx386_1
         replace hx386_2 := (cell_far (p := ⟨gb385, 0, none⟩) (by first | (rw [add_block]; exact hn386_0) | (show (Addr.add _ _).block ≠ _; rw [add_block]; exact hn386_0) | exact hn386_0) (.int .u64 t380)).trans hx386_2
         replace hx386_3 := (cell_far (p := ⟨gb385, 0, none⟩) (by first | (rw [add_block]; exact hn386_0) | (show (Addr.add _ _).block ≠ _; rw [add_block]; exact hn386_0) | exact hn386_0) (.int .u64 t380)).trans hx386_3
         replace hx386_0 := (cell_far (p := ⟨gb385, 1, none⟩) (by first | (rw [add_block]; exact hn386_1) | (show (Addr.add _ _).block ≠ _; rw [add_block]; exact hn386_1) | exact hn386_1) (.string t381)).trans hx386_0
         replace hx386_1 := (cell_far (p := ⟨gb385, 1, none⟩) (by first | (rw [add_block]; exact hn386_1) | (show (Addr.add _ _).block ≠ _; rw [add_block]; exact hn386_1) | exact hn386_1) (.string t381)).trans hx386_1
         replace hx386_2 := (cell_far (p := ⟨gb385, 1, none⟩) (by first | (rw [add_block]; exact hn386_1) | (show (Addr.add _ _).block ≠ _; rw [add_block]; exact hn386_1) | exact hn386_1) (.string t381)).trans hx386_2
         replace hx386_3 := (cell_far (p := ⟨gb385, 1, none⟩) (by first | (rw [add_block]; exact hn386_1) | (show (Addr.add _ _).block ≠ _; rw [add_block]; exact hn386_1) | exact hn386_1) (.string t381)).trans hx386_3
         replace hx386_0 := (cell_far (p := ⟨gb385, 2, none⟩) (by first | (rw [add_block]; exact hn386_2) | (show (Addr.add _ _).block ≠ _; rw [add_block]; exact hn386_2) | exact hn386_2) (.bool t382)).trans hx386_0
         replace hx386_1 := (cell_far (p := ⟨gb385, 2, none⟩) (by first | (rw [add_block]; exact hn386_2) | (show (Addr.add _ _).block ≠ _; rw [add_block]; exact hn386_2) | exact hn386_2) (.bool t382)).trans hx386_1
         replace hx386_2 := (cell_far (p := ⟨gb385, 2, none⟩) (by first | (rw [add_block]; exact hn386_2) | (show (Addr.add _ _).block ≠ _; rw [add_block]; exact hn386_2) | exact hn386_2) (.bool t382)).trans hx386_2
         replace hx386_3 := (cell_far (p := ⟨gb385, 2, none⟩) (by first | (rw [add_block]; exact hn386_2) | (show (Addr.add _ _).block ≠ _; rw [add_block]; exact hn386_2) | exact hn386_2) (.bool t382)).trans hx386_3
         replace hx386_0 := (cell_far (p := ⟨gb385, 3, none⟩) (by first | (rw [add_block]; exact hn386_3) | (show (Addr.add _ _).block ≠ _; rw [add_block]; exact hn386_3) | exact hn386_3) (.int .i64 t383)).trans hx386_0
         replace hx386_1 := (cell_far (p := ⟨gb385, 3, none⟩) (by first | (rw [add_block]; exact hn386_3) | (show (Addr.add _ _).block ≠ _; rw [add_block]; exact hn386_3) | exact hn386_3) (.int .i64 t383)).trans hx386_1
         replace hx386_2 := (cell_far (p := ⟨gb385, 3, none⟩) (by first | (rw [add_block]; exact hn386_3) | (show (Addr.add _ _).block ≠ _; rw [add_block]; exact hn386_3) | exact hn386_3) (.int .i64 t383)).trans hx386_2
         replace hx386_3 := (cell_far (p := ⟨gb385, 3, none⟩) (by first | (rw [add_block]; exact hn386_3) | (show (Addr.add _ _).block ≠ _; rw [add_block]; exact hn386_3) | exact hn386_3) (.int .i64 t383)).trans hx386_3
         (try have hy386_0 := fun (n_ : Nat) => (show ((((((w14.drewN n_).setCell ⟨gb385, 0, none⟩ (.int .u64 t380)).setCell ⟨gb385, 1, none⟩ (.string t381)).setCell ⟨gb385, 2, none⟩ (.bool t382)).setCell ⟨gb385, 3, none⟩ (.int .i64 t383))).cell? _ = some _ from hx386_0))
         (try have hy386_1 := fun (n_ : Nat) => (show ((((((w14.drewN n_).setCell ⟨gb385, 0, none⟩ (.int .u64 t380)).setCell ⟨gb385, 1, none⟩ (.string t381)).setCell ⟨gb385, 2, none⟩ (.bool t382)).setCell ⟨gb385, 3, none⟩ (.int .i64 t383))).cell? _ = some _ from hx386_1))
         (try have hy386_2 := fun (n_ : Nat) => (show ((((((w14.drewN n_).setCell ⟨gb385, 0, none⟩ (.int .u64 t380)).setCell ⟨gb385, 1, none⟩ (.string t381)).setCell ⟨gb385, 2, none⟩ (.bool t382)).setCell ⟨gb385, 3, none⟩ (.int .i64 t383))).cell? _ = some _ from hx386_2))
         (try have hy386_3 := fun (n_ : Nat) => (show ((((((w14.drewN n_).setCell ⟨gb385, 0, none⟩ (.int .u64 t380)).setCell ⟨gb385, 1, none⟩ (.string t381)).setCell ⟨gb385, 2, none⟩ (.bool t382)).setCell ⟨gb385, 3, none⟩ (.int .i64 t383))).cell? _ = some _ from hx386_3))
         clear hn386_0
         clear hn386_1
         clear hn386_2
         clear hn386_3
         replace p386 := eq_true p386
         replace q386 := eq_true q386
         have p387 : 0 ≤ (x6_1 : Int) := of_decide_eq_true (by first | (with_reducible assumption) | assumption)
         have q387 : x6_1 < (t374.length : Int) := of_decide_eq_true (by first | (with_reducible assumption) | assumption)
         obtain ⟨ad387, e387, hx387_0, hx387_1, hx387_2, hx387_3⟩ := at_T25 (Kd.R_reads' HO_0.out).2.2 x6_1 p387 q387
         obtain rfl : ad379 = ad387 := (by injection e387)
         have hn387_0 : ad379.block ≠ gb385 := Kd.own_blk (by first | exact Kd.R_ne HO_0.out BK385.out (by decide) | exact Kd.R_away HO_0.out (fun _ h => h) | exact Kd.R_away HO_0.out (fun _ h => h.2) | exact Kd.R_away HO_0.out (fun _ h => h.1))
         have hn387_1 : ad379.block ≠ gb385 := Kd.own_blk (by first | exact Kd.R_ne HO_0.out BK385.out (by decide) | exact Kd.R_away HO_0.out (fun _ h => h) | exact Kd.R_away HO_0.out (fun _ h => h.2) | exact Kd.R_away HO_0.out (fun _ h => h.1))
         have hn387_2 : ad379.block ≠ gb385 := Kd.own_blk (by first | exact Kd.R_ne HO_0.out BK385.out (by decide) | exact Kd.R_away HO_0.out (fun _ h => h) | exact Kd.R_away HO_0.out (fun _ h => h.2) | exact Kd.R_away HO_0.out (fun _ h => h.1))
         have hn387_3 : ad379.block ≠ gb385 := Kd.own_blk (by first | exact Kd.R_ne HO_0.out BK385.out (by decide) | exact Kd.R_away HO_0.out (fun _ h => h) | exact Kd.R_away HO_0.out (fun _ h => h.2) | exact Kd.R_away HO_0.out (fun _ h => h.1))
         replace hx387_0 := (cell_far (p := ⟨gb385, 0, none⟩) (by first | (rw [add_block]; exact hn387_0) | (show (Addr.add _ _).block ≠ _; rw [add_block]; exact hn387_0) | exact hn387_0) (.int .u64 t380)).trans hx387_0
         replace hx387_1 := (cell_far (p := ⟨gb385, 0, none⟩) (by first | (rw [add_block]; exact hn387_0) | (show (Addr.add _ _).block ≠ _; rw [add_block]; exact hn387_0) | exact hn387_0) (.int .u64 t380)).trans hx387_1
         replace hx387_2 := (cell_far (p := ⟨gb385, 0, none⟩) (by first | (rw [add_block]; exact hn387_0) | (show (Addr.add _ _).block ≠ _; rw [add_block]; exact hn387_0) | exact hn387_0) (.int .u64 t380)).trans hx387_2
         replace hx387_3 := (cell_far (p := ⟨gb385, 0, none⟩) (by first | (rw [add_block]; exact hn387_0) | (show (Addr.add _ _).block ≠ _; rw [add_block]; exact hn387_0) | exact hn387_0) (.int .u64 t380)).trans hx387_3
         replace hx387_0 := (cell_far (p := ⟨gb385, 1, none⟩) (by first | (rw [add_block]; exact hn387_1) | (show (Addr.add _ _).block ≠ _; rw [add_block]; exact hn387_1) | exact hn387_1) (.string t381)).trans hx387_0
         replace hx387_1 := (cell_far (p := ⟨gb385, 1, none⟩) (by first | (rw [add_block]; exact hn387_1) | (show (Addr.add _ _).block ≠ _; rw [add_block]; exact hn387_1) | exact hn387_1) (.string t381)).trans hx387_1
         replace hx387_2 := (cell_far (p := ⟨gb385, 1, none⟩) (by first | (rw [add_block]; exact hn387_1) | (show (Addr.add _ _).block ≠ _; rw [add_block]; exact hn387_1) | exact hn387_1) (.string t381)).trans hx387_2
         replace hx387_3 := (cell_far (p := ⟨gb385, 1, none⟩) (by first | (rw [add_block]; exact hn387_1) | (show (Addr.add _ _).block ≠ _; rw [add_block]; exact hn387_1) | exact hn387_1) (.string t381)).trans hx387_3
         replace hx387_0 := (cell_far (p := ⟨gb385, 2, none⟩) (by first | (rw [add_block]; exact hn387_2) | (show (Addr.add _ _).block ≠ _; rw [add_block]; exact hn387_2) | exact hn387_2) (.bool t382)).trans hx387_0
         replace hx387_1 := (cell_far (p := ⟨gb385, 2, none⟩) (by first | (rw [add_block]; exact hn387_2) | (show (Addr.add _ _).block ≠ _; rw [add_block]; exact hn387_2) | exact hn387_2) (.bool t382)).trans hx387_1
         replace hx387_2 := (cell_far (p := ⟨gb385, 2, none⟩) (by first | (rw [add_block]; exact hn387_2) | (show (Addr.add _ _).block ≠ _; rw [add_block]; exact hn387_2) | exact hn387_2) (.bool t382)).trans hx387_2
         replace hx387_3 := (cell_far (p := ⟨gb385, 2, none⟩) (by first | (rw [add_block]; exact hn387_2) | (show (Addr.add _ _).block ≠ _; rw [add_block]; exact hn387_2) | exact hn387_2) (.bool t382)).trans hx387_3
         replace hx387_0 := (cell_far (p := ⟨gb385, 3, none⟩) (by first | (rw [add_block]; exact hn387_3) | (show (Addr.add _ _).block ≠ _; rw [add_block]; exact hn387_3) | exact hn387_3) (.int .i64 t383)).trans hx387_0
         replace hx387_1 := (cell_far (p := ⟨gb385, 3, none⟩) (by first | (rw [add_block]; exact hn387_3) | (show (Addr.add _ _).block ≠ _; rw [add_block]; exact hn387_3) | exact hn387_3) (.int .i64 t383)).trans hx387_1
         replace hx387_2 := (cell_far (p := ⟨gb385, 3, none⟩) (by first | (rw [add_block]; exact hn387_3) | (show (Addr.add _ _).block ≠ _; rw [add_block]; exact hn387_3) | exact hn387_3) (.int .i64 t383)).trans hx387_2
         replace hx387_3 := (cell_far (p := ⟨gb385, 3, none⟩) (by first | (rw [add_block]; exact hn387_3) | (show (Addr.add _ _).block ≠ _; rw [add_block]; exact hn387_3) | exact hn387_3) (.int .i64 t383)).trans hx387_3
         (try have hy387_0 := fun (n_ : Nat) => (show ((((((w14.drewN n_).setCell ⟨gb385, 0, none⟩ (.int .u64 t380)).setCell ⟨gb385, 1, none⟩ (.string t381)).setCell ⟨gb385, 2, none⟩ (.bool t382)).setCell ⟨gb385, 3, none⟩ (.int .i64 t383))).cell? _ = some _ from hx387_0))
         (try have hy387_1 := fun (n_ : Nat) => (show ((((((w14.drewN n_).setCell ⟨gb385, 0, none⟩ (.int .u64 t380)).setCell ⟨gb385, 1, none⟩ (.string t381)).setCell ⟨gb385, 2, none⟩ (.bool t382)).setCell ⟨gb385, 3, none⟩ (.int .i64 t383))).cell? _ = some _ from hx387_1))
         (try have hy387_2 := fun (n_ : Nat) => (show ((((((w14.drewN n_).setCell ⟨gb385, 0, none⟩ (.int .u64 t380)).setCell ⟨gb385, 1, none⟩ (.string t381)).setCell ⟨gb385, 2, none⟩ (.bool t382)).setCell ⟨gb385, 3, none⟩ (.int .i64 t383))).cell? _ = some _ from hx387_2))
         (try have hy387_3 := fun (n_ : Nat) => (show ((((((w14.drewN n_).setCell ⟨gb385, 0, none⟩ (.int .u64 t380)).setCell ⟨gb385, 1, none⟩ (.string t381)).setCell ⟨gb385, 2, none⟩ (.bool t382)).setCell ⟨gb385, 3, none⟩ (.int .i64 t383))).cell? _ = some _ from hx387_3))
         clear hn387_0
         clear hn387_1
         clear hn387_2
         clear hn387_3
         replace p387 := eq_true p387
         replace q387 := eq_true q387
         go_wp2
         repeat (go_quiet (fail); try go_wp2)
         go_meet
         case rel => exact ⟨_, (true), (by first | rfl | (simp; done) | (simp [*]; done)), H', ⟨by have := HK1.out; first | omega | exact Nat.le_refl _⟩, ⟨by (with_reducible repeat (first | apply Kd.R_alloc | apply Kd.R_drewN | apply Kd.R_drew)); exact Kd.R_mono (Kd.R_far (p := ⟨gb385, 3, none⟩) (Kd.R_far (p := ⟨gb385, 2, none⟩) (Kd.R_far (p := ⟨gb385, 1, none⟩) (Kd.R_far (p := ⟨gb385, 0, none⟩) (Kd.R_mono HO_0.out (fun k_ hk => (⟨hk, hk.2⟩ : _ ∧ k_ ≠ gb385))) (fun _ hk => hk.2) (.int .u64 t380)) (fun _ hk => hk.2) (.string t381)) (fun _ hk => hk.2) (.bool t382)) (fun _ hk => hk.2) (.int .i64 t383)) (fun _ hk => hk.1.2)⟩, ⟨by (with_reducible repeat (first | refine blk_drewN ?_ _ | refine blk_drew ?_ | refine blk_alloc ?_ _)); refine blk_put (cs := #[.int .u64 t380, .string t381, .bool t382, .int .i64 0]) ?_ 3 _ rfl; (with_reducible repeat (first | refine blk_drewN ?_ _ | refine blk_drew ?_ | refine blk_alloc ?_ _)); refine blk_put (cs := #[.int .u64 t380, .string t381, .bool false, .int .i64 0]) ?_ 2 _ rfl; (with_reducible repeat (first | refine blk_drewN ?_ _ | refine blk_drew ?_ | refine blk_alloc ?_ _)); refine blk_put (cs := #[.int .u64 t380, .string (⟨#[]⟩ : ByteArray), .bool false, .int .i64 0]) ?_ 1 _ rfl; (with_reducible repeat (first | refine blk_drewN ?_ _ | refine blk_drew ?_ | refine blk_alloc ?_ _)); refine blk_put (cs := #[.int .u64 0, .string (⟨#[]⟩ : ByteArray), .bool false, .int .i64 0]) ?_ 0 _ rfl; (with_reducible repeat (first | refine blk_drewN ?_ _ | refine blk_drew ?_ | refine blk_alloc ?_ _)); exact BK385.out⟩, ⟨by repeat (first | (with_reducible first | exact HB.out | apply below_alloc | apply pw_below_drewN | apply below_drew1 | refine below_set ?_ GE385.out) | exact HB.out)⟩⟩
        ·rw [if_neg c18] at H
         have c18b0 : ((t384 == 13) != ((rd_T25 t374 x6_1).f2)) = false := by simpa using c18
         (try (have c18b1 : decide ((t384 == 13) = ((rd_T25 t374 x6_1).f2)) = true := by simpa using c18))
         (try (have c18b2 : ((t384 == 13) == ((rd_T25 t374 x6_1).f2)) = true := by simpa using c18))
         clear c18
         by_cases c20 : t384 = 0
         ·rw [if_pos c20] at H
          have c20b0 : (t384 == 0) = true := beq_iff_eq.mpr c20
          have c20b1 : (t384 != 0) = false := bne_eq_false_iff_eq.mpr c20
          clear c20
          have H' := Aside0.mk H
          clear H
          have hcz21_0 : w14.cell? ⟨gb385, 0, none⟩ = some (.int .u64 0) := (blk_cell BK385.out 0).trans rfl
          have hcz21_1 : w14.cell? ⟨gb385, 1, none⟩ = some (.string (⟨#[]⟩ : ByteArray)) := (blk_cell BK385.out 1).trans rfl
          have hcz21_2 : w14.cell? ⟨gb385, 2, none⟩ = some (.bool false) := (blk_cell BK385.out 2).trans rfl
          have hcz21_3 : w14.cell? ⟨gb385, 3, none⟩ = some (.int .i64 0) := (blk_cell BK385.out 3).trans rfl
          have hfz21_0 := blk_frozen BK385.out 0
          have hfz21_1 := blk_frozen BK385.out 1
          have hfz21_2 := blk_frozen BK385.out 2
          have hfz21_3 := blk_frozen BK385.out 3
          have p386 : 0 ≤ (x6_1 : Int) := of_decide_eq_true (by first | (with_reducible assumption) | assumption)
          have q386 : x6_1 < (t374.length : Int) := of_decide_eq_true (by first | (with_reducible assumption) | assumption)
          obtain ⟨ad386, e386, hx386_0, hx386_1, hx386_2, hx386_3⟩ := at_T25 (Kd.R_reads' HO_0.out).2.2 x6_1 p386 q386
          obtain rfl : ad379 = ad386 := (by injection e386)
          have hn386_0 : ad379.block ≠ gb385 := Kd.own_blk (by first | exact Kd.R_ne HO_0.out BK385.out (by decide) | exact Kd.R_away HO_0.out (fun _ h => h) | exact Kd.R_away HO_0.out (fun _ h => h.2) | exact Kd.R_away HO_0.out (fun _ h => h.1))
          have hn386_1 : ad379.block ≠ gb385 := Kd.own_blk (by first | exact Kd.R_ne HO_0.out BK385.out (by decide) | exact Kd.R_away HO_0.out (fun _ h => h) | exact Kd.R_away HO_0.out (fun _ h => h.2) | exact Kd.R_away HO_0.out (fun _ h => h.1))
          have hn386_2 : ad379.block ≠ gb385 := Kd.own_blk (by first | exact Kd.R_ne HO_0.out BK385.out (by decide) | exact Kd.R_away HO_0.out (fun _ h => h) | exact Kd.R_away HO_0.out (fun _ h => h.2) | exact Kd.R_away HO_0.out (fun _ h => h.1))
          have hn386_3 : ad379.block ≠ gb385 := Kd.own_blk (by first | exact Kd.R_ne HO_0.out BK385.out (by decide) | exact Kd.R_away HO_0.out (fun _ h => h) | exact Kd.R_away HO_0.out (fun _ h => h.2) | exact Kd.R_away HO_0.out (fun _ h => h.1))
          replace hx386_0 := (cell_far (p := ⟨gb385, 0, none⟩) (by first | (rw [add_block]; exact hn386_0) | (show (Addr.add _ _).block ≠ _; rw [add_block]; exact hn386_0) | exact hn386_0) (.int .u64 t380)).trans hx386_0
          replace hx386_1 := (cell_far (p := ⟨gb385, 0, none⟩) (by first | (rw [add_block]; exact hn386_0) | (show (Addr.add _ _).block ≠ _; rw [add_block]; exact hn386_0) | exact hn386_0) (.int .u64 t380)).trans hx386_1
          replace hx386_2 := (cell_far (p := ⟨gb385, 0, none⟩) (by first | (rw [add_block]; exact hn386_0) | (show (Addr.add _ _).block ≠ _; rw [add_block]; exact hn386_0) | exact hn386_0) (.int .u64 t380)).trans hx386_2
          replace hx386_3 := (cell_far (p := ⟨gb385, 0, none⟩) (by first | (rw [add_block]; exact hn386_0) | (show (Addr.add _ _).block ≠ _; rw [add_block]; exact hn386_0) | exact hn386_0) (.int .u64 t380)).trans hx386_3
          replace hx386_0 := (cell_far (p := ⟨gb385, 1, none⟩) (by first | (rw [add_block]; exact hn386_1) | (show (Addr.add _ _).block ≠ _; rw [add_block]; exact hn386_1) | exact hn386_1) (.string t381)).trans hx386_0
          replace hx386_1 := (cell_far (p := ⟨gb385, 1, none⟩) (by first | (rw [add_block]; exact hn386_1) | (show (Addr.add _ _).block ≠ _; rw [add_block]; exact hn386_1) | exact hn386_1) (.string t381)).trans hx386_1
          replace hx386_2 := (cell_far (p := ⟨gb385, 1, none⟩) (by first | (rw [add_block]; exact hn386_1) | (show (Addr.add _ _).block ≠ _; rw [add_block]; exact hn386_1) | exact hn386_1) (.string t381)).trans hx386_2
          replace hx386_3 := (cell_far (p := ⟨gb385, 1, none⟩) (by first | (rw [add_block]; exact hn386_1) | (show (Addr.add _ _).block ≠ _; rw [add_block]; exact hn386_1) | exact hn386_1) (.string t381)).trans hx386_3
          replace hx386_0 := (cell_far (p := ⟨gb385, 2, none⟩) (by first | (rw [add_block]; exact hn386_2) | (show (Addr.add _ _).block ≠ _; rw [add_block]; exact hn386_2) | exact hn386_2) (.bool t382)).trans hx386_0
          replace hx386_1 := (cell_far (p := ⟨gb385, 2, none⟩) (by first | (rw [add_block]; exact hn386_2) | (show (Addr.add _ _).block ≠ _; rw [add_block]; exact hn386_2) | exact hn386_2) (.bool t382)).trans hx386_1
          replace hx386_2 := (cell_far (p := ⟨gb385, 2, none⟩) (by first | (rw [add_block]; exact hn386_2) | (show (Addr.add _ _).block ≠ _; rw [add_block]; exact hn386_2) | exact hn386_2) (.bool t382)).trans hx386_2
          replace hx386_3 := (cell_far (p := ⟨gb385, 2, none⟩) (by first | (rw [add_block]; exact hn386_2) | (show (Addr.add _ _).block ≠ _; rw [add_block]; exact hn386_2) | exact hn386_2) (.bool t382)).trans hx386_3
          replace hx386_0 := (cell_far (p := ⟨gb385, 3, none⟩) (by first | (rw [add_block]; exact hn386_3) | (show (Addr.add _ _).block ≠ _; rw [add_block]; exact hn386_3) | exact hn386_3) (.int .i64 t383)).trans hx386_0
          replace hx386_1 := (cell_far (p := ⟨gb385, 3, none⟩) (by first | (rw [add_block]; exact hn386_3) | (show (Addr.add _ _).block ≠ _; rw [add_block]; exact hn386_3) | exact hn386_3) (.int .i64 t383)).trans hx386_1
          replace hx386_2 := (cell_far (p := ⟨gb385, 3, none⟩) (by first | (rw [add_block]; exact hn386_3) | (show (Addr.add _ _).block ≠ _; rw [add_block]; exact hn386_3) | exact hn386_3) (.int .i64 t383)).trans hx386_2
          replace hx386_3 := (cell_far (p := ⟨gb385, 3, none⟩) (by first | (rw [add_block]; exact hn386_3) | (show (Addr.add _ _).block ≠ _; rw [add_block]; exact hn386_3) | exact hn386_3) (.int .i64 t383)).trans hx386_3
          (try have hy386_0 := fun (n_ : Nat) => (show ((((((w14.drewN n_).setCell ⟨gb385, 0, none⟩ (.int .u64 t380)).setCell ⟨gb385, 1, none⟩ (.string t381)).setCell ⟨gb385, 2, none⟩ (.bool t382)).setCell ⟨gb385, 3, none⟩ (.int .i64 t383))).cell? _ = some _ from hx386_0))
          (try have hy386_1 := fun (n_ : Nat) => (show ((((((w14.drewN n_).setCell ⟨gb385, 0, none⟩ (.int .u64 t380)).setCell ⟨gb385, 1, none⟩ (.string t381)).setCell ⟨gb385, 2, none⟩ (.bool t382)).setCell ⟨gb385, 3, none⟩ (.int .i64 t383))).cell? _ = some _ from hx386_1))
          (try have hy386_2 := fun (n_ : Nat) => (show ((((((w14.drewN n_).setCell ⟨gb385, 0, none⟩ (.int .u64 t380)).setCell ⟨gb385, 1, none⟩ (.string t381)).setCell ⟨gb385, 2, none⟩ (.bool t382)).setCell ⟨gb385, 3, none⟩ (.int .i64 t383))).cell? _ = some _ from hx386_2))
          (try have hy386_3 := fun (n_ : Nat) => (show ((((((w14.drewN n_).setCell ⟨gb385, 0, none⟩ (.int .u64 t380)).setCell ⟨gb385, 1, none⟩ (.string t381)).setCell ⟨gb385, 2, none⟩ (.bool t382)).setCell ⟨gb385, 3, none⟩ (.int .i64 t383))).cell? _ = some _ from hx386_3))
          clear hn386_0
          clear hn386_1
          clear hn386_2
          clear hn386_3
          replace p386 := eq_true p386
          replace q386 := eq_true q386
          have p387 : 0 ≤ (x6_1 : Int) := of_decide_eq_true (by first | (with_reducible assumption) | assumption)
          have q387 : x6_1 < (t374.length : Int) := of_decide_eq_true (by first | (with_reducible assumption) | assumption)
          obtain ⟨ad387, e387, hx387_0, hx387_1, hx387_2, hx387_3⟩ := at_T25 (Kd.R_reads' HO_0.out).2.2 x6_1 p387 q387
          obtain rfl : ad379 = ad387 := (by injection e387)
          have hn387_0 : ad379.block ≠ gb385 := Kd.own_blk (by first | exact Kd.R_ne HO_0.out BK385.out (by decide) | exact Kd.R_away HO_0.out (fun _ h => h) | exact Kd.R_away HO_0.out (fun _ h => h.2) | exact Kd.R_away HO_0.out (fun _ h => h.1))
          have hn387_1 : ad379.block ≠ gb385 := Kd.own_blk (by first | exact Kd.R_ne HO_0.out BK385.out (by decide) | exact Kd.R_away HO_0.out (fun _ h => h) | exact Kd.R_away HO_0.out (fun _ h => h.2) | exact Kd.R_away HO_0.out (fun _ h => h.1))
          have hn387_2 : ad379.block ≠ gb385 := Kd.own_blk (by first | exact Kd.R_ne HO_0.out BK385.out (by decide) | exact Kd.R_away HO_0.out (fun _ h => h) | exact Kd.R_away HO_0.out (fun _ h => h.2) | exact Kd.R_away HO_0.out (fun _ h => h.1))
          have hn387_3 : ad379.block ≠ gb385 := Kd.own_blk (by first | exact Kd.R_ne HO_0.out BK385.out (by decide) | exact Kd.R_away HO_0.out (fun _ h => h) | exact Kd.R_away HO_0.out (fun _ h => h.2) | exact Kd.R_away HO_0.out (fun _ h => h.1))
          replace hx387_0 := (cell_far (p := ⟨gb385, 0, none⟩) (by first | (rw [add_block]; exact hn387_0) | (show (Addr.add _ _).block ≠ _; rw [add_block]; exact hn387_0) | exact hn387_0) (.int .u64 t380)).trans hx387_0
          replace hx387_1 := (cell_far (p := ⟨gb385, 0, none⟩) (by first | (rw [add_block]; exact hn387_0) | (show (Addr.add _ _).block ≠ _; rw [add_block]; exact hn387_0) | exact hn387_0) (.int .u64 t380)).trans hx387_1
          replace hx387_2 := (cell_far (p := ⟨gb385, 0, none⟩) (by first | (rw [add_block]; exact hn387_0) | (show (Addr.add _ _).block ≠ _; rw [add_block]; exact hn387_0) | exact hn387_0) (.int .u64 t380)).trans hx387_2
          replace hx387_3 := (cell_far (p := ⟨gb385, 0, none⟩) (by first | (rw [add_block]; exact hn387_0) | (show (Addr.add _ _).block ≠ _; rw [add_block]; exact hn387_0) | exact hn387_0) (.int .u64 t380)).trans hx387_3
          replace hx387_0 := (cell_far (p := ⟨gb385, 1, none⟩) (by first | (rw [add_block]; exact hn387_1) | (show (Addr.add _ _).block ≠ _; rw [add_block]; exact hn387_1) | exact hn387_1) (.string t381)).trans hx387_0
          replace hx387_1 := (cell_far (p := ⟨gb385, 1, none⟩) (by first | (rw [add_block]; exact hn387_1) | (show (Addr.add _ _).block ≠ _; rw [add_block]; exact hn387_1) | exact hn387_1) (.string t381)).trans hx387_1
          replace hx387_2 := (cell_far (p := ⟨gb385, 1, none⟩) (by first | (rw [add_block]; exact hn387_1) | (show (Addr.add _ _).block ≠ _; rw [add_block]; exact hn387_1) | exact hn387_1) (.string t381)).trans hx387_2
          replace hx387_3 := (cell_far (p := ⟨gb385, 1, none⟩) (by first | (rw [add_block]; exact hn387_1) | (show (Addr.add _ _).block ≠ _; rw [add_block]; exact hn387_1) | exact hn387_1) (.string t381)).trans hx387_3
          replace hx387_0 := (cell_far (p := ⟨gb385, 2, none⟩) (by first | (rw [add_block]; exact hn387_2) | (show (Addr.add _ _).block ≠ _; rw [add_block]; exact hn387_2) | exact hn387_2) (.bool t382)).trans hx387_0
          replace hx387_1 := (cell_far (p := ⟨gb385, 2, none⟩) (by first | (rw [add_block]; exact hn387_2) | (show (Addr.add _ _).block ≠ _; rw [add_block]; exact hn387_2) | exact hn387_2) (.bool t382)).trans hx387_1
          replace hx387_2 := (cell_far (p := ⟨gb385, 2, none⟩) (by first | (rw [add_block]; exact hn387_2) | (show (Addr.add _ _).block ≠ _; rw [add_block]; exact hn387_2) | exact hn387_2) (.bool t382)).trans hx387_2
          replace hx387_3 := (cell_far (p := ⟨gb385, 2, none⟩) (by first | (rw [add_block]; exact hn387_2) | (show (Addr.add _ _).block ≠ _; rw [add_block]; exact hn387_2) | exact hn387_2) (.bool t382)).trans hx387_3
          replace hx387_0 := (cell_far (p := ⟨gb385, 3, none⟩) (by first | (rw [add_block]; exact hn387_3) | (show (Addr.add _ _).block ≠ _; rw [add_block]; exact hn387_3) | exact hn387_3) (.int .i64 t383)).trans hx387_0
          replace hx387_1 := (cell_far (p := ⟨gb385, 3, none⟩) (by first | (rw [add_block]; exact hn387_3) | (show (Addr.add _ _).block ≠ _; rw [add_block]; exact hn387_3) | exact hn387_3) (.int .i64 t383)).trans hx387_1
          replace hx387_2 := (cell_far (p := ⟨gb385, 3, none⟩) (by first | (rw [add_block]; exact hn387_3) | (show (Addr.add _ _).block ≠ _; rw [add_block]; exact hn387_3) | exact hn387_3) (.int .i64 t383)).trans hx387_2
          replace hx387_3 := (cell_far (p := ⟨gb385, 3, none⟩) (by first | (rw [add_block]; exact hn387_3) | (show (Addr.add _ _).block ≠ _; rw [add_block]; exact hn387_3) | exact hn387_3) (.int .i64 t383)).trans hx387_3
          (try have hy387_0 := fun (n_ : Nat) => (show ((((((w14.drewN n_).setCell ⟨gb385, 0, none⟩ (.int .u64 t380)).setCell ⟨gb385, 1, none⟩ (.string t381)).setCell ⟨gb385, 2, none⟩ (.bool t382)).setCell ⟨gb385, 3, none⟩ (.int .i64 t383))).cell? _ = some _ from hx387_0))
          (try have hy387_1 := fun (n_ : Nat) => (show ((((((w14.drewN n_).setCell ⟨gb385, 0, none⟩ (.int .u64 t380)).setCell ⟨gb385, 1, none⟩ (.string t381)).setCell ⟨gb385, 2, none⟩ (.bool t382)).setCell ⟨gb385, 3, none⟩ (.int .i64 t383))).cell? _ = some _ from hx387_1))
          (try have hy387_2 := fun (n_ : Nat) => (show ((((((w14.drewN n_).setCell ⟨gb385, 0, none⟩ (.int .u64 t380)).setCell ⟨gb385, 1, none⟩ (.string t381)).setCell ⟨gb385, 2, none⟩ (.bool t382)).setCell ⟨gb385, 3, none⟩ (.int .i64 t383))).cell? _ = some _ from hx387_2))
          (try have hy387_3 := fun (n_ : Nat) => (show ((((((w14.drewN n_).setCell ⟨gb385, 0, none⟩ (.int .u64 t380)).setCell ⟨gb385, 1, none⟩ (.string t381)).setCell ⟨gb385, 2, none⟩ (.bool t382)).setCell ⟨gb385, 3, none⟩ (.int .i64 t383))).cell? _ = some _ from hx387_3))
          clear hn387_0
          clear hn387_1
          clear hn387_2
          clear hn387_3
          replace p387 := eq_true p387
          replace q387 := eq_true q387
          go_wp2
          repeat (go_quiet (fail); try go_wp2)
          go_meet
          case rel => exact ⟨_, (false), (by first | rfl | (simp; done) | (simp [*]; done)), H', ⟨by have := HK1.out; first | omega | exact Nat.le_refl _⟩, ⟨by (with_reducible repeat (first | apply Kd.R_alloc | apply Kd.R_drewN | apply Kd.R_drew)); exact Kd.R_mono (Kd.R_far (p := ⟨gb385, 3, none⟩) (Kd.R_far (p := ⟨gb385, 2, none⟩) (Kd.R_far (p := ⟨gb385, 1, none⟩) (Kd.R_far (p := ⟨gb385, 0, none⟩) (Kd.R_mono HO_0.out (fun k_ hk => (⟨hk, hk.2⟩ : _ ∧ k_ ≠ gb385))) (fun _ hk => hk.2) (.int .u64 t380)) (fun _ hk => hk.2) (.string t381)) (fun _ hk => hk.2) (.bool t382)) (fun _ hk => hk.2) (.int .i64 t383)) (fun _ hk => hk.1.2)⟩, ⟨by (with_reducible repeat (first | refine blk_drewN ?_ _ | refine blk_drew ?_ | refine blk_alloc ?_ _)); refine blk_put (cs := #[.int .u64 t380, .string t381, .bool t382, .int .i64 0]) ?_ 3 _ rfl; (with_reducible repeat (first | refine blk_drewN ?_ _ | refine blk_drew ?_ | refine blk_alloc ?_ _)); refine blk_put (cs := #[.int .u64 t380, .string t381, .bool false, .int .i64 0]) ?_ 2 _ rfl; (with_reducible repeat (first | refine blk_drewN ?_ _ | refine blk_drew ?_ | refine blk_alloc ?_ _)); refine blk_put (cs := #[.int .u64 t380, .string (⟨#[]⟩ : ByteArray), .bool false, .int .i64 0]) ?_ 1 _ rfl; (with_reducible repeat (first | refine blk_drewN ?_ _ | refine blk_drew ?_ | refine blk_alloc ?_ _)); refine blk_put (cs := #[.int .u64 0, .string (⟨#[]⟩ : ByteArray), .bool false, .int .i64 0]) ?_ 0 _ rfl; (with_reducible repeat (first | refine blk_drewN ?_ _ | refine blk_drew ?_ | refine blk_alloc ?_ _)); exact BK385.out⟩, ⟨by repeat (first | (with_reducible first | exact HB.out | apply below_alloc | apply pw_below_drewN | apply below_drew1 | refine below_set ?_ GE385.out) | exact HB.out)⟩⟩
         ·rw [if_neg c20] at H
          have c20b0 : (t384 == 0) = false := beq_eq_false_iff_ne.mpr c20
          have c20b1 : (t384 != 0) = true := bne_iff_ne.mpr c20
          have H' := Aside0.mk H
          clear H
          have hcz22_0 : w14.cell? ⟨gb385, 0, none⟩ = some (.int .u64 0) := (blk_cell BK385.out 0).trans rfl
          have hcz22_1 : w14.cell? ⟨gb385, 1, none⟩ = some (.string (⟨#[]⟩ : ByteArray)) := (blk_cell BK385.out 1).trans rfl
          have hcz22_2 : w14.cell? ⟨gb385, 2, none⟩ = some (.bool false) := (blk_cell BK385.out 2).trans rfl
          have hcz22_3 : w14.cell? ⟨gb385, 3, none⟩ = some (.int .i64 0) := (blk_cell BK385.out 3).trans rfl
          have hfz22_0 := blk_frozen BK385.out 0
          have hfz22_1 := blk_frozen BK385.out 1
          have hfz22_2 := blk_frozen BK385.out 2
          have hfz22_3 := blk_frozen BK385.out 3
          have p386 : 0 ≤ (x6_1 : Int) := of_decide_eq_true (by first | (with_reducible assumption) | assumption)
          have q386 : x6_1 < (t374.length : Int) := of_decide_eq_true (by first | (with_reducible assumption) | assumption)
          obtain ⟨ad386, e386, hx386_0, hx386_1, hx386_2, hx386_3⟩ := at_T25 (Kd.R_reads' HO_0.out).2.2 x6_1 p386 q386
          obtain rfl : ad379 = ad386 := (by injection e386)
          have hn386_0 : ad379.block ≠ gb385 := Kd.own_blk (by first | exact Kd.R_ne HO_0.out BK385.out (by decide) | exact Kd.R_away HO_0.out (fun _ h => h) | exact Kd.R_away HO_0.out (fun _ h => h.2) | exact Kd.R_away HO_0.out (fun _ h => h.1))
          have hn386_1 : ad379.block ≠ gb385 := Kd.own_blk (by first | exact Kd.R_ne HO_0.out BK385.out (by decide) | exact Kd.R_away HO_0.out (fun _ h => h) | exact Kd.R_away HO_0.out (fun _ h => h.2) | exact Kd.R_away HO_0.out (fun _ h => h.1))
          have hn386_2 : ad379.block ≠ gb385 := Kd.own_blk (by first | exact Kd.R_ne HO_0.out BK385.out (by decide) | exact Kd.R_away HO_0.out (fun _ h => h) | exact Kd.R_away HO_0.out (fun _ h => h.2) | exact Kd.R_away HO_0.out (fun _ h => h.1))
          have hn386_3 : ad379.block ≠ gb385 := Kd.own_blk (by first | exact Kd.R_ne HO_0.out BK385.out (by decide) | exact Kd.R_away HO_0.out (fun _ h => h) | exact Kd.R_away HO_0.out (fun _ h => h.2) | exact Kd.R_away HO_0.out (fun _ h => h.1))
          replace hx386_0 := (cell_far (p := ⟨gb385, 0, none⟩) (by first | (rw [add_block]; exact hn386_0) | (show (Addr.add _ _).block ≠ _; rw [add_block]; exact hn386_0) | exact hn386_0) (.int .u64 t380)).trans hx386_0
          replace hx386_1 := (cell_far (p := ⟨gb385, 0, none⟩) (by first | (rw [add_block]; exact hn386_0) | (show (Addr.add _ _).block ≠ _; rw [add_block]; exact hn386_0) | exact hn386_0) (.int .u64 t380)).trans hx386_1
          replace hx386_2 := (cell_far (p := ⟨gb385, 0, none⟩) (by first | (rw [add_block]; exact hn386_0) | (show (Addr.add _ _).block ≠ _; rw [add_block]; exact hn386_0) | exact hn386_0) (.int .u64 t380)).trans hx386_2
          replace hx386_3 := (cell_far (p := ⟨gb385, 0, none⟩) (by first | (rw [add_block]; exact hn386_0) | (show (Addr.add _ _).block ≠ _; rw [add_block]; exact hn386_0) | exact hn386_0) (.int .u64 t380)).trans hx386_3
          replace hx386_0 := (cell_far (p := ⟨gb385, 1, none⟩) (by first | (rw [add_block]; exact hn386_1) | (show (Addr.add _ _).block ≠ _; rw [add_block]; exact hn386_1) | exact hn386_1) (.string t381)).trans hx386_0
          replace hx386_1 := (cell_far (p := ⟨gb385, 1, none⟩) (by first | (rw [add_block]; exact hn386_1) | (show (Addr.add _ _).block ≠ _; rw [add_block]; exact hn386_1) | exact hn386_1) (.string t381)).trans hx386_1
          replace hx386_2 := (cell_far (p := ⟨gb385, 1, none⟩) (by first | (rw [add_block]; exact hn386_1) | (show (Addr.add _ _).block ≠ _; rw [add_block]; exact hn386_1) | exact hn386_1) (.string t381)).trans hx386_2
          replace hx386_3 := (cell_far (p := ⟨gb385, 1, none⟩) (by first | (rw [add_block]; exact hn386_1) | (show (Addr.add _ _).block ≠ _; rw [add_block]; exact hn386_1) | exact hn386_1) (.string t381)).trans hx386_3
          replace hx386_0 := (cell_far (p := ⟨gb385, 2, none⟩) (by first | (rw [add_block]; exact hn386_2) | (show (Addr.add _ _).block ≠ _; rw [add_block]; exact hn386_2) | exact hn386_2) (.bool t382)).trans hx386_0
          replace hx386_1 := (cell_far (p := ⟨gb385, 2, none⟩) (by first | (rw [add_block]; exact hn386_2) | (show (Addr.add _ _).block ≠ _; rw [add_block]; exact hn386_2) | exact hn386_2) (.bool t382)).trans hx386_1
          replace hx386_2 := (cell_far (p := ⟨gb385, 2, none⟩) (by first | (rw [add_block]; exact hn386_2) | (show (Addr.add _ _).block ≠ _; rw [add_block]; exact hn386_2) | exact hn386_2) (.bool t382)).trans hx386_2
          replace hx386_3 := (cell_far (p := ⟨gb385, 2, none⟩) (by first | (rw [add_block]; exact hn386_2) | (show (Addr.add _ _).block ≠ _; rw [add_block]; exact hn386_2) | exact hn386_2) (.bool t382)).trans hx386_3
          replace hx386_0 := (cell_far (p := ⟨gb385, 3, none⟩) (by first | (rw [add_block]; exact hn386_3) | (show (Addr.add _ _).block ≠ _; rw [add_block]; exact hn386_3) | exact hn386_3) (.int .i64 t383)).trans hx386_0
          replace hx386_1 := (cell_far (p := ⟨gb385, 3, none⟩) (by first | (rw [add_block]; exact hn386_3) | (show (Addr.add _ _).block ≠ _; rw [add_block]; exact hn386_3) | exact hn386_3) (.int .i64 t383)).trans hx386_1
          replace hx386_2 := (cell_far (p := ⟨gb385, 3, none⟩) (by first | (rw [add_block]; exact hn386_3) | (show (Addr.add _ _).block ≠ _; rw [add_block]; exact hn386_3) | exact hn386_3) (.int .i64 t383)).trans hx386_2
          replace hx386_3 := (cell_far (p := ⟨gb385, 3, none⟩) (by first | (rw [add_block]; exact hn386_3) | (show (Addr.add _ _).block ≠ _; rw [add_block]; exact hn386_3) | exact hn386_3) (.int .i64 t383)).trans hx386_3
          (try have hy386_0 := fun (n_ : Nat) => (show ((((((w14.drewN n_).setCell ⟨gb385, 0, none⟩ (.int .u64 t380)).setCell ⟨gb385, 1, none⟩ (.string t381)).setCell ⟨gb385, 2, none⟩ (.bool t382)).setCell ⟨gb385, 3, none⟩ (.int .i64 t383))).cell? _ = some _ from hx386_0))
          (try have hy386_1 := fun (n_ : Nat) => (show ((((((w14.drewN n_).setCell ⟨gb385, 0, none⟩ (.int .u64 t380)).setCell ⟨gb385, 1, none⟩ (.string t381)).setCell ⟨gb385, 2, none⟩ (.bool t382)).setCell ⟨gb385, 3, none⟩ (.int .i64 t383))).cell? _ = some _ from hx386_1))
          (try have hy386_2 := fun (n_ : Nat) => (show ((((((w14.drewN n_).setCell ⟨gb385, 0, none⟩ (.int .u64 t380)).setCell ⟨gb385, 1, none⟩ (.string t381)).setCell ⟨gb385, 2, none⟩ (.bool t382)).setCell ⟨gb385, 3, none⟩ (.int .i64 t383))).cell? _ = some _ from hx386_2))
          (try have hy386_3 := fun (n_ : Nat) => (show ((((((w14.drewN n_).setCell ⟨gb385, 0, none⟩ (.int .u64 t380)).setCell ⟨gb385, 1, none⟩ (.string t381)).setCell ⟨gb385, 2, none⟩ (.bool t382)).setCell ⟨gb385, 3, none⟩ (.int .i64 t383))).cell? _ = some _ from hx386_3))
          clear hn386_0
          clear hn386_1
          clear hn386_2
          clear hn386_3
          replace p386 := eq_true p386
          replace q386 := eq_true q386
          have p387 : 0 ≤ (x6_1 : Int) := of_decide_eq_true (by first | (with_reducible assumption) | assumption)
          have q387 : x6_1 < (t374.length : Int) := of_decide_eq_true (by first | (with_reducible assumption) | assumption)
          obtain ⟨ad387, e387, hx387_0, hx387_1, hx387_2, hx387_3⟩ := at_T25 (Kd.R_reads' HO_0.out).2.2 x6_1 p387 q387
          obtain rfl : ad379 = ad387 := (by injection e387)
          have hn387_0 : ad379.block ≠ gb385 := Kd.own_blk (by first | exact Kd.R_ne HO_0.out BK385.out (by decide) | exact Kd.R_away HO_0.out (fun _ h => h) | exact Kd.R_away HO_0.out (fun _ h => h.2) | exact Kd.R_away HO_0.out (fun _ h => h.1))
          have hn387_1 : ad379.block ≠ gb385 := Kd.own_blk (by first | exact Kd.R_ne HO_0.out BK385.out (by decide) | exact Kd.R_away HO_0.out (fun _ h => h) | exact Kd.R_away HO_0.out (fun _ h => h.2) | exact Kd.R_away HO_0.out (fun _ h => h.1))
          have hn387_2 : ad379.block ≠ gb385 := Kd.own_blk (by first | exact Kd.R_ne HO_0.out BK385.out (by decide) | exact Kd.R_away HO_0.out (fun _ h => h) | exact Kd.R_away HO_0.out (fun _ h => h.2) | exact Kd.R_away HO_0.out (fun _ h => h.1))
          have hn387_3 : ad379.block ≠ gb385 := Kd.own_blk (by first | exact Kd.R_ne HO_0.out BK385.out (by decide) | exact Kd.R_away HO_0.out (fun _ h => h) | exact Kd.R_away HO_0.out (fun _ h => h.2) | exact Kd.R_away HO_0.out (fun _ h => h.1))
          replace hx387_0 := (cell_far (p := ⟨gb385, 0, none⟩) (by first | (rw [add_block]; exact hn387_0) | (show (Addr.add _ _).block ≠ _; rw [add_block]; exact hn387_0) | exact hn387_0) (.int .u64 t380)).trans hx387_0
          replace hx387_1 := (cell_far (p := ⟨gb385, 0, none⟩) (by first | (rw [add_block]; exact hn387_0) | (show (Addr.add _ _).block ≠ _; rw [add_block]; exact hn387_0) | exact hn387_0) (.int .u64 t380)).trans hx387_1
          replace hx387_2 := (cell_far (p := ⟨gb385, 0, none⟩) (by first | (rw [add_block]; exact hn387_0) | (show (Addr.add _ _).block ≠ _; rw [add_block]; exact hn387_0) | exact hn387_0) (.int .u64 t380)).trans hx387_2
          replace hx387_3 := (cell_far (p := ⟨gb385, 0, none⟩) (by first | (rw [add_block]; exact hn387_0) | (show (Addr.add _ _).block ≠ _; rw [add_block]; exact hn387_0) | exact hn387_0) (.int .u64 t380)).trans hx387_3
          replace hx387_0 := (cell_far (p := ⟨gb385, 1, none⟩) (by first | (rw [add_block]; exact hn387_1) | (show (Addr.add _ _).block ≠ _; rw [add_block]; exact hn387_1) | exact hn387_1) (.string t381)).trans hx387_0
          replace hx387_1 := (cell_far (p := ⟨gb385, 1, none⟩) (by first | (rw [add_block]; exact hn387_1) | (show (Addr.add _ _).block ≠ _; rw [add_block]; exact hn387_1) | exact hn387_1) (.string t381)).trans hx387_1
          replace hx387_2 := (cell_far (p := ⟨gb385, 1, none⟩) (by first | (rw [add_block]; exact hn387_1) | (show (Addr.add _ _).block ≠ _; rw [add_block]; exact hn387_1) | exact hn387_1) (.string t381)).trans hx387_2
          replace hx387_3 := (cell_far (p := ⟨gb385, 1, none⟩) (by first | (rw [add_block]; exact hn387_1) | (show (Addr.add _ _).block ≠ _; rw [add_block]; exact hn387_1) | exact hn387_1) (.string t381)).trans hx387_3
          replace hx387_0 := (cell_far (p := ⟨gb385, 2, none⟩) (by first | (rw [add_block]; exact hn387_2) | (show (Addr.add _ _).block ≠ _; rw [add_block]; exact hn387_2) | exact hn387_2) (.bool t382)).trans hx387_0
          replace hx387_1 := (cell_far (p := ⟨gb385, 2, none⟩) (by first | (rw [add_block]; exact hn387_2) | (show (Addr.add _ _).block ≠ _; rw [add_block]; exact hn387_2) | exact hn387_2) (.bool t382)).trans hx387_1
          replace hx387_2 := (cell_far (p := ⟨gb385, 2, none⟩) (by first | (rw [add_block]; exact hn387_2) | (show (Addr.add _ _).block ≠ _; rw [add_block]; exact hn387_2) | exact hn387_2) (.bool t382)).trans hx387_2
          replace hx387_3 := (cell_far (p := ⟨gb385, 2, none⟩) (by first | (rw [add_block]; exact hn387_2) | (show (Addr.add _ _).block ≠ _; rw [add_block]; exact hn387_2) | exact hn387_2) (.bool t382)).trans hx387_3
          replace hx387_0 := (cell_far (p := ⟨gb385, 3, none⟩) (by first | (rw [add_block]; exact hn387_3) | (show (Addr.add _ _).block ≠ _; rw [add_block]; exact hn387_3) | exact hn387_3) (.int .i64 t383)).trans hx387_0
          replace hx387_1 := (cell_far (p := ⟨gb385, 3, none⟩) (by first | (rw [add_block]; exact hn387_3) | (show (Addr.add _ _).block ≠ _; rw [add_block]; exact hn387_3) | exact hn387_3) (.int .i64 t383)).trans hx387_1
          replace hx387_2 := (cell_far (p := ⟨gb385, 3, none⟩) (by first | (rw [add_block]; exact hn387_3) | (show (Addr.add _ _).block ≠ _; rw [add_block]; exact hn387_3) | exact hn387_3) (.int .i64 t383)).trans hx387_2
          replace hx387_3 := (cell_far (p := ⟨gb385, 3, none⟩) (by first | (rw [add_block]; exact hn387_3) | (show (Addr.add _ _).block ≠ _; rw [add_block]; exact hn387_3) | exact hn387_3) (.int .i64 t383)).trans hx387_3
          (try have hy387_0 := fun (n_ : Nat) => (show ((((((w14.drewN n_).setCell ⟨gb385, 0, none⟩ (.int .u64 t380)).setCell ⟨gb385, 1, none⟩ (.string t381)).setCell ⟨gb385, 2, none⟩ (.bool t382)).setCell ⟨gb385, 3, none⟩ (.int .i64 t383))).cell? _ = some _ from hx387_0))
          (try have hy387_1 := fun (n_ : Nat) => (show ((((((w14.drewN n_).setCell ⟨gb385, 0, none⟩ (.int .u64 t380)).setCell ⟨gb385, 1, none⟩ (.string t381)).setCell ⟨gb385, 2, none⟩ (.bool t382)).setCell ⟨gb385, 3, none⟩ (.int .i64 t383))).cell? _ = some _ from hx387_1))
          (try have hy387_2 := fun (n_ : Nat) => (show ((((((w14.drewN n_).setCell ⟨gb385, 0, none⟩ (.int .u64 t380)).setCell ⟨gb385, 1, none⟩ (.string t381)).setCell ⟨gb385, 2, none⟩ (.bool t382)).setCell ⟨gb385, 3, none⟩ (.int .i64 t383))).cell? _ = some _ from hx387_2))
          (try have hy387_3 := fun (n_ : Nat) => (show ((((((w14.drewN n_).setCell ⟨gb385, 0, none⟩ (.int .u64 t380)).setCell ⟨gb385, 1, none⟩ (.string t381)).setCell ⟨gb385, 2, none⟩ (.bool t382)).setCell ⟨gb385, 3, none⟩ (.int .i64 t383))).cell? _ = some _ from hx387_3))
          clear hn387_0
          clear hn387_1
          clear hn387_2
          clear hn387_3
          replace p387 := eq_true p387
          replace q387 := eq_true q387
          go_wp2
          repeat (go_quiet (fail); try go_wp2)
          go_meet
          case rel => exact ⟨_, ((t384 != 13)), (by first | rfl | (simp; done) | (simp [*]; done)), H', ⟨by have := HK1.out; first | omega | exact Nat.le_refl _⟩, ⟨by (with_reducible repeat (first | apply Kd.R_alloc | apply Kd.R_drewN | apply Kd.R_drew)); exact Kd.R_mono (Kd.R_far (p := ⟨gb385, 3, none⟩) (Kd.R_far (p := ⟨gb385, 2, none⟩) (Kd.R_far (p := ⟨gb385, 1, none⟩) (Kd.R_far (p := ⟨gb385, 0, none⟩) (Kd.R_mono HO_0.out (fun k_ hk => (⟨hk, hk.2⟩ : _ ∧ k_ ≠ gb385))) (fun _ hk => hk.2) (.int .u64 t380)) (fun _ hk => hk.2) (.string t381)) (fun _ hk => hk.2) (.bool t382)) (fun _ hk => hk.2) (.int .i64 t383)) (fun _ hk => hk.1.2)⟩, ⟨by (with_reducible repeat (first | refine blk_drewN ?_ _ | refine blk_drew ?_ | refine blk_alloc ?_ _)); refine blk_put (cs := #[.int .u64 t380, .string t381, .bool t382, .int .i64 0]) ?_ 3 _ rfl; (with_reducible repeat (first | refine blk_drewN ?_ _ | refine blk_drew ?_ | refine blk_alloc ?_ _)); refine blk_put (cs := #[.int .u64 t380, .string t381, .bool false, .int .i64 0]) ?_ 2 _ rfl; (with_reducible repeat (first | refine blk_drewN ?_ _ | refine blk_drew ?_ | refine blk_alloc ?_ _)); refine blk_put (cs := #[.int .u64 t380, .string (⟨#[]⟩ : ByteArray), .bool false, .int .i64 0]) ?_ 1 _ rfl; (with_reducible repeat (first | refine blk_drewN ?_ _ | refine blk_drew ?_ | refine blk_alloc ?_ _)); refine blk_put (cs := #[.int .u64 0, .string (⟨#[]⟩ : ByteArray), .bool false, .int .i64 0]) ?_ 0 _ rfl; (with_reducible repeat (first | refine blk_drewN ?_ _ | refine blk_drew ?_ | refine blk_alloc ?_ _)); exact BK385.out⟩, ⟨by repeat (first | (with_reducible first | exact HB.out | apply below_alloc | apply pw_below_drewN | apply below_drew1 | refine below_set ?_ GE385.out) | exact HB.out)⟩⟩
      case rest =>
       clear HC12
       try clear c1
       try clear c2
       try clear p2
       try clear p3
       try clear q3
       try clear hx3
       try clear c5
       try clear c5b0
       try clear c5b1
       try clear c9
       try clear c9b0
       try clear c10
       try clear c10b0
       try clear c16
       try clear c16b0
       try clear c18
       try clear c18b0
       try clear c18b1
       try clear c18b2
       try clear c20
       try clear c20b0
       try clear c20b1
       try clear hcz15_0
       try clear hcz15_1
       try clear hcz15_2
       try clear hcz15_3
       try clear hcz17_0
       try clear hcz17_1
       try clear hcz17_2
       try clear hcz17_3
       try clear hcz19_0
       try clear hcz19_1
       try clear hcz19_2
       try clear hcz19_3
       try clear hcz21_0
       try clear hcz21_1
       try clear hcz21_2
       try clear hcz21_3
       try clear hcz22_0
       try clear hcz22_1
       try clear hcz22_2
       try clear hcz22_3
       try clear hfz15_0
       try clear hfz15_1
       try clear hfz15_2
       try clear hfz15_3
       try clear hfz17_0
       try clear hfz17_1
       try clear hfz17_2
       try clear hfz17_3
       try clear hfz19_0
       try clear hfz19_1
       try clear hfz19_2
       try clear hfz19_3
       try clear hfz21_0
       try clear hfz21_1
       try clear hfz21_2
       try clear hfz21_3
       try clear hfz22_0
       try clear hfz22_1
       try clear hfz22_2
       try clear hfz22_3
       try clear hx379_0
       try clear hx379_1
       try clear hx379_2
       try clear hx379_3
       try clear hx386_0
       try clear hx386_1
       try clear hx386_2
       try clear hx386_3
       try clear hx387_0
       try clear hx387_1
       try clear hx387_2
       try clear hx387_3
       try clear p2
       try clear p379
       try clear p386
       try clear p387
       try clear q379
       try clear q386
       try clear q387
       obtain ⟨kq, x58_11, rfl, HA, HJ11, HO_0, BK385, HB⟩ := hcut
       cases kq with
       | zero => exact absurd HA.out (by simp [cellarerlaw05_ChainFirst.j1])
       | succ kj11 =>
        have H := HA.out
        clear HA
        simp only [cellarerlaw05_ChainFirst.j1] at H
        by_cases c23 : x58_11 = true
        ·subst c23
         have H1 : (some false) = some r := by rw [if_pos rfl] at H; exact H
         clear H
         have H := H1
         clear H1
         obtain rfl := Option.some.inj H
         go_wp2
         repeat (go_quiet (fail); try go_wp2)
         go_ret
         exact ⟨by first | rfl | (simp [errW_none, errW_some] <;> rfl) | (simp [*, errW_none, errW_some] <;> rfl), by repeat (first | (with_reducible first | exact HB.out | apply below_alloc | apply pw_below_drewN | apply below_drew1 | refine below_set ?_ GE385.out) | exact HB.out)⟩
        ·replace c23 := Bool.eq_false_iff.mpr c23
         subst c23
         have H1 : (if x5_1 = true then (cellarerlaw05_ChainFirst.l0 kj11 t374 a1 true (wrap64 (x6_1 + 1))) else (if 0 ≤ x6_1 then (if x6_1 < (t374.length : Int) then (cellarerlaw05_ChainFirst.l0 kj11 t374 a1 (((rd_T25 t374 x6_1).f0) == a1) (wrap64 (x6_1 + 1))) else (none)) else (none))) = some r := by rw [if_neg (show ¬ (false = true) by decide)] at H; exact H
         clear H
         have H := H1
         clear H1
         by_cases c24 : x5_1 = true
         ·subst c24
          have H1 : (cellarerlaw05_ChainFirst.l0 kj11 t374 a1 true (wrap64 (x6_1 + 1))) = some r := by rw [if_pos rfl] at H; exact H
          clear H
          have H := H1
          clear H1
          have H' := Aside0.mk H
          clear H
          go_wp2
          repeat (go_quiet (fail); try go_wp2)
          go_roundg kj11
          case measure => have := HK1.out; have := HJ11.out; omega
          case rel => exact ⟨(true), (wrap64 (x6_1 + 1)), (by first | rfl | (simp; done) | (simp [*]; done)), (by first | rfl | (simp; done) | (simp [*]; done)), H', ⟨by have := HK1.out; have := HJ11.out; omega⟩, ⟨by (with_reducible repeat (first | apply Kd.R_alloc | apply Kd.R_drewN | apply Kd.R_drew)); exact Kd.R_mono HO_0.out (fun _ hk => trivial)⟩, ⟨by repeat (first | (with_reducible first | exact HB.out | apply below_alloc | apply pw_below_drewN | apply below_drew1 | refine below_set ?_ GE385.out) | exact HB.out)⟩⟩
         ·replace c24 := Bool.eq_false_iff.mpr c24
          subst c24
          have H1 : (if 0 ≤ x6_1 then (if x6_1 < (t374.length : Int) then (cellarerlaw05_ChainFirst.l0 kj11 t374 a1 (((rd_T25 t374 x6_1).f0) == a1) (wrap64 (x6_1 + 1))) else (none)) else (none)) = some r := by rw [if_neg (show ¬ (false = true) by decide)] at H; exact H
          clear H
          have H := H1
          clear H1
          by_cases c25 : 0 ≤ x6_1
          ·rw [if_pos c25] at H
           have c25b0 : decide (0 ≤ x6_1) = true := decide_eq_true c25
           clear c25
           by_cases c26 : x6_1 < (t374.length : Int)
           ·rw [if_pos c26] at H
            have c26b0 : decide (x6_1 < (t374.length : Int)) = true := decide_eq_true c26
            clear c26
            have H' := Aside0.mk H
            clear H
            have p388 : 0 ≤ (x6_1 : Int) := of_decide_eq_true (by first | (with_reducible assumption) | assumption)
            have q388 : x6_1 < (t374.length : Int) := of_decide_eq_true (by first | (with_reducible assumption) | assumption)
            obtain ⟨ad388, e388, hx388_0, hx388_1, hx388_2, hx388_3⟩ := at_T25 (Kd.R_reads' HO_0.out).2.2 x6_1 p388 q388
            obtain rfl : ad379 = ad388 := (by injection e388)
            replace p388 := eq_true p388
            replace q388 := eq_true q388
            go_wp2
            repeat (go_quiet (fail); try go_wp2)
            go_roundg kj11
            case measure => have := HK1.out; have := HJ11.out; omega
            case rel => exact ⟨((((rd_T25 t374 x6_1).f0) == a1)), (wrap64 (x6_1 + 1)), (by first | rfl | (simp; done) | (simp [*]; done)), (by first | rfl | (simp; done) | (simp [*]; done)), H', ⟨by have := HK1.out; have := HJ11.out; omega⟩, ⟨by (with_reducible repeat (first | apply Kd.R_alloc | apply Kd.R_drewN | apply Kd.R_drew)); exact Kd.R_mono HO_0.out (fun _ hk => trivial)⟩, ⟨by repeat (first | (with_reducible first | exact HB.out | apply below_alloc | apply pw_below_drewN | apply below_drew1 | refine below_set ?_ GE385.out) | exact HB.out)⟩⟩
           ·rw [if_neg c26] at H
            exact absurd H (by simp)
          ·rw [if_neg c25] at H
           exact absurd H (by simp)
     ·rw [if_neg c10] at H
      exact absurd H (by simp)
    ·rw [if_neg c9] at H
     have c9b0 : decide (x6_1 < (t374.length : Int)) = false := decide_eq_false c9
     clear c9
     replace H := Option.bind_eq_some_iff.mp H
     obtain ⟨⟨t389, t390, t391, t392, t393⟩, A270, H⟩ := H
     replace H : (if (t374.length : Int) = 0 then (if t393 = 4 then (if (t374.length : Int) > 0 then (if 0 < (t374.length : Int) then (cellarerlaw05_ChainFirst.j2 k1 t374 a1 x5_1 (!(t389 == ((rd_T25 t374 0).f0)) || (!(t390.toList == (((rd_T25 t374 0).f1).toList)) || (!(t391 == ((rd_T25 t374 0).f2)) || (!(t392 == ((rd_T25 t374 0).f3))))))) else (none)) else (cellarerlaw05_ChainFirst.j2 k1 t374 a1 x5_1 false)) else (cellarerlaw05_ChainFirst.j2 k1 t374 a1 x5_1 true)) else (if (t374.length : Int) > 0 then (if 0 < (t374.length : Int) then (cellarerlaw05_ChainFirst.j2 k1 t374 a1 x5_1 (!(t389 == ((rd_T25 t374 0).f0)) || (!(t390.toList == (((rd_T25 t374 0).f1).toList)) || (!(t391 == ((rd_T25 t374 0).f2)) || (!(t392 == ((rd_T25 t374 0).f3))))))) else (none)) else (cellarerlaw05_ChainFirst.j2 k1 t374 a1 x5_1 false))) = some r := H
     have A27 := Aside0.mk A270
     clear A270
     have HC28 := Aside0.mk H
     clear H
     go_upto_region 13 with (first | (go_at_call 22; (with_reducible refine (chain_Get.calls k1 _ _ t374 t389 t390 t391 t392 t393 _ ?side1 ?side2 A27.out).mono ?_); (case side1 => repeat (first | exact (Kd.R_reads' HO_0.out).2.2 | (with_reducible refine Kd.C_alloc ?_ _) | (with_reducible refine Kd.C_drewN ?_ _) | (with_reducible refine Kd.C_drew ?_))); (case side2 => exact (Kd.R_reads' HO_0.out).2.1); rintro e w29 ⟨rfl, hb⟩; have n0_ := Aside0.mk (Kd.R_below (by (with_reducible repeat (first | apply Kd.R_alloc | apply Kd.R_drewN | apply Kd.R_drew)); exact HO_0.out) hb); have n1_ := Aside0.mk (below_step (by repeat (first | (with_reducible first | exact HB.out | apply below_alloc | apply pw_below_drewN | apply below_drew1) | exact HB.out)) hb); clear HO_0; clear HB; have HO_0 := n0_; have HB := n1_; clear n0_ n1_; (try clear hb); (try clear hb2); (try clear hk); (try clear hi)) | ((with_reducible refine gate_dst (N := 9) rfl ?_); (try (refine gate_guard (by rfl) ?_; dsimp only)); refine box_event ?hg (N := 9) ?hd (cs := #[.int .u64 0, .string (⟨#[]⟩ : ByteArray), .bool false, .int .i64 0]) (t := 25) ?hr ?_; (case hd => rfl); (case hg => rfl); (case hr => first | (go_simp; done) | (go_simp; rfl)); intro gb394 hg w30 hbox hb; have n0_ := Aside0.mk (Kd.R_below (Kd.R_elderB (by (with_reducible repeat (first | apply Kd.R_alloc | apply Kd.R_drewN | apply Kd.R_drew)); exact HO_0.out) gb394 (Nat.le_of_eq hg.symm)) hb); have n1_ := Aside0.mk (below_step (by repeat (first | (with_reducible first | exact HB.out | apply below_alloc | apply pw_below_drewN | apply below_drew1) | exact HB.out)) hb); have n2_ := Aside0.mk (hbox); have n3_ := Aside0.mk ((by rw [hg]; exact (below_size (by repeat (first | (with_reducible first | exact HB.out | apply below_alloc | apply pw_below_drewN | apply below_drew1) | exact HB.out))) : w.heap.size ≤ gb394)); have n4_ := Aside0.mk ((by rw [hg]; exact (below_size (by repeat (first | (with_reducible first | exact HB.out | apply below_alloc | apply pw_below_drewN | apply below_drew1) | exact HB.out))) : w.heap.size ≤ gb394)); clear HO_0; clear HB; have HO_0 := n0_; have HB := n1_; have BK394 := n2_; have GW394 := n3_; have GE394 := n4_; clear n0_ n1_ n2_ n3_ n4_; clear hb hbox hg; have hcz31_0 : w30.cell? ⟨gb394, 0, none⟩ = some (.int .u64 0) := (blk_cell BK394.out 0).trans rfl; have hcz31_1 : w30.cell? ⟨gb394, 1, none⟩ = some (.string (⟨#[]⟩ : ByteArray)) := (blk_cell BK394.out 1).trans rfl; have hcz31_2 : w30.cell? ⟨gb394, 2, none⟩ = some (.bool false) := (blk_cell BK394.out 2).trans rfl; have hcz31_3 : w30.cell? ⟨gb394, 3, none⟩ = some (.int .i64 0) := (blk_cell BK394.out 3).trans rfl; have hfz31_0 := blk_frozen BK394.out 0; have hfz31_1 := blk_frozen BK394.out 1; have hfz31_2 := blk_frozen BK394.out 2; have hfz31_3 := blk_frozen BK394.out 3))
     repeat (go_quiet (first | (go_at_call 22; (with_reducible refine (chain_Get.calls k1 _ _ t374 t389 t390 t391 t392 t393 _ ?side1 ?side2 A27.out).mono ?_); (case side1 => repeat (first | exact (Kd.R_reads' HO_0.out).2.2 | (with_reducible refine Kd.C_alloc ?_ _) | (with_reducible refine Kd.C_drewN ?_ _) | (with_reducible refine Kd.C_drew ?_))); (case side2 => exact (Kd.R_reads' HO_0.out).2.1); rintro e w29 ⟨rfl, hb⟩; have n0_ := Aside0.mk (Kd.R_below (by (with_reducible repeat (first | apply Kd.R_alloc | apply Kd.R_drewN | apply Kd.R_drew)); exact HO_0.out) hb); have n1_ := Aside0.mk (below_step (by repeat (first | (with_reducible first | exact HB.out | apply below_alloc | apply pw_below_drewN | apply below_drew1) | exact HB.out)) hb); clear HO_0; clear HB; have HO_0 := n0_; have HB := n1_; clear n0_ n1_; (try clear hb); (try clear hb2); (try clear hk); (try clear hi)) | ((with_reducible refine gate_dst (N := 9) rfl ?_); (try (refine gate_guard (by rfl) ?_; dsimp only)); refine box_event ?hg (N := 9) ?hd (cs := #[.int .u64 0, .string (⟨#[]⟩ : ByteArray), .bool false, .int .i64 0]) (t := 25) ?hr ?_; (case hd => rfl); (case hg => rfl); (case hr => first | (go_simp; done) | (go_simp; rfl)); intro gb394 hg w30 hbox hb; have n0_ := Aside0.mk (Kd.R_below (Kd.R_elderB (by (with_reducible repeat (first | apply Kd.R_alloc | apply Kd.R_drewN | apply Kd.R_drew)); exact HO_0.out) gb394 (Nat.le_of_eq hg.symm)) hb); have n1_ := Aside0.mk (below_step (by repeat (first | (with_reducible first | exact HB.out | apply below_alloc | apply pw_below_drewN | apply below_drew1) | exact HB.out)) hb); have n2_ := Aside0.mk (hbox); have n3_ := Aside0.mk ((by rw [hg]; exact (below_size (by repeat (first | (with_reducible first | exact HB.out | apply below_alloc | apply pw_below_drewN | apply below_drew1) | exact HB.out))) : w.heap.size ≤ gb394)); have n4_ := Aside0.mk ((by rw [hg]; exact (below_size (by repeat (first | (with_reducible first | exact HB.out | apply below_alloc | apply pw_below_drewN | apply below_drew1) | exact HB.out))) : w.heap.size ≤ gb394)); clear HO_0; clear HB; have HO_0 := n0_; have HB := n1_; have BK394 := n2_; have GW394 := n3_; have GE394 := n4_; clear n0_ n1_ n2_ n3_ n4_; clear hb hbox hg; have hcz31_0 : w30.cell? ⟨gb394, 0, none⟩ = some (.int .u64 0) := (blk_cell BK394.out 0).trans rfl; have hcz31_1 : w30.cell? ⟨gb394, 1, none⟩ = some (.string (⟨#[]⟩ : ByteArray)) := (blk_cell BK394.out 1).trans rfl; have hcz31_2 : w30.cell? ⟨gb394, 2, none⟩ = some (.bool false) := (blk_cell BK394.out 2).trans rfl; have hcz31_3 : w30.cell? ⟨gb394, 3, none⟩ = some (.int .i64 0) := (blk_cell BK394.out 3).trans rfl; have hfz31_0 := blk_frozen BK394.out 0; have hfz31_1 := blk_frozen BK394.out 1; have hfz31_2 := blk_frozen BK394.out 2; have hfz31_3 := blk_frozen BK394.out 3)); go_upto_region 13 with (first | (go_at_call 22; (with_reducible refine (chain_Get.calls k1 _ _ t374 t389 t390 t391 t392 t393 _ ?side1 ?side2 A27.out).mono ?_); (case side1 => repeat (first | exact (Kd.R_reads' HO_0.out).2.2 | (with_reducible refine Kd.C_alloc ?_ _) | (with_reducible refine Kd.C_drewN ?_ _) | (with_reducible refine Kd.C_drew ?_))); (case side2 => exact (Kd.R_reads' HO_0.out).2.1); rintro e w29 ⟨rfl, hb⟩; have n0_ := Aside0.mk (Kd.R_below (by (with_reducible repeat (first | apply Kd.R_alloc | apply Kd.R_drewN | apply Kd.R_drew)); exact HO_0.out) hb); have n1_ := Aside0.mk (below_step (by repeat (first | (with_reducible first | exact HB.out | apply below_alloc | apply pw_below_drewN | apply below_drew1) | exact HB.out)) hb); clear HO_0; clear HB; have HO_0 := n0_; have HB := n1_; clear n0_ n1_; (try clear hb); (try clear hb2); (try clear hk); (try clear hi)) | ((with_reducible refine gate_dst (N := 9) rfl ?_); (try (refine gate_guard (by rfl) ?_; dsimp only)); refine box_event ?hg (N := 9) ?hd (cs := #[.int .u64 0, .string (⟨#[]⟩ : ByteArray), .bool false, .int .i64 0]) (t := 25) ?hr ?_; (case hd => rfl); (case hg => rfl); (case hr => first | (go_simp; done) | (go_simp; rfl)); intro gb394 hg w30 hbox hb; have n0_ := Aside0.mk (Kd.R_below (Kd.R_elderB (by (with_reducible repeat (first | apply Kd.R_alloc | apply Kd.R_drewN | apply Kd.R_drew)); exact HO_0.out) gb394 (Nat.le_of_eq hg.symm)) hb); have n1_ := Aside0.mk (below_step (by repeat (first | (with_reducible first | exact HB.out | apply below_alloc | apply pw_below_drewN | apply below_drew1) | exact HB.out)) hb); have n2_ := Aside0.mk (hbox); have n3_ := Aside0.mk ((by rw [hg]; exact (below_size (by repeat (first | (with_reducible first | exact HB.out | apply below_alloc | apply pw_below_drewN | apply below_drew1) | exact HB.out))) : w.heap.size ≤ gb394)); have n4_ := Aside0.mk ((by rw [hg]; exact (below_size (by repeat (first | (with_reducible first | exact HB.out | apply below_alloc | apply pw_below_drewN | apply below_drew1) | exact HB.out))) : w.heap.size ≤ gb394)); clear HO_0; clear HB; have HO_0 := n0_; have HB := n1_; have BK394 := n2_; have GW394 := n3_; have GE394 := n4_; clear n0_ n1_ n2_ n3_ n4_; clear hb hbox hg; have hcz31_0 : w30.cell? ⟨gb394, 0, none⟩ = some (.int .u64 0) := (blk_cell BK394.out 0).trans rfl; have hcz31_1 : w30.cell? ⟨gb394, 1, none⟩ = some (.string (⟨#[]⟩ : ByteArray)) := (blk_cell BK394.out 1).trans rfl; have hcz31_2 : w30.cell? ⟨gb394, 2, none⟩ = some (.bool false) := (blk_cell BK394.out 2).trans rfl; have hcz31_3 : w30.cell? ⟨gb394, 3, none⟩ = some (.int .i64 0) := (blk_cell BK394.out 3).trans rfl; have hfz31_0 := blk_frozen BK394.out 0; have hfz31_1 := blk_frozen BK394.out 1; have hfz31_2 := blk_frozen BK394.out 2; have hfz31_3 := blk_frozen BK394.out 3)))
     (try simp only [Act.put, List.setIfInBounds_toArray, List.set_cons_zero, List.set_cons_succ])
     go_cut [92] (fun v92 wc => ∃ (kq : Nat) (x92_27 : Bool), v92 = .bool x92_27 ∧ Aside0 (cellarerlaw05_ChainFirst.j2 kq t374 a1 x5_1 x92_27 = some r) ∧ Aside0 (kq ≤ k1) ∧ Aside0 (Kd.R k25 25 wc w.heap.size (fun k_ => k_ ≠ gb394) (.slice Ao7 t374.length co7) t374) ∧ Aside0 (wc.heap[gb394]? = some (.cells #[.int .u64 t389, .string t390, .bool t391, .int .i64 t392] 25 (0, 0))) ∧ Aside0 (Below w.heap.size w wc))
     case first =>
      have H := HC28.out
      clear HC28
      by_cases c32 : (t374.length : Int) = 0
      ·rw [if_pos c32] at H
       have c32b0 : ((t374.length : Int) == 0) = true := beq_iff_eq.mpr c32
       have c32b1 : ((t374.length : Int) != 0) = false := bne_eq_false_iff_eq.mpr c32
       clear c32
       (first | rw [c32b0] | rw [c32b1] | (simp only [i64_w, i32_w]; rw [c32b0]) | skip)
       by_cases c33 : t393 = 4
       ·rw [if_pos c33] at H
        have c33b0 : (t393 == 4) = true := beq_iff_eq.mpr c33
        have c33b1 : (t393 != 4) = false := bne_eq_false_iff_eq.mpr c33
        clear c33
        by_cases c34 : (t374.length : Int) > 0
        ·rw [if_pos c34] at H
         have c34b0 : decide (0 < (t374.length : Int)) = true := decide_eq_true c34
         have c34b1 : decide (0 < t374.length) = true := decide_eq_true (by omega)
         clear c34
         by_cases c35 : 0 < (t374.length : Int)
         ·rw [if_pos c35] at H
          have c35b0 : decide (0 < (t374.length : Int)) = true := decide_eq_true c35
          have c35b1 : decide (0 < t374.length) = true := decide_eq_true (by omega)
          clear c35
          have H' := Aside0.mk H
          clear H
          have hcz36_0 : w30.cell? ⟨gb394, 0, none⟩ = some (.int .u64 0) := (blk_cell BK394.out 0).trans rfl
          have hcz36_1 : w30.cell? ⟨gb394, 1, none⟩ = some (.string (⟨#[]⟩ : ByteArray)) := (blk_cell BK394.out 1).trans rfl
          have hcz36_2 : w30.cell? ⟨gb394, 2, none⟩ = some (.bool false) := (blk_cell BK394.out 2).trans rfl
          have hcz36_3 : w30.cell? ⟨gb394, 3, none⟩ = some (.int .i64 0) := (blk_cell BK394.out 3).trans rfl
          have hfz36_0 := blk_frozen BK394.out 0
          have hfz36_1 := blk_frozen BK394.out 1
          have hfz36_2 := blk_frozen BK394.out 2
          have hfz36_3 := blk_frozen BK394.out 3
          have p395 : 0 ≤ (0 : Int) := (by omega)
          have q395 : 0 < (t374.length : Int) := of_decide_eq_true (by first | (with_reducible assumption) | assumption)
          obtain ⟨ad395, e395, hx395_0, hx395_1, hx395_2, hx395_3⟩ := at_T25 (Kd.R_reads' HO_0.out).2.2 0 p395 q395
          cases e395
          have qi395 : (0 < t374.length) = True := eq_true (by omega)
          (try rw [show ((0 : Int)).toNat = 0 from rfl] at hx395_0)
          (try rw [show 0 * 4 = 0 from rfl] at hx395_0)
          (try rw [Addr.add_zero'] at hx395_0)
          (try rw [show ((0 : Int)).toNat = 0 from rfl] at hx395_1)
          (try rw [show 0 * 4 = 0 from rfl] at hx395_1)
          (try rw [Addr.add_zero'] at hx395_1)
          (try rw [show ((0 : Int)).toNat = 0 from rfl] at hx395_2)
          (try rw [show 0 * 4 = 0 from rfl] at hx395_2)
          (try rw [Addr.add_zero'] at hx395_2)
          (try rw [show ((0 : Int)).toNat = 0 from rfl] at hx395_3)
          (try rw [show 0 * 4 = 0 from rfl] at hx395_3)
          (try rw [Addr.add_zero'] at hx395_3)
          have hn395_0 : ad395.block ≠ gb394 := Kd.own_blk (by first | exact Kd.R_ne HO_0.out BK394.out (by decide) | exact Kd.R_away HO_0.out (fun _ h => h) | exact Kd.R_away HO_0.out (fun _ h => h.2) | exact Kd.R_away HO_0.out (fun _ h => h.1))
          have hn395_1 : ad395.block ≠ gb394 := Kd.own_blk (by first | exact Kd.R_ne HO_0.out BK394.out (by decide) | exact Kd.R_away HO_0.out (fun _ h => h) | exact Kd.R_away HO_0.out (fun _ h => h.2) | exact Kd.R_away HO_0.out (fun _ h => h.1))
          have hn395_2 : ad395.block ≠ gb394 := Kd.own_blk (by first | exact Kd.R_ne HO_0.out BK394.out (by decide) | exact Kd.R_away HO_0.out (fun _ h => h) | exact Kd.R_away HO_0.out (fun _ h => h.2) | exact Kd.R_away HO_0.out (fun _ h => h.1))
          have hn395_3 : ad395.block ≠ gb394 := Kd.own_blk (by first | exact Kd.R_ne HO_0.out BK394.out (by decide) | exact Kd.R_away HO_0.out (fun _ h => h) | exact Kd.R_away HO_0.out (fun _ h => h.2) | exact Kd.R_away HO_0.out (fun _ h => h.1))
          replace hx395_0 := (cell_far (p := ⟨gb394, 0, none⟩) (by first | (rw [add_block]; exact hn395_0) | (show (Addr.add _ _).block ≠ _; rw [add_block]; exact hn395_0) | exact hn395_0) (.int .u64 t389)).trans hx395_0
          replace hx395_1 := (cell_far (p := ⟨gb394, 0, none⟩) (by first | (rw [add_block]; exact hn395_0) | (show (Addr.add _ _).block ≠ _; rw [add_block]; exact hn395_0) | exact hn395_0) (.int .u64 t389)).trans hx395_1
          replace hx395_2 := (cell_far (p := ⟨gb394, 0, none⟩) (by first | (rw [add_block]; exact hn395_0) | (show (Addr.add _ _).block ≠ _; rw [add_block]; exact hn395_0) | exact hn395_0) (.int .u64 t389)).trans hx395_2
          replace hx395_3 := (cell_far (p := ⟨gb394, 0, none⟩) (by first | (rw [add_block]; exact hn395_0) | (show (Addr.add _ _).block ≠ _; rw [add_block]; exact hn395_0) | exact hn395_0) (.int .u64 t389)).trans hx395_3
          replace hx395_0 := (cell_far (p := ⟨gb394, 1, none⟩) (by first | (rw [add_block]; exact hn395_1) | (show (Addr.add _ _).block ≠ _; rw [add_block]; exact hn395_1) | exact hn395_1) (.string t390)).trans hx395_0
          replace hx395_1 := (cell_far (p := ⟨gb394, 1, none⟩) (by first | (rw [add_block]; exact hn395_1) | (show (Addr.add _ _).block ≠ _; rw [add_block]; exact hn395_1) | exact hn395_1) (.string t390)).trans hx395_1
          replace hx395_2 := (cell_far (p := ⟨gb394, 1, none⟩) (by first | (rw [add_block]; exact hn395_1) | (show (Addr.add _ _).block ≠ _; rw [add_block]; exact hn395_1) | exact hn395_1) (.string t390)).trans hx395_2
          replace hx395_3 := (cell_far (p := ⟨gb394, 1, none⟩) (by first | (rw [add_block]; exact hn395_1) | (show (Addr.add _ _).block ≠ _; rw [add_block]; exact hn395_1) | exact hn395_1) (.string t390)).trans hx395_3
          replace hx395_0 := (cell_far (p := ⟨gb394, 2, none⟩) (by first | (rw [add_block]; exact hn395_2) | (show (Addr.add _ _).block ≠ _; rw [add_block]; exact hn395_2) | exact hn395_2) (.bool t391)).trans hx395_0
          replace hx395_1 := (cell_far (p := ⟨gb394, 2, none⟩) (by first | (rw [add_block]; exact hn395_2) | (show (Addr.add _ _).block ≠ _; rw [add_block]; exact hn395_2) | exact hn395_2) (.bool t391)).trans hx395_1
          replace hx395_2 := (cell_far (p := ⟨gb394, 2, none⟩) (by first | (rw [add_block]; exact hn395_2) | (show (Addr.add _ _).block ≠ _; rw [add_block]; exact hn395_2) | exact hn395_2) (.bool t391)).trans hx395_2
          replace hx395_3 := (cell_far (p := ⟨gb394, 2, none⟩) (by first | (rw [add_block]; exact hn395_2) | (show (Addr.add _ _).block ≠ _; rw [add_block]; exact hn395_2) | exact hn395_2) (.bool t391)).trans hx395_3
          replace hx395_0 := (cell_far (p := ⟨gb394, 3, none⟩) (by first | (rw [add_block]; exact hn395_3) | (show (Addr.add _ _).block ≠ _; rw [add_block]; exact hn395_3) | exact hn395_3) (.int .i64 t392)).trans hx395_0
          replace hx395_1 := (cell_far (p := ⟨gb394, 3, none⟩) (by first | (rw [add_block]; exact hn395_3) | (show (Addr.add _ _).block ≠ _; rw [add_block]; exact hn395_3) | exact hn395_3) (.int .i64 t392)).trans hx395_1
          replace hx395_2 := (cell_far (p := ⟨gb394, 3, none⟩) (by first | (rw [add_block]; exact hn395_3) | (show (Addr.add _ _).block ≠ _; rw [add_block]; exact hn395_3) | exact hn395_3) (.int .i64 t392)).trans hx395_2
          replace hx395_3 := (cell_far (p := ⟨gb394, 3, none⟩) (by first | (rw [add_block]; exact hn395_3) | (show (Addr.add _ _).block ≠ _; rw [add_block]; exact hn395_3) | exact hn395_3) (.int .i64 t392)).trans hx395_3
          (try have hy395_0 := fun (n_ : Nat) => (show ((((((w30.drewN n_).setCell ⟨gb394, 0, none⟩ (.int .u64 t389)).setCell ⟨gb394, 1, none⟩ (.string t390)).setCell ⟨gb394, 2, none⟩ (.bool t391)).setCell ⟨gb394, 3, none⟩ (.int .i64 t392))).cell? _ = some _ from hx395_0))
          (try have hy395_1 := fun (n_ : Nat) => (show ((((((w30.drewN n_).setCell ⟨gb394, 0, none⟩ (.int .u64 t389)).setCell ⟨gb394, 1, none⟩ (.string t390)).setCell ⟨gb394, 2, none⟩ (.bool t391)).setCell ⟨gb394, 3, none⟩ (.int .i64 t392))).cell? _ = some _ from hx395_1))
          (try have hy395_2 := fun (n_ : Nat) => (show ((((((w30.drewN n_).setCell ⟨gb394, 0, none⟩ (.int .u64 t389)).setCell ⟨gb394, 1, none⟩ (.string t390)).setCell ⟨gb394, 2, none⟩ (.bool t391)).setCell ⟨gb394, 3, none⟩ (.int .i64 t392))).cell? _ = some _ from hx395_2))
          (try have hy395_3 := fun (n_ : Nat) => (show ((((((w30.drewN n_).setCell ⟨gb394, 0, none⟩ (.int .u64 t389)).setCell ⟨gb394, 1, none⟩ (.string t390)).setCell ⟨gb394, 2, none⟩ (.bool t391)).setCell ⟨gb394, 3, none⟩ (.int .i64 t392))).cell? _ = some _ from hx395_3))
          clear hn395_0
          clear hn395_1
          clear hn395_2
          clear hn395_3
          replace p395 := eq_true p395
          replace q395 := eq_true q395
          go_wp2
          repeat (go_quiet (fail); try go_wp2)
          go_meet
          case rel => exact ⟨_, ((!(t389 == ((rd_T25 t374 0).f0)) || (!(t390.toList == (((rd_T25 t374 0).f1).toList)) || (!(t391 == ((rd_T25 t374 0).f2)) || (!(t392 == ((rd_T25 t374 0).f3))))))), (by first | rfl | (simp; done) | (simp [*]; done)), H', ⟨by have := HK1.out; first | omega | exact Nat.le_refl _⟩, ⟨by (with_reducible repeat (first | apply Kd.R_alloc | apply Kd.R_drewN | apply Kd.R_drew)); exact Kd.R_mono (Kd.R_far (p := ⟨gb394, 3, none⟩) (Kd.R_far (p := ⟨gb394, 2, none⟩) (Kd.R_far (p := ⟨gb394, 1, none⟩) (Kd.R_far (p := ⟨gb394, 0, none⟩) (Kd.R_mono HO_0.out (fun k_ hk => (⟨hk, hk.2⟩ : _ ∧ k_ ≠ gb394))) (fun _ hk => hk.2) (.int .u64 t389)) (fun _ hk => hk.2) (.string t390)) (fun _ hk => hk.2) (.bool t391)) (fun _ hk => hk.2) (.int .i64 t392)) (fun _ hk => hk.1.2)⟩, ⟨by (with_reducible repeat (first | refine blk_drewN ?_ _ | refine blk_drew ?_ | refine blk_alloc ?_ _)); refine blk_put (cs := #[.int .u64 t389, .string t390, .bool t391, .int .i64 0]) ?_ 3 _ rfl; (with_reducible repeat (first | refine blk_drewN ?_ _ | refine blk_drew ?_ | refine blk_alloc ?_ _)); refine blk_put (cs := #[.int .u64 t389, .string t390, .bool false, .int .i64 0]) ?_ 2 _ rfl; (with_reducible repeat (first | refine blk_drewN ?_ _ | refine blk_drew ?_ | refine blk_alloc ?_ _)); refine blk_put (cs := #[.int .u64 t389, .string (⟨#[]⟩ : ByteArray), .bool false, .int .i64 0]) ?_ 1 _ rfl; (with_reducible repeat (first | refine blk_drewN ?_ _ | refine blk_drew ?_ | refine blk_alloc ?_ _)); refine blk_put (cs := #[.int .u64 0, .string (⟨#[]⟩ : ByteArray), .bool false, .int .i64 0]) ?_ 0 _ rfl; (with_reducible repeat (first | refine blk_drewN ?_ _ | refine blk_drew ?_ | refine blk_alloc ?_ _)); exact BK394.out⟩, ⟨by repeat (first | (with_reducible first | exact HB.out | apply below_alloc | apply pw_below_drewN | apply below_drew1 | refine below_set ?_ GE394.out) | exact HB.out)⟩⟩
         ·rw [if_neg c35] at H
          exact absurd H (by simp)
        ·rw [if_neg c34] at H
         have c34b0 : decide (0 < (t374.length : Int)) = false := decide_eq_false c34
         have c34b1 : decide (0 < t374.length) = false := decide_eq_false (by omega)
         clear c34
         have H' := Aside0.mk H
         clear H
         go_wp2
         repeat (go_quiet (fail); try go_wp2)
         go_meet
         case rel => exact ⟨_, (false), (by first | rfl | (simp; done) | (simp [*]; done)), H', ⟨by have := HK1.out; first | omega | exact Nat.le_refl _⟩, ⟨by (with_reducible repeat (first | apply Kd.R_alloc | apply Kd.R_drewN | apply Kd.R_drew)); exact Kd.R_mono (Kd.R_far (p := ⟨gb394, 3, none⟩) (Kd.R_far (p := ⟨gb394, 2, none⟩) (Kd.R_far (p := ⟨gb394, 1, none⟩) (Kd.R_far (p := ⟨gb394, 0, none⟩) (Kd.R_mono HO_0.out (fun k_ hk => (⟨hk, hk.2⟩ : _ ∧ k_ ≠ gb394))) (fun _ hk => hk.2) (.int .u64 t389)) (fun _ hk => hk.2) (.string t390)) (fun _ hk => hk.2) (.bool t391)) (fun _ hk => hk.2) (.int .i64 t392)) (fun _ hk => hk.1.2)⟩, ⟨by (with_reducible repeat (first | refine blk_drewN ?_ _ | refine blk_drew ?_ | refine blk_alloc ?_ _)); refine blk_put (cs := #[.int .u64 t389, .string t390, .bool t391, .int .i64 0]) ?_ 3 _ rfl; (with_reducible repeat (first | refine blk_drewN ?_ _ | refine blk_drew ?_ | refine blk_alloc ?_ _)); refine blk_put (cs := #[.int .u64 t389, .string t390, .bool false, .int .i64 0]) ?_ 2 _ rfl; (with_reducible repeat (first | refine blk_drewN ?_ _ | refine blk_drew ?_ | refine blk_alloc ?_ _)); refine blk_put (cs := #[.int .u64 t389, .string (⟨#[]⟩ : ByteArray), .bool false, .int .i64 0]) ?_ 1 _ rfl; (with_reducible repeat (first | refine blk_drewN ?_ _ | refine blk_drew ?_ | refine blk_alloc ?_ _)); refine blk_put (cs := #[.int .u64 0, .string (⟨#[]⟩ : ByteArray), .bool false, .int .i64 0]) ?_ 0 _ rfl; (with_reducible repeat (first | refine blk_drewN ?_ _ | refine blk_drew ?_ | refine blk_alloc ?_ _)); exact BK394.out⟩, ⟨by repeat (first | (with_reducible first | exact HB.out | apply below_alloc | apply pw_below_drewN | apply below_drew1 | refine below_set ?_ GE394.out) | exact HB.out)⟩⟩
       ·rw [if_neg c33] at H
        have c33b0 : (t393 == 4) = false := beq_eq_false_iff_ne.mpr c33
        have c33b1 : (t393 != 4) = true := bne_iff_ne.mpr c33
        have H' := Aside0.mk H
        clear H
        go_wp2
        repeat (go_quiet (fail); try go_wp2)
        go_meet
        case rel => exact ⟨_, (true), (by first | rfl | (simp; done) | (simp [*]; done)), H', ⟨by have := HK1.out; first | omega | exact Nat.le_refl _⟩, ⟨by (with_reducible repeat (first | apply Kd.R_alloc | apply Kd.R_drewN | apply Kd.R_drew)); exact Kd.R_mono (Kd.R_far (p := ⟨gb394, 3, none⟩) (Kd.R_far (p := ⟨gb394, 2, none⟩) (Kd.R_far (p := ⟨gb394, 1, none⟩) (Kd.R_far (p := ⟨gb394, 0, none⟩) (Kd.R_mono HO_0.out (fun k_ hk => (⟨hk, hk.2⟩ : _ ∧ k_ ≠ gb394))) (fun _ hk => hk.2) (.int .u64 t389)) (fun _ hk => hk.2) (.string t390)) (fun _ hk => hk.2) (.bool t391)) (fun _ hk => hk.2) (.int .i64 t392)) (fun _ hk => hk.1.2)⟩, ⟨by (with_reducible repeat (first | refine blk_drewN ?_ _ | refine blk_drew ?_ | refine blk_alloc ?_ _)); refine blk_put (cs := #[.int .u64 t389, .string t390, .bool t391, .int .i64 0]) ?_ 3 _ rfl; (with_reducible repeat (first | refine blk_drewN ?_ _ | refine blk_drew ?_ | refine blk_alloc ?_ _)); refine blk_put (cs := #[.int .u64 t389, .string t390, .bool false, .int .i64 0]) ?_ 2 _ rfl; (with_reducible repeat (first | refine blk_drewN ?_ _ | refine blk_drew ?_ | refine blk_alloc ?_ _)); refine blk_put (cs := #[.int .u64 t389, .string (⟨#[]⟩ : ByteArray), .bool false, .int .i64 0]) ?_ 1 _ rfl; (with_reducible repeat (first | refine blk_drewN ?_ _ | refine blk_drew ?_ | refine blk_alloc ?_ _)); refine blk_put (cs := #[.int .u64 0, .string (⟨#[]⟩ : ByteArray), .bool false, .int .i64 0]) ?_ 0 _ rfl; (with_reducible repeat (first | refine blk_drewN ?_ _ | refine blk_drew ?_ | refine blk_alloc ?_ _)); exact BK394.out⟩, ⟨by repeat (first | (with_reducible first | exact HB.out | apply below_alloc | apply pw_below_drewN | apply below_drew1 | refine below_set ?_ GE394.out) | exact HB.out)⟩⟩
      ·rw [if_neg c32] at H
       have c32b0 : ((t374.length : Int) == 0) = false := beq_eq_false_iff_ne.mpr c32
       have c32b1 : ((t374.length : Int) != 0) = true := bne_iff_ne.mpr c32
       have c32b2 : ¬ (t374 = []) := fun h_ => c32 (by rw [h_]; rfl)
       (first | rw [c32b0] | rw [c32b1] | (simp only [i64_w, i32_w]; rw [c32b0]) | skip)
       by_cases c37 : (t374.length : Int) > 0
       ·rw [if_pos c37] at H
        have c37b0 : decide (0 < (t374.length : Int)) = true := decide_eq_true c37
        have c37b1 : decide (0 < t374.length) = true := decide_eq_true (by omega)
        clear c37
        by_cases c38 : 0 < (t374.length : Int)
        ·rw [if_pos c38] at H
         have c38b0 : decide (0 < (t374.length : Int)) = true := decide_eq_true c38
         have c38b1 : decide (0 < t374.length) = true := decide_eq_true (by omega)
         clear c38
         have H' := Aside0.mk H
         clear H
         have hcz39_0 : w30.cell? ⟨gb394, 0, none⟩ = some (.int .u64 0) := (blk_cell BK394.out 0).trans rfl
         have hcz39_1 : w30.cell? ⟨gb394, 1, none⟩ = some (.string (⟨#[]⟩ : ByteArray)) := (blk_cell BK394.out 1).trans rfl
         have hcz39_2 : w30.cell? ⟨gb394, 2, none⟩ = some (.bool false) := (blk_cell BK394.out 2).trans rfl
         have hcz39_3 : w30.cell? ⟨gb394, 3, none⟩ = some (.int .i64 0) := (blk_cell BK394.out 3).trans rfl
         have hfz39_0 := blk_frozen BK394.out 0
         have hfz39_1 := blk_frozen BK394.out 1
         have hfz39_2 := blk_frozen BK394.out 2
         have hfz39_3 := blk_frozen BK394.out 3
         have p396 : 0 ≤ (0 : Int) := (by omega)
         have q396 : 0 < (t374.length : Int) := of_decide_eq_true (by first | (with_reducible assumption) | assumption)
         obtain ⟨ad396, e396, hx396_0, hx396_1, hx396_2, hx396_3⟩ := at_T25 (Kd.R_reads' HO_0.out).2.2 0 p396 q396
         cases e396
         have qi396 : (0 < t374.length) = True := eq_true (by omega)
         (try rw [show ((0 : Int)).toNat = 0 from rfl] at hx396_0)
         (try rw [show 0 * 4 = 0 from rfl] at hx396_0)
         (try rw [Addr.add_zero'] at hx396_0)
         (try rw [show ((0 : Int)).toNat = 0 from rfl] at hx396_1)
         (try rw [show 0 * 4 = 0 from rfl] at hx396_1)
         (try rw [Addr.add_zero'] at hx396_1)
         (try rw [show ((0 : Int)).toNat = 0 from rfl] at hx396_2)
         (try rw [show 0 * 4 = 0 from rfl] at hx396_2)
         (try rw [Addr.add_zero'] at hx396_2)
         (try rw [show ((0 : Int)).toNat = 0 from rfl] at hx396_3)
         (try rw [show 0 * 4 = 0 from rfl] at hx396_3)
         (try rw [Addr.add_zero'] at hx396_3)
         have hn396_0 : ad396.block ≠ gb394 := Kd.own_blk (by first | exact Kd.R_ne HO_0.out BK394.out (by decide) | exact Kd.R_away HO_0.out (fun _ h => h) | exact Kd.R_away HO_0.out (fun _ h => h.2) | exact Kd.R_away HO_0.out (fun _ h => h.1))
         have hn396_1 : ad396.block ≠ gb394 := Kd.own_blk (by first | exact Kd.R_ne HO_0.out BK394.out (by decide) | exact Kd.R_away HO_0.out (fun _ h => h) | exact Kd.R_away HO_0.out (fun _ h => h.2) | exact Kd.R_away HO_0.out (fun _ h => h.1))
         have hn396_2 : ad396.block ≠ gb394 := Kd.own_blk (by first | exact Kd.R_ne HO_0.out BK394.out (by decide) | exact Kd.R_away HO_0.out (fun _ h => h) | exact Kd.R_away HO_0.out (fun _ h => h.2) | exact Kd.R_away HO_0.out (fun _ h => h.1))
         have hn396_3 : ad396.block ≠ gb394 := Kd.own_blk (by first | exact Kd.R_ne HO_0.out BK394.out (by decide) | exact Kd.R_away HO_0.out (fun _ h => h) | exact Kd.R_away HO_0.out (fun _ h => h.2) | exact Kd.R_away HO_0.out (fun _ h => h.1))
         replace hx396_0 := (cell_far (p := ⟨gb394, 0, none⟩) (by first | (rw [add_block]; exact hn396_0) | (show (Addr.add _ _).block ≠ _; rw [add_block]; exact hn396_0) | exact hn396_0) (.int .u64 t389)).trans hx396_0
         replace hx396_1 := (cell_far (p := ⟨gb394, 0, none⟩) (by first | (rw [add_block]; exact hn396_0) | (show (Addr.add _ _).block ≠ _; rw [add_block]; exact hn396_0) | exact hn396_0) (.int .u64 t389)).trans hx396_1
         replace hx396_2 := (cell_far (p := ⟨gb394, 0, none⟩) (by first | (rw [add_block]; exact hn396_0) | (show (Addr.add _ _).block ≠ _; rw [add_block]; exact hn396_0) | exact hn396_0) (.int .u64 t389)).trans hx396_2
         replace hx396_3 := (cell_far (p := ⟨gb394, 0, none⟩) (by first | (rw [add_block]; exact hn396_0) | (show (Addr.add _ _).block ≠ _; rw [add_block]; exact hn396_0) | exact hn396_0) (.int .u64 t389)).trans hx396_3
         replace hx396_0 := (cell_far (p := ⟨gb394, 1, none⟩) (by first | (rw [add_block]; exact hn396_1) | (show (Addr.add _ _).block ≠ _; rw [add_block]; exact hn396_1) | exact hn396_1) (.string t390)).trans hx396_0
         replace hx396_1 := (cell_far (p := ⟨gb394, 1, none⟩) (by first | (rw [add_block]; exact hn396_1) | (show (Addr.add _ _).block ≠ _; rw [add_block]; exact hn396_1) | exact hn396_1) (.string t390)).trans hx396_1
         replace hx396_2 := (cell_far (p := ⟨gb394, 1, none⟩) (by first | (rw [add_block]; exact hn396_1) | (show (Addr.add _ _).block ≠ _; rw [add_block]; exact hn396_1) | exact hn396_1) (.string t390)).trans hx396_2
         replace hx396_3 := (cell_far (p := ⟨gb394, 1, none⟩) (by first | (rw [add_block]; exact hn396_1) | (show (Addr.add _ _).block ≠ _; rw [add_block]; exact hn396_1) | exact hn396_1) (.string t390)).trans hx396_3
         replace hx396_0 := (cell_far (p := ⟨gb394, 2, none⟩) (by first | (rw [add_block]; exact hn396_2) | (show (Addr.add _ _).block ≠ _; rw [add_block]; exact hn396_2) | exact hn396_2) (.bool t391)).trans hx396_0
         replace hx396_1 := (cell_far (p := ⟨gb394, 2, none⟩) (by first | (rw [add_block]; exact hn396_2) | (show (Addr.add _ _).block ≠ _; rw [add_block]; exact hn396_2) | exact hn396_2) (.bool t391)).trans hx396_1
         replace hx396_2 := (cell_far (p := ⟨gb394, 2, none⟩) (by first | (rw [add_block]; exact hn396_2) | (show (Addr.add _ _).block ≠ _; rw [add_block]; exact hn396_2) | exact hn396_2) (.bool t391)).trans hx396_2
         replace hx396_3 := (cell_far (p := ⟨gb394, 2, none⟩) (by first | (rw [add_block]; exact hn396_2) | (show (Addr.add _ _).block ≠ _; rw [add_block]; exact hn396_2) | exact hn396_2) (.bool t391)).trans hx396_3
         replace hx396_0 := (cell_far (p := ⟨gb394, 3, none⟩) (by first | (rw [add_block]; exact hn396_3) | (show (Addr.add _ _).block ≠ _; rw [add_block]; exact hn396_3) | exact hn396_3) (.int .i64 t392)).trans hx396_0
         replace hx396_1 := (cell_far (p := ⟨gb394, 3, none⟩) (by first | (rw [add_block]; exact hn396_3) | (show (Addr.add _ _).block ≠ _; rw [add_block]; exact hn396_3) | exact hn396_3) (.int .i64 t392)).trans hx396_1
         replace hx396_2 := (cell_far (p := ⟨gb394, 3, none⟩) (by first | (rw [add_block]; exact hn396_3) | (show (Addr.add _ _).block ≠ _; rw [add_block]; exact hn396_3) | exact hn396_3) (.int .i64 t392)).trans hx396_2
         replace hx396_3 := (cell_far (p := ⟨gb394, 3, none⟩) (by first | (rw [add_block]; exact hn396_3) | (show (Addr.add _ _).block ≠ _; rw [add_block]; exact hn396_3) | exact hn396_3) (.int .i64 t392)).trans hx396_3
         (try have hy396_0 := fun (n_ : Nat) => (show ((((((w30.drewN n_).setCell ⟨gb394, 0, none⟩ (.int .u64 t389)).setCell ⟨gb394, 1, none⟩ (.string t390)).setCell ⟨gb394, 2, none⟩ (.bool t391)).setCell ⟨gb394, 3, none⟩ (.int .i64 t392))).cell? _ = some _ from hx396_0))
         (try have hy396_1 := fun (n_ : Nat) => (show ((((((w30.drewN n_).setCell ⟨gb394, 0, none⟩ (.int .u64 t389)).setCell ⟨gb394, 1, none⟩ (.string t390)).setCell ⟨gb394, 2, none⟩ (.bool t391)).setCell ⟨gb394, 3, none⟩ (.int .i64 t392))).cell? _ = some _ from hx396_1))
         (try have hy396_2 := fun (n_ : Nat) => (show ((((((w30.drewN n_).setCell ⟨gb394, 0, none⟩ (.int .u64 t389)).setCell ⟨gb394, 1, none⟩ (.string t390)).setCell ⟨gb394, 2, none⟩ (.bool t391)).setCell ⟨gb394, 3, none⟩ (.int .i64 t392))).cell? _ = some _ from hx396_2))
         (try have hy396_3 := fun (n_ : Nat) => (show ((((((w30.drewN n_).setCell ⟨gb394, 0, none⟩ (.int .u64 t389)).setCell ⟨gb394, 1, none⟩ (.string t390)).setCell ⟨gb394, 2, none⟩ (.bool t391)).setCell ⟨gb394, 3, none⟩ (.int .i64 t392))).cell? _ = some _ from hx396_3))
         clear hn396_0
         clear hn396_1
         clear hn396_2
         clear hn396_3
         replace p396 := eq_true p396
         replace q396 := eq_true q396
         go_wp2
         repeat (go_quiet (fail); try go_wp2)
         go_meet
         case rel => exact ⟨_, ((!(t389 == ((rd_T25 t374 0).f0)) || (!(t390.toList == (((rd_T25 t374 0).f1).toList)) || (!(t391 == ((rd_T25 t374 0).f2)) || (!(t392 == ((rd_T25 t374 0).f3))))))), (by first | rfl | (simp; done) | (simp [*]; done)), H', ⟨by have := HK1.out; first | omega | exact Nat.le_refl _⟩, ⟨by (with_reducible repeat (first | apply Kd.R_alloc | apply Kd.R_drewN | apply Kd.R_drew)); exact Kd.R_mono (Kd.R_far (p := ⟨gb394, 3, none⟩) (Kd.R_far (p := ⟨gb394, 2, none⟩) (Kd.R_far (p := ⟨gb394, 1, none⟩) (Kd.R_far (p := ⟨gb394, 0, none⟩) (Kd.R_mono HO_0.out (fun k_ hk => (⟨hk, hk.2⟩ : _ ∧ k_ ≠ gb394))) (fun _ hk => hk.2) (.int .u64 t389)) (fun _ hk => hk.2) (.string t390)) (fun _ hk => hk.2) (.bool t391)) (fun _ hk => hk.2) (.int .i64 t392)) (fun _ hk => hk.1.2)⟩, ⟨by (with_reducible repeat (first | refine blk_drewN ?_ _ | refine blk_drew ?_ | refine blk_alloc ?_ _)); refine blk_put (cs := #[.int .u64 t389, .string t390, .bool t391, .int .i64 0]) ?_ 3 _ rfl; (with_reducible repeat (first | refine blk_drewN ?_ _ | refine blk_drew ?_ | refine blk_alloc ?_ _)); refine blk_put (cs := #[.int .u64 t389, .string t390, .bool false, .int .i64 0]) ?_ 2 _ rfl; (with_reducible repeat (first | refine blk_drewN ?_ _ | refine blk_drew ?_ | refine blk_alloc ?_ _)); refine blk_put (cs := #[.int .u64 t389, .string (⟨#[]⟩ : ByteArray), .bool false, .int .i64 0]) ?_ 1 _ rfl; (with_reducible repeat (first | refine blk_drewN ?_ _ | refine blk_drew ?_ | refine blk_alloc ?_ _)); refine blk_put (cs := #[.int .u64 0, .string (⟨#[]⟩ : ByteArray), .bool false, .int .i64 0]) ?_ 0 _ rfl; (with_reducible repeat (first | refine blk_drewN ?_ _ | refine blk_drew ?_ | refine blk_alloc ?_ _)); exact BK394.out⟩, ⟨by repeat (first | (with_reducible first | exact HB.out | apply below_alloc | apply pw_below_drewN | apply below_drew1 | refine below_set ?_ GE394.out) | exact HB.out)⟩⟩
        ·rw [if_neg c38] at H
         exact absurd H (by simp)
       ·rw [if_neg c37] at H
        have c37b0 : decide (0 < (t374.length : Int)) = false := decide_eq_false c37
        have c37b1 : decide (0 < t374.length) = false := decide_eq_false (by omega)
        clear c37
        have H' := Aside0.mk H
        clear H
        go_wp2
        repeat (go_quiet (fail); try go_wp2)
        go_meet
        case rel => exact ⟨_, (false), (by first | rfl | (simp; done) | (simp [*]; done)), H', ⟨by have := HK1.out; first | omega | exact Nat.le_refl _⟩, ⟨by (with_reducible repeat (first | apply Kd.R_alloc | apply Kd.R_drewN | apply Kd.R_drew)); exact Kd.R_mono (Kd.R_far (p := ⟨gb394, 3, none⟩) (Kd.R_far (p := ⟨gb394, 2, none⟩) (Kd.R_far (p := ⟨gb394, 1, none⟩) (Kd.R_far (p := ⟨gb394, 0, none⟩) (Kd.R_mono HO_0.out (fun k_ hk => (⟨hk, hk.2⟩ : _ ∧ k_ ≠ gb394))) (fun _ hk => hk.2) (.int .u64 t389)) (fun _ hk => hk.2) (.string t390)) (fun _ hk => hk.2) (.bool t391)) (fun _ hk => hk.2) (.int .i64 t392)) (fun _ hk => hk.1.2)⟩, ⟨by (with_reducible repeat (first | refine blk_drewN ?_ _ | refine blk_drew ?_ | refine blk_alloc ?_ _)); refine blk_put (cs := #[.int .u64 t389, .string t390, .bool t391, .int .i64 0]) ?_ 3 _ rfl; (with_reducible repeat (first | refine blk_drewN ?_ _ | refine blk_drew ?_ | refine blk_alloc ?_ _)); refine blk_put (cs := #[.int .u64 t389, .string t390, .bool false, .int .i64 0]) ?_ 2 _ rfl; (with_reducible repeat (first | refine blk_drewN ?_ _ | refine blk_drew ?_ | refine blk_alloc ?_ _)); refine blk_put (cs := #[.int .u64 t389, .string (⟨#[]⟩ : ByteArray), .bool false, .int .i64 0]) ?_ 1 _ rfl; (with_reducible repeat (first | refine blk_drewN ?_ _ | refine blk_drew ?_ | refine blk_alloc ?_ _)); refine blk_put (cs := #[.int .u64 0, .string (⟨#[]⟩ : ByteArray), .bool false, .int .i64 0]) ?_ 0 _ rfl; (with_reducible repeat (first | refine blk_drewN ?_ _ | refine blk_drew ?_ | refine blk_alloc ?_ _)); exact BK394.out⟩, ⟨by repeat (first | (with_reducible first | exact HB.out | apply below_alloc | apply pw_below_drewN | apply below_drew1 | refine below_set ?_ GE394.out) | exact HB.out)⟩⟩
     case rest =>
      clear HC28
      try clear c1
      try clear c2
      try clear p2
      try clear c3
      try clear p3
      try clear q3
      try clear hx3
      try clear qi3
      try clear c5
      try clear c5b0
      try clear c5b1
      try clear p6
      try clear c9
      try clear c9b0
      try clear c10
      try clear c10b0
      try clear c16
      try clear c16b0
      try clear c18
      try clear c18b0
      try clear c18b1
      try clear c18b2
      try clear c20
      try clear c20b0
      try clear c20b1
      try clear c23
      try clear c24
      try clear c25
      try clear c25b0
      try clear c26
      try clear c26b0
      try clear c32
      try clear c32b0
      try clear c32b1
      try clear c32b2
      try clear c33
      try clear c33b0
      try clear c33b1
      try clear c34
      try clear c34b0
      try clear c34b1
      try clear c35
      try clear c35b0
      try clear c35b1
      try clear c37
      try clear c37b0
      try clear c37b1
      try clear p37
      try clear q37
      try clear hx37
      try clear c38
      try clear c38b0
      try clear c38b1
      try clear p38
      try clear q38
      try clear hx38
      try clear p39
      try clear q39
      try clear hx39
      try clear qi39
      try clear hcz15_0
      try clear hcz15_1
      try clear hcz15_2
      try clear hcz15_3
      try clear hcz17_0
      try clear hcz17_1
      try clear hcz17_2
      try clear hcz17_3
      try clear hcz19_0
      try clear hcz19_1
      try clear hcz19_2
      try clear hcz19_3
      try clear hcz21_0
      try clear hcz21_1
      try clear hcz21_2
      try clear hcz21_3
      try clear hcz22_0
      try clear hcz22_1
      try clear hcz22_2
      try clear hcz22_3
      try clear hcz31_0
      try clear hcz31_1
      try clear hcz31_2
      try clear hcz31_3
      try clear hcz36_0
      try clear hcz36_1
      try clear hcz36_2
      try clear hcz36_3
      try clear hcz39_0
      try clear hcz39_1
      try clear hcz39_2
      try clear hcz39_3
      try clear hfz15_0
      try clear hfz15_1
      try clear hfz15_2
      try clear hfz15_3
      try clear hfz17_0
      try clear hfz17_1
      try clear hfz17_2
      try clear hfz17_3
      try clear hfz19_0
      try clear hfz19_1
      try clear hfz19_2
      try clear hfz19_3
      try clear hfz21_0
      try clear hfz21_1
      try clear hfz21_2
      try clear hfz21_3
      try clear hfz22_0
      try clear hfz22_1
      try clear hfz22_2
      try clear hfz22_3
      try clear hfz31_0
      try clear hfz31_1
      try clear hfz31_2
      try clear hfz31_3
      try clear hfz36_0
      try clear hfz36_1
      try clear hfz36_2
      try clear hfz36_3
      try clear hfz39_0
      try clear hfz39_1
      try clear hfz39_2
      try clear hfz39_3
      try clear hx379_0
      try clear hx379_1
      try clear hx379_2
      try clear hx379_3
      try clear hx386_0
      try clear hx386_1
      try clear hx386_2
      try clear hx386_3
      try clear hx387_0
      try clear hx387_1
      try clear hx387_2
      try clear hx387_3
      try clear hx388_0
      try clear hx388_1
      try clear hx388_2
      try clear hx388_3
      try clear hx395_0
      try clear hx395_1
      try clear hx395_2
      try clear hx395_3
      try clear hx396_0
      try clear hx396_1
      try clear hx396_2
      try clear hx396_3
      try clear p2
      try clear p3
      try clear p379
      try clear p386
      try clear p387
      try clear p388
      try clear p395
      try clear p396
      try clear q3
      try clear q379
      try clear q386
      try clear q387
      try clear q388
      try clear q395
      try clear q396
      obtain ⟨kq, x92_27, rfl, HA, HJ27, HO_0, BK394, HB⟩ := hcut
      cases kq with
      | zero => exact absurd HA.out (by simp [cellarerlaw05_ChainFirst.j2])
      | succ kj27 =>
       have H := HA.out
       clear HA
       simp only [cellarerlaw05_ChainFirst.j2] at H
       by_cases c40 : x92_27 = true
       ·subst c40
        have H1 : (some false) = some r := by rw [if_pos rfl] at H; exact H
        clear H
        have H := H1
        clear H1
        obtain rfl := Option.some.inj H
        go_wp2
        repeat (go_quiet (fail); try go_wp2)
        go_ret
        exact ⟨by first | rfl | (simp [errW_none, errW_some] <;> rfl) | (simp [*, errW_none, errW_some] <;> rfl), by repeat (first | (with_reducible first | exact HB.out | apply below_alloc | apply pw_below_drewN | apply below_drew1 | refine below_set ?_ GE394.out) | exact HB.out)⟩
       ·replace c40 := Bool.eq_false_iff.mpr c40
        subst c40
        have H1 : ((chain_Find.f kj27 t374 a1).bind fun bt397 => (if ((bt397.2.2.2.2 == 4) != x5_1) = true then ((cellarerlaw05_awake.f).bind fun t403 => (some t403)) else (some false))) = some r := by rw [if_neg (show ¬ (false = true) by decide)] at H; exact H
        clear H
        have H := H1
        clear H1
        replace H := Option.bind_eq_some_iff.mp H
        obtain ⟨⟨t397, t398, t399, t400, t401⟩, A410, H⟩ := H
        replace H : (if ((t401 == 4) != x5_1) = true then ((cellarerlaw05_awake.f).bind fun t403 => (some t403)) else (some false)) = some r := H
        have A41 := Aside0.mk A410
        clear A410
        by_cases c42 : ((t401 == 4) != x5_1) = true
        ·rw [if_pos c42] at H
         have c42b0 : ((t401 == 4) != x5_1) = true := c42
         (try (have c42b1 : decide ((t401 == 4) = x5_1) = false := by simpa using c42))
         (try (have c42b2 : ((t401 == 4) == x5_1) = false := by simpa using c42))
         (try (have c42b3 : ¬ ((t401 == 4) = x5_1) := by simpa using c42))
         clear c42
         replace H := Option.bind_eq_some_iff.mp H
         obtain ⟨t403, A430, H⟩ := H
         replace H : (some t403) = some r := H
         have A43 := Aside0.mk A430
         clear A430
         obtain rfl := Option.some.inj H
         go_wp2_with (first | (go_at_call 24; (with_reducible refine (chain_Find.calls kj27 _ _ t374 a1 t397 t398 t399 t400 t401 _ ?side1 ?side2 A41.out).mono ?_); (case side1 => repeat (first | exact (Kd.R_reads' HO_0.out).2.2 | (with_reducible refine Kd.C_alloc ?_ _) | (with_reducible refine Kd.C_drewN ?_ _) | (with_reducible refine Kd.C_drew ?_))); (case side2 => exact (Kd.R_reads' HO_0.out).2.1); rintro e w44 ⟨rfl, hb⟩; have n0_ := Aside0.mk (Kd.R_below (by (with_reducible repeat (first | apply Kd.R_alloc | apply Kd.R_drewN | apply Kd.R_drew)); exact HO_0.out) hb); have n1_ := Aside0.mk (blk_below (g := gb394) (o := .cells #[.int .u64 t389, .string t390, .bool t391, .int .i64 t392] 25 (0, 0)) (by (with_reducible repeat (first | refine blk_drewN ?_ _ | refine blk_drew ?_ | refine blk_alloc ?_ _)); exact BK394.out) hb); have n2_ := Aside0.mk (below_step (by repeat (first | (with_reducible first | exact HB.out | apply below_alloc | apply pw_below_drewN | apply below_drew1 | refine below_set ?_ GE394.out) | exact HB.out)) hb); clear HO_0; clear BK394; clear HB; have HO_0 := n0_; have BK394 := n1_; have HB := n2_; clear n0_ n1_ n2_; (try clear hb); (try clear hb2); (try clear hk); (try clear hi)) | ((with_reducible refine gate_dst (N := 11) rfl ?_); (try (refine gate_guard (by rfl) ?_; dsimp only)); refine box_event ?hg (N := 11) ?hd (cs := #[.int .u64 0, .string (⟨#[]⟩ : ByteArray), .bool false, .int .i64 0]) (t := 25) ?hr ?_; (case hd => rfl); (case hg => rfl); (case hr => first | (go_simp; done) | (go_simp; rfl)); intro gb402 hg w45 hbox hb; have n0_ := Aside0.mk (Kd.R_below (Kd.R_elderB (by (with_reducible repeat (first | apply Kd.R_alloc | apply Kd.R_drewN | apply Kd.R_drew)); exact HO_0.out) gb402 (Nat.le_of_eq hg.symm)) hb); have n1_ := Aside0.mk (blk_below (g := gb394) (o := .cells #[.int .u64 t389, .string t390, .bool t391, .int .i64 t392] 25 (0, 0)) (by (with_reducible repeat (first | refine blk_drewN ?_ _ | refine blk_drew ?_ | refine blk_alloc ?_ _)); exact BK394.out) hb); have n2_ := Aside0.mk (below_step (by repeat (first | (with_reducible first | exact HB.out | apply below_alloc | apply pw_below_drewN | apply below_drew1 | refine below_set ?_ GE394.out) | exact HB.out)) hb); have n3_ := Aside0.mk (hbox); have n4_ := Aside0.mk ((by rw [hg]; exact (below_size (by repeat (first | (with_reducible first | exact HB.out | apply below_alloc | apply pw_below_drewN | apply below_drew1 | refine below_set ?_ GE394.out) | exact HB.out))) : w.heap.size ≤ gb402)); have n5_ := Aside0.mk ((by rw [hg]; exact (below_size (by repeat (first | (with_reducible first | exact HB.out | apply below_alloc | apply pw_below_drewN | apply below_drew1 | refine below_set ?_ GE394.out) | exact HB.out))) : w.heap.size ≤ gb402)); have n6_ := Aside0.mk ((by rw [hg]; exact Nat.ne_of_lt (blk_lt (g := gb394) (o := .cells #[.int .u64 t389, .string t390, .bool t391, .int .i64 t392] 25 (0, 0)) (by (with_reducible repeat (first | refine blk_drewN ?_ _ | refine blk_drew ?_ | refine blk_alloc ?_ _)); exact BK394.out)) : gb394 ≠ gb402)); have n7_ := Aside0.mk ((by rw [hg]; exact Nat.ne_of_gt (blk_lt (g := gb394) (o := .cells #[.int .u64 t389, .string t390, .bool t391, .int .i64 t392] 25 (0, 0)) (by (with_reducible repeat (first | refine blk_drewN ?_ _ | refine blk_drew ?_ | refine blk_alloc ?_ _)); exact BK394.out)) : gb402 ≠ gb394)); clear HO_0; clear BK394; clear HB; have HO_0 := n0_; have BK394 := n1_; have HB := n2_; have BK402 := n3_; have GW402 := n4_; have GE402 := n5_; have NB394_402 := n6_; have NB402_394 := n7_; clear n0_ n1_ n2_ n3_ n4_ n5_ n6_ n7_; clear hb hbox hg; have hnb46 := NB402_394.out; have hnc46 := NB394_402.out; have hcz47_0 : w45.cell? ⟨gb402, 0, none⟩ = some (.int .u64 0) := (blk_cell BK402.out 0).trans rfl; have hcz47_1 : w45.cell? ⟨gb402, 1, none⟩ = some (.string (⟨#[]⟩ : ByteArray)) := (blk_cell BK402.out 1).trans rfl; have hcz47_2 : w45.cell? ⟨gb402, 2, none⟩ = some (.bool false) := (blk_cell BK402.out 2).trans rfl; have hcz47_3 : w45.cell? ⟨gb402, 3, none⟩ = some (.int .i64 0) := (blk_cell BK402.out 3).trans rfl; have hfz47_0 := blk_frozen BK402.out 0; have hfz47_1 := blk_frozen BK402.out 1; have hfz47_2 := blk_frozen BK402.out 2; have hfz47_3 := blk_frozen BK402.out 3) | (go_at_call 19; (with_reducible refine (cellarerlaw05_awake.calls  t403 _ A43.out).mono ?_); rintro e w48 ⟨rfl, hb⟩; have n0_ := Aside0.mk (Kd.R_below (by (with_reducible repeat (first | apply Kd.R_alloc | apply Kd.R_drewN | apply Kd.R_drew)); exact (Kd.R_mono (Kd.R_far (p := ⟨gb402, 3, none⟩) (Kd.R_far (p := ⟨gb402, 2, none⟩) (Kd.R_far (p := ⟨gb402, 1, none⟩) (Kd.R_far (p := ⟨gb402, 0, none⟩) (Kd.R_mono HO_0.out (fun k_ hk => (⟨hk, hk.2⟩ : _ ∧ k_ ≠ gb402))) (fun _ hk => hk.2) (.int .u64 t397)) (fun _ hk => hk.2) (.string t398)) (fun _ hk => hk.2) (.bool t399)) (fun _ hk => hk.2) (.int .i64 t400)) (fun _ h_ => h_.1))) hb); have n1_ := Aside0.mk (blk_below (g := gb394) (o := .cells #[.int .u64 t389, .string t390, .bool t391, .int .i64 t392] 25 (0, 0)) (by (with_reducible repeat (first | refine blk_drewN ?_ _ | refine blk_drew ?_ | refine blk_alloc ?_ _)); refine blk_far ?_ NB394_402.out _; (with_reducible repeat (first | refine blk_drewN ?_ _ | refine blk_drew ?_ | refine blk_alloc ?_ _)); refine blk_far ?_ NB394_402.out _; (with_reducible repeat (first | refine blk_drewN ?_ _ | refine blk_drew ?_ | refine blk_alloc ?_ _)); refine blk_far ?_ NB394_402.out _; (with_reducible repeat (first | refine blk_drewN ?_ _ | refine blk_drew ?_ | refine blk_alloc ?_ _)); refine blk_far ?_ NB394_402.out _; (with_reducible repeat (first | refine blk_drewN ?_ _ | refine blk_drew ?_ | refine blk_alloc ?_ _)); exact BK394.out) hb); have n2_ := Aside0.mk (blk_below (g := gb402) (o := .cells #[.int .u64 t397, .string t398, .bool t399, .int .i64 t400] 25 (0, 0)) (by (with_reducible repeat (first | refine blk_drewN ?_ _ | refine blk_drew ?_ | refine blk_alloc ?_ _)); refine blk_put (cs := #[.int .u64 t397, .string t398, .bool t399, .int .i64 0]) ?_ 3 _ rfl; (with_reducible repeat (first | refine blk_drewN ?_ _ | refine blk_drew ?_ | refine blk_alloc ?_ _)); refine blk_put (cs := #[.int .u64 t397, .string t398, .bool false, .int .i64 0]) ?_ 2 _ rfl; (with_reducible repeat (first | refine blk_drewN ?_ _ | refine blk_drew ?_ | refine blk_alloc ?_ _)); refine blk_put (cs := #[.int .u64 t397, .string (⟨#[]⟩ : ByteArray), .bool false, .int .i64 0]) ?_ 1 _ rfl; (with_reducible repeat (first | refine blk_drewN ?_ _ | refine blk_drew ?_ | refine blk_alloc ?_ _)); refine blk_put (cs := #[.int .u64 0, .string (⟨#[]⟩ : ByteArray), .bool false, .int .i64 0]) ?_ 0 _ rfl; (with_reducible repeat (first | refine blk_drewN ?_ _ | refine blk_drew ?_ | refine blk_alloc ?_ _)); exact BK402.out) hb); have n3_ := Aside0.mk (below_step (by repeat (first | (with_reducible first | exact HB.out | apply below_alloc | apply pw_below_drewN | apply below_drew1 | refine below_set ?_ GE394.out | refine below_set ?_ GE402.out) | exact HB.out)) hb); clear HO_0; clear BK394; clear BK402; clear HB; have HO_0 := n0_; have BK394 := n1_; have BK402 := n2_; have HB := n3_; clear n0_ n1_ n2_ n3_; (try clear hb); (try clear hb2); (try clear hk); (try clear hi)))
         repeat (go_quiet (first | (go_at_call 24; (with_reducible refine (chain_Find.calls kj27 _ _ t374 a1 t397 t398 t399 t400 t401 _ ?side1 ?side2 A41.out).mono ?_); (case side1 => repeat (first | exact (Kd.R_reads' HO_0.out).2.2 | (with_reducible refine Kd.C_alloc ?_ _) | (with_reducible refine Kd.C_drewN ?_ _) | (with_reducible refine Kd.C_drew ?_))); (case side2 => exact (Kd.R_reads' HO_0.out).2.1); rintro e w44 ⟨rfl, hb⟩; have n0_ := Aside0.mk (Kd.R_below (by (with_reducible repeat (first | apply Kd.R_alloc | apply Kd.R_drewN | apply Kd.R_drew)); exact HO_0.out) hb); have n1_ := Aside0.mk (blk_below (g := gb394) (o := .cells #[.int .u64 t389, .string t390, .bool t391, .int .i64 t392] 25 (0, 0)) (by (with_reducible repeat (first | refine blk_drewN ?_ _ | refine blk_drew ?_ | refine blk_alloc ?_ _)); exact BK394.out) hb); have n2_ := Aside0.mk (below_step (by repeat (first | (with_reducible first | exact HB.out | apply below_alloc | apply pw_below_drewN | apply below_drew1 | refine below_set ?_ GE394.out) | exact HB.out)) hb); clear HO_0; clear BK394; clear HB; have HO_0 := n0_; have BK394 := n1_; have HB := n2_; clear n0_ n1_ n2_; (try clear hb); (try clear hb2); (try clear hk); (try clear hi)) | ((with_reducible refine gate_dst (N := 11) rfl ?_); (try (refine gate_guard (by rfl) ?_; dsimp only)); refine box_event ?hg (N := 11) ?hd (cs := #[.int .u64 0, .string (⟨#[]⟩ : ByteArray), .bool false, .int .i64 0]) (t := 25) ?hr ?_; (case hd => rfl); (case hg => rfl); (case hr => first | (go_simp; done) | (go_simp; rfl)); intro gb402 hg w45 hbox hb; have n0_ := Aside0.mk (Kd.R_below (Kd.R_elderB (by (with_reducible repeat (first | apply Kd.R_alloc | apply Kd.R_drewN | apply Kd.R_drew)); exact HO_0.out) gb402 (Nat.le_of_eq hg.symm)) hb); have n1_ := Aside0.mk (blk_below (g := gb394) (o := .cells #[.int .u64 t389, .string t390, .bool t391, .int .i64 t392] 25 (0, 0)) (by (with_reducible repeat (first | refine blk_drewN ?_ _ | refine blk_drew ?_ | refine blk_alloc ?_ _)); exact BK394.out) hb); have n2_ := Aside0.mk (below_step (by repeat (first | (with_reducible first | exact HB.out | apply below_alloc | apply pw_below_drewN | apply below_drew1 | refine below_set ?_ GE394.out) | exact HB.out)) hb); have n3_ := Aside0.mk (hbox); have n4_ := Aside0.mk ((by rw [hg]; exact (below_size (by repeat (first | (with_reducible first | exact HB.out | apply below_alloc | apply pw_below_drewN | apply below_drew1 | refine below_set ?_ GE394.out) | exact HB.out))) : w.heap.size ≤ gb402)); have n5_ := Aside0.mk ((by rw [hg]; exact (below_size (by repeat (first | (with_reducible first | exact HB.out | apply below_alloc | apply pw_below_drewN | apply below_drew1 | refine below_set ?_ GE394.out) | exact HB.out))) : w.heap.size ≤ gb402)); have n6_ := Aside0.mk ((by rw [hg]; exact Nat.ne_of_lt (blk_lt (g := gb394) (o := .cells #[.int .u64 t389, .string t390, .bool t391, .int .i64 t392] 25 (0, 0)) (by (with_reducible repeat (first | refine blk_drewN ?_ _ | refine blk_drew ?_ | refine blk_alloc ?_ _)); exact BK394.out)) : gb394 ≠ gb402)); have n7_ := Aside0.mk ((by rw [hg]; exact Nat.ne_of_gt (blk_lt (g := gb394) (o := .cells #[.int .u64 t389, .string t390, .bool t391, .int .i64 t392] 25 (0, 0)) (by (with_reducible repeat (first | refine blk_drewN ?_ _ | refine blk_drew ?_ | refine blk_alloc ?_ _)); exact BK394.out)) : gb402 ≠ gb394)); clear HO_0; clear BK394; clear HB; have HO_0 := n0_; have BK394 := n1_; have HB := n2_; have BK402 := n3_; have GW402 := n4_; have GE402 := n5_; have NB394_402 := n6_; have NB402_394 := n7_; clear n0_ n1_ n2_ n3_ n4_ n5_ n6_ n7_; clear hb hbox hg; have hnb46 := NB402_394.out; have hnc46 := NB394_402.out; have hcz47_0 : w45.cell? ⟨gb402, 0, none⟩ = some (.int .u64 0) := (blk_cell BK402.out 0).trans rfl; have hcz47_1 : w45.cell? ⟨gb402, 1, none⟩ = some (.string (⟨#[]⟩ : ByteArray)) := (blk_cell BK402.out 1).trans rfl; have hcz47_2 : w45.cell? ⟨gb402, 2, none⟩ = some (.bool false) := (blk_cell BK402.out 2).trans rfl; have hcz47_3 : w45.cell? ⟨gb402, 3, none⟩ = some (.int .i64 0) := (blk_cell BK402.out 3).trans rfl; have hfz47_0 := blk_frozen BK402.out 0; have hfz47_1 := blk_frozen BK402.out 1; have hfz47_2 := blk_frozen BK402.out 2; have hfz47_3 := blk_frozen BK402.out 3) | (go_at_call 19; (with_reducible refine (cellarerlaw05_awake.calls  t403 _ A43.out).mono ?_); rintro e w48 ⟨rfl, hb⟩; have n0_ := Aside0.mk (Kd.R_below (by (with_reducible repeat (first | apply Kd.R_alloc | apply Kd.R_drewN | apply Kd.R_drew)); exact (Kd.R_mono (Kd.R_far (p := ⟨gb402, 3, none⟩) (Kd.R_far (p := ⟨gb402, 2, none⟩) (Kd.R_far (p := ⟨gb402, 1, none⟩) (Kd.R_far (p := ⟨gb402, 0, none⟩) (Kd.R_mono HO_0.out (fun k_ hk => (⟨hk, hk.2⟩ : _ ∧ k_ ≠ gb402))) (fun _ hk => hk.2) (.int .u64 t397)) (fun _ hk => hk.2) (.string t398)) (fun _ hk => hk.2) (.bool t399)) (fun _ hk => hk.2) (.int .i64 t400)) (fun _ h_ => h_.1))) hb); have n1_ := Aside0.mk (blk_below (g := gb394) (o := .cells #[.int .u64 t389, .string t390, .bool t391, .int .i64 t392] 25 (0, 0)) (by (with_reducible repeat (first | refine blk_drewN ?_ _ | refine blk_drew ?_ | refine blk_alloc ?_ _)); refine blk_far ?_ NB394_402.out _; (with_reducible repeat (first | refine blk_drewN ?_ _ | refine blk_drew ?_ | refine blk_alloc ?_ _)); refine blk_far ?_ NB394_402.out _; (with_reducible repeat (first | refine blk_drewN ?_ _ | refine blk_drew ?_ | refine blk_alloc ?_ _)); refine blk_far ?_ NB394_402.out _; (with_reducible repeat (first | refine blk_drewN ?_ _ | refine blk_drew ?_ | refine blk_alloc ?_ _)); refine blk_far ?_ NB394_402.out _; (with_reducible repeat (first | refine blk_drewN ?_ _ | refine blk_drew ?_ | refine blk_alloc ?_ _)); exact BK394.out) hb); have n2_ := Aside0.mk (blk_below (g := gb402) (o := .cells #[.int .u64 t397, .string t398, .bool t399, .int .i64 t400] 25 (0, 0)) (by (with_reducible repeat (first | refine blk_drewN ?_ _ | refine blk_drew ?_ | refine blk_alloc ?_ _)); refine blk_put (cs := #[.int .u64 t397, .string t398, .bool t399, .int .i64 0]) ?_ 3 _ rfl; (with_reducible repeat (first | refine blk_drewN ?_ _ | refine blk_drew ?_ | refine blk_alloc ?_ _)); refine blk_put (cs := #[.int .u64 t397, .string t398, .bool false, .int .i64 0]) ?_ 2 _ rfl; (with_reducible repeat (first | refine blk_drewN ?_ _ | refine blk_drew ?_ | refine blk_alloc ?_ _)); refine blk_put (cs := #[.int .u64 t397, .string (⟨#[]⟩ : ByteArray), .bool false, .int .i64 0]) ?_ 1 _ rfl; (with_reducible repeat (first | refine blk_drewN ?_ _ | refine blk_drew ?_ | refine blk_alloc ?_ _)); refine blk_put (cs := #[.int .u64 0, .string (⟨#[]⟩ : ByteArray), .bool false, .int .i64 0]) ?_ 0 _ rfl; (with_reducible repeat (first | refine blk_drewN ?_ _ | refine blk_drew ?_ | refine blk_alloc ?_ _)); exact BK402.out) hb); have n3_ := Aside0.mk (below_step (by repeat (first | (with_reducible first | exact HB.out | apply below_alloc | apply pw_below_drewN | apply below_drew1 | refine below_set ?_ GE394.out | refine below_set ?_ GE402.out) | exact HB.out)) hb); clear HO_0; clear BK394; clear BK402; clear HB; have HO_0 := n0_; have BK394 := n1_; have BK402 := n2_; have HB := n3_; clear n0_ n1_ n2_ n3_; (try clear hb); (try clear hb2); (try clear hk); (try clear hi))); try go_wp2_with (first | (go_at_call 24; (with_reducible refine (chain_Find.calls kj27 _ _ t374 a1 t397 t398 t399 t400 t401 _ ?side1 ?side2 A41.out).mono ?_); (case side1 => repeat (first | exact (Kd.R_reads' HO_0.out).2.2 | (with_reducible refine Kd.C_alloc ?_ _) | (with_reducible refine Kd.C_drewN ?_ _) | (with_reducible refine Kd.C_drew ?_))); (case side2 => exact (Kd.R_reads' HO_0.out).2.1); rintro e w44 ⟨rfl, hb⟩; have n0_ := Aside0.mk (Kd.R_below (by (with_reducible repeat (first | apply Kd.R_alloc | apply Kd.R_drewN | apply Kd.R_drew)); exact HO_0.out) hb); have n1_ := Aside0.mk (blk_below (g := gb394) (o := .cells #[.int .u64 t389, .string t390, .bool t391, .int .i64 t392] 25 (0, 0)) (by (with_reducible repeat (first | refine blk_drewN ?_ _ | refine blk_drew ?_ | refine blk_alloc ?_ _)); exact BK394.out) hb); have n2_ := Aside0.mk (below_step (by repeat (first | (with_reducible first | exact HB.out | apply below_alloc | apply pw_below_drewN | apply below_drew1 | refine below_set ?_ GE394.out) | exact HB.out)) hb); clear HO_0; clear BK394; clear HB; have HO_0 := n0_; have BK394 := n1_; have HB := n2_; clear n0_ n1_ n2_; (try clear hb); (try clear hb2); (try clear hk); (try clear hi)) | ((with_reducible refine gate_dst (N := 11) rfl ?_); (try (refine gate_guard (by rfl) ?_; dsimp only)); refine box_event ?hg (N := 11) ?hd (cs := #[.int .u64 0, .string (⟨#[]⟩ : ByteArray), .bool false, .int .i64 0]) (t := 25) ?hr ?_; (case hd => rfl); (case hg => rfl); (case hr => first | (go_simp; done) | (go_simp; rfl)); intro gb402 hg w45 hbox hb; have n0_ := Aside0.mk (Kd.R_below (Kd.R_elderB (by (with_reducible repeat (first | apply Kd.R_alloc | apply Kd.R_drewN | apply Kd.R_drew)); exact HO_0.out) gb402 (Nat.le_of_eq hg.symm)) hb); have n1_ := Aside0.mk (blk_below (g := gb394) (o := .cells #[.int .u64 t389, .string t390, .bool t391, .int .i64 t392] 25 (0, 0)) (by (with_reducible repeat (first | refine blk_drewN ?_ _ | refine blk_drew ?_ | refine blk_alloc ?_ _)); exact BK394.out) hb); have n2_ := Aside0.mk (below_step (by repeat (first | (with_reducible first | exact HB.out | apply below_alloc | apply pw_below_drewN | apply below_drew1 | refine below_set ?_ GE394.out) | exact HB.out)) hb); have n3_ := Aside0.mk (hbox); have n4_ := Aside0.mk ((by rw [hg]; exact (below_size (by repeat (first | (with_reducible first | exact HB.out | apply below_alloc | apply pw_below_drewN | apply below_drew1 | refine below_set ?_ GE394.out) | exact HB.out))) : w.heap.size ≤ gb402)); have n5_ := Aside0.mk ((by rw [hg]; exact (below_size (by repeat (first | (with_reducible first | exact HB.out | apply below_alloc | apply pw_below_drewN | apply below_drew1 | refine below_set ?_ GE394.out) | exact HB.out))) : w.heap.size ≤ gb402)); have n6_ := Aside0.mk ((by rw [hg]; exact Nat.ne_of_lt (blk_lt (g := gb394) (o := .cells #[.int .u64 t389, .string t390, .bool t391, .int .i64 t392] 25 (0, 0)) (by (with_reducible repeat (first | refine blk_drewN ?_ _ | refine blk_drew ?_ | refine blk_alloc ?_ _)); exact BK394.out)) : gb394 ≠ gb402)); have n7_ := Aside0.mk ((by rw [hg]; exact Nat.ne_of_gt (blk_lt (g := gb394) (o := .cells #[.int .u64 t389, .string t390, .bool t391, .int .i64 t392] 25 (0, 0)) (by (with_reducible repeat (first | refine blk_drewN ?_ _ | refine blk_drew ?_ | refine blk_alloc ?_ _)); exact BK394.out)) : gb402 ≠ gb394)); clear HO_0; clear BK394; clear HB; have HO_0 := n0_; have BK394 := n1_; have HB := n2_; have BK402 := n3_; have GW402 := n4_; have GE402 := n5_; have NB394_402 := n6_; have NB402_394 := n7_; clear n0_ n1_ n2_ n3_ n4_ n5_ n6_ n7_; clear hb hbox hg; have hnb46 := NB402_394.out; have hnc46 := NB394_402.out; have hcz47_0 : w45.cell? ⟨gb402, 0, none⟩ = some (.int .u64 0) := (blk_cell BK402.out 0).trans rfl; have hcz47_1 : w45.cell? ⟨gb402, 1, none⟩ = some (.string (⟨#[]⟩ : ByteArray)) := (blk_cell BK402.out 1).trans rfl; have hcz47_2 : w45.cell? ⟨gb402, 2, none⟩ = some (.bool false) := (blk_cell BK402.out 2).trans rfl; have hcz47_3 : w45.cell? ⟨gb402, 3, none⟩ = some (.int .i64 0) := (blk_cell BK402.out 3).trans rfl; have hfz47_0 := blk_frozen BK402.out 0; have hfz47_1 := blk_frozen BK402.out 1; have hfz47_2 := blk_frozen BK402.out 2; have hfz47_3 := blk_frozen BK402.out 3) | (go_at_call 19; (with_reducible refine (cellarerlaw05_awake.calls  t403 _ A43.out).mono ?_); rintro e w48 ⟨rfl, hb⟩; have n0_ := Aside0.mk (Kd.R_below (by (with_reducible repeat (first | apply Kd.R_alloc | apply Kd.R_drewN | apply Kd.R_drew)); exact (Kd.R_mono (Kd.R_far (p := ⟨gb402, 3, none⟩) (Kd.R_far (p := ⟨gb402, 2, none⟩) (Kd.R_far (p := ⟨gb402, 1, none⟩) (Kd.R_far (p := ⟨gb402, 0, none⟩) (Kd.R_mono HO_0.out (fun k_ hk => (⟨hk, hk.2⟩ : _ ∧ k_ ≠ gb402))) (fun _ hk => hk.2) (.int .u64 t397)) (fun _ hk => hk.2) (.string t398)) (fun _ hk => hk.2) (.bool t399)) (fun _ hk => hk.2) (.int .i64 t400)) (fun _ h_ => h_.1))) hb); have n1_ := Aside0.mk (blk_below (g := gb394) (o := .cells #[.int .u64 t389, .string t390, .bool t391, .int .i64 t392] 25 (0, 0)) (by (with_reducible repeat (first | refine blk_drewN ?_ _ | refine blk_drew ?_ | refine blk_alloc ?_ _)); refine blk_far ?_ NB394_402.out _; (with_reducible repeat (first | refine blk_drewN ?_ _ | refine blk_drew ?_ | refine blk_alloc ?_ _)); refine blk_far ?_ NB394_402.out _; (with_reducible repeat (first | refine blk_drewN ?_ _ | refine blk_drew ?_ | refine blk_alloc ?_ _)); refine blk_far ?_ NB394_402.out _; (with_reducible repeat (first | refine blk_drewN ?_ _ | refine blk_drew ?_ | refine blk_alloc ?_ _)); refine blk_far ?_ NB394_402.out _; (with_reducible repeat (first | refine blk_drewN ?_ _ | refine blk_drew ?_ | refine blk_alloc ?_ _)); exact BK394.out) hb); have n2_ := Aside0.mk (blk_below (g := gb402) (o := .cells #[.int .u64 t397, .string t398, .bool t399, .int .i64 t400] 25 (0, 0)) (by (with_reducible repeat (first | refine blk_drewN ?_ _ | refine blk_drew ?_ | refine blk_alloc ?_ _)); refine blk_put (cs := #[.int .u64 t397, .string t398, .bool t399, .int .i64 0]) ?_ 3 _ rfl; (with_reducible repeat (first | refine blk_drewN ?_ _ | refine blk_drew ?_ | refine blk_alloc ?_ _)); refine blk_put (cs := #[.int .u64 t397, .string t398, .bool false, .int .i64 0]) ?_ 2 _ rfl; (with_reducible repeat (first | refine blk_drewN ?_ _ | refine blk_drew ?_ | refine blk_alloc ?_ _)); refine blk_put (cs := #[.int .u64 t397, .string (⟨#[]⟩ : ByteArray), .bool false, .int .i64 0]) ?_ 1 _ rfl; (with_reducible repeat (first | refine blk_drewN ?_ _ | refine blk_drew ?_ | refine blk_alloc ?_ _)); refine blk_put (cs := #[.int .u64 0, .string (⟨#[]⟩ : ByteArray), .bool false, .int .i64 0]) ?_ 0 _ rfl; (with_reducible repeat (first | refine blk_drewN ?_ _ | refine blk_drew ?_ | refine blk_alloc ?_ _)); exact BK402.out) hb); have n3_ := Aside0.mk (below_step (by repeat (first | (with_reducible first | exact HB.out | apply below_alloc | apply pw_below_drewN | apply below_drew1 | refine below_set ?_ GE394.out | refine below_set ?_ GE402.out) | exact HB.out)) hb); clear HO_0; clear BK394; clear BK402; clear HB; have HO_0 := n0_; have BK394 := n1_; have BK402 := n2_; have HB := n3_; clear n0_ n1_ n2_ n3_; (try clear hb); (try clear hb2); (try clear hk); (try clear hi))))
         go_ret
         exact ⟨by first | rfl | (simp [errW_none, errW_some] <;> rfl) | (simp [*, errW_none, errW_some] <;> rfl), by repeat (first | (with_reducible first | exact HB.out | apply below_alloc | apply pw_below_drewN | apply below_drew1 | refine below_set ?_ GE394.out | refine below_set ?_ GE402.out) | exact HB.out)⟩
        ·rw [if_neg c42] at H
         have c42b0 : ((t401 == 4) != x5_1) = false := by simpa using c42
         (try (have c42b1 : decide ((t401 == 4) = x5_1) = true := by simpa using c42))
         (try (have c42b2 : ((t401 == 4) == x5_1) = true := by simpa using c42))
         clear c42
         obtain rfl := Option.some.inj H
         go_wp2_with (first | (go_at_call 24; (with_reducible refine (chain_Find.calls kj27 _ _ t374 a1 t397 t398 t399 t400 t401 _ ?side1 ?side2 A41.out).mono ?_); (case side1 => repeat (first | exact (Kd.R_reads' HO_0.out).2.2 | (with_reducible refine Kd.C_alloc ?_ _) | (with_reducible refine Kd.C_drewN ?_ _) | (with_reducible refine Kd.C_drew ?_))); (case side2 => exact (Kd.R_reads' HO_0.out).2.1); rintro e w49 ⟨rfl, hb⟩; have n0_ := Aside0.mk (Kd.R_below (by (with_reducible repeat (first | apply Kd.R_alloc | apply Kd.R_drewN | apply Kd.R_drew)); exact HO_0.out) hb); have n1_ := Aside0.mk (blk_below (g := gb394) (o := .cells #[.int .u64 t389, .string t390, .bool t391, .int .i64 t392] 25 (0, 0)) (by (with_reducible repeat (first | refine blk_drewN ?_ _ | refine blk_drew ?_ | refine blk_alloc ?_ _)); exact BK394.out) hb); have n2_ := Aside0.mk (below_step (by repeat (first | (with_reducible first | exact HB.out | apply below_alloc | apply pw_below_drewN | apply below_drew1 | refine below_set ?_ GE394.out) | exact HB.out)) hb); clear HO_0; clear BK394; clear HB; have HO_0 := n0_; have BK394 := n1_; have HB := n2_; clear n0_ n1_ n2_; (try clear hb); (try clear hb2); (try clear hk); (try clear hi)) | ((with_reducible refine gate_dst (N := 11) rfl ?_); (try (refine gate_guard (by rfl) ?_; dsimp only)); refine box_event ?hg (N := 11) ?hd (cs := #[.int .u64 0, .string (⟨#[]⟩ : ByteArray), .bool false, .int .i64 0]) (t := 25) ?hr ?_; (case hd => rfl); (case hg => rfl); (case hr => first | (go_simp; done) | (go_simp; rfl)); intro gb402 hg w50 hbox hb; have n0_ := Aside0.mk (Kd.R_below (Kd.R_elderB (by (with_reducible repeat (first | apply Kd.R_alloc | apply Kd.R_drewN | apply Kd.R_drew)); exact HO_0.out) gb402 (Nat.le_of_eq hg.symm)) hb); have n1_ := Aside0.mk (blk_below (g := gb394) (o := .cells #[.int .u64 t389, .string t390, .bool t391, .int .i64 t392] 25 (0, 0)) (by (with_reducible repeat (first | refine blk_drewN ?_ _ | refine blk_drew ?_ | refine blk_alloc ?_ _)); exact BK394.out) hb); have n2_ := Aside0.mk (below_step (by repeat (first | (with_reducible first | exact HB.out | apply below_alloc | apply pw_below_drewN | apply below_drew1 | refine below_set ?_ GE394.out) | exact HB.out)) hb); have n3_ := Aside0.mk (hbox); have n4_ := Aside0.mk ((by rw [hg]; exact (below_size (by repeat (first | (with_reducible first | exact HB.out | apply below_alloc | apply pw_below_drewN | apply below_drew1 | refine below_set ?_ GE394.out) | exact HB.out))) : w.heap.size ≤ gb402)); have n5_ := Aside0.mk ((by rw [hg]; exact (below_size (by repeat (first | (with_reducible first | exact HB.out | apply below_alloc | apply pw_below_drewN | apply below_drew1 | refine below_set ?_ GE394.out) | exact HB.out))) : w.heap.size ≤ gb402)); have n6_ := Aside0.mk ((by rw [hg]; exact Nat.ne_of_lt (blk_lt (g := gb394) (o := .cells #[.int .u64 t389, .string t390, .bool t391, .int .i64 t392] 25 (0, 0)) (by (with_reducible repeat (first | refine blk_drewN ?_ _ | refine blk_drew ?_ | refine blk_alloc ?_ _)); exact BK394.out)) : gb394 ≠ gb402)); have n7_ := Aside0.mk ((by rw [hg]; exact Nat.ne_of_gt (blk_lt (g := gb394) (o := .cells #[.int .u64 t389, .string t390, .bool t391, .int .i64 t392] 25 (0, 0)) (by (with_reducible repeat (first | refine blk_drewN ?_ _ | refine blk_drew ?_ | refine blk_alloc ?_ _)); exact BK394.out)) : gb402 ≠ gb394)); clear HO_0; clear BK394; clear HB; have HO_0 := n0_; have BK394 := n1_; have HB := n2_; have BK402 := n3_; have GW402 := n4_; have GE402 := n5_; have NB394_402 := n6_; have NB402_394 := n7_; clear n0_ n1_ n2_ n3_ n4_ n5_ n6_ n7_; clear hb hbox hg; have hnb51 := NB402_394.out; have hnc51 := NB394_402.out; have hcz52_0 : w50.cell? ⟨gb402, 0, none⟩ = some (.int .u64 0) := (blk_cell BK402.out 0).trans rfl; have hcz52_1 : w50.cell? ⟨gb402, 1, none⟩ = some (.string (⟨#[]⟩ : ByteArray)) := (blk_cell BK402.out 1).trans rfl; have hcz52_2 : w50.cell? ⟨gb402, 2, none⟩ = some (.bool false) := (blk_cell BK402.out 2).trans rfl; have hcz52_3 : w50.cell? ⟨gb402, 3, none⟩ = some (.int .i64 0) := (blk_cell BK402.out 3).trans rfl; have hfz52_0 := blk_frozen BK402.out 0; have hfz52_1 := blk_frozen BK402.out 1; have hfz52_2 := blk_frozen BK402.out 2; have hfz52_3 := blk_frozen BK402.out 3))
         repeat (go_quiet (first | (go_at_call 24; (with_reducible refine (chain_Find.calls kj27 _ _ t374 a1 t397 t398 t399 t400 t401 _ ?side1 ?side2 A41.out).mono ?_); (case side1 => repeat (first | exact (Kd.R_reads' HO_0.out).2.2 | (with_reducible refine Kd.C_alloc ?_ _) | (with_reducible refine Kd.C_drewN ?_ _) | (with_reducible refine Kd.C_drew ?_))); (case side2 => exact (Kd.R_reads' HO_0.out).2.1); rintro e w49 ⟨rfl, hb⟩; have n0_ := Aside0.mk (Kd.R_below (by (with_reducible repeat (first | apply Kd.R_alloc | apply Kd.R_drewN | apply Kd.R_drew)); exact HO_0.out) hb); have n1_ := Aside0.mk (blk_below (g := gb394) (o := .cells #[.int .u64 t389, .string t390, .bool t391, .int .i64 t392] 25 (0, 0)) (by (with_reducible repeat (first | refine blk_drewN ?_ _ | refine blk_drew ?_ | refine blk_alloc ?_ _)); exact BK394.out) hb); have n2_ := Aside0.mk (below_step (by repeat (first | (with_reducible first | exact HB.out | apply below_alloc | apply pw_below_drewN | apply below_drew1 | refine below_set ?_ GE394.out) | exact HB.out)) hb); clear HO_0; clear BK394; clear HB; have HO_0 := n0_; have BK394 := n1_; have HB := n2_; clear n0_ n1_ n2_; (try clear hb); (try clear hb2); (try clear hk); (try clear hi)) | ((with_reducible refine gate_dst (N := 11) rfl ?_); (try (refine gate_guard (by rfl) ?_; dsimp only)); refine box_event ?hg (N := 11) ?hd (cs := #[.int .u64 0, .string (⟨#[]⟩ : ByteArray), .bool false, .int .i64 0]) (t := 25) ?hr ?_; (case hd => rfl); (case hg => rfl); (case hr => first | (go_simp; done) | (go_simp; rfl)); intro gb402 hg w50 hbox hb; have n0_ := Aside0.mk (Kd.R_below (Kd.R_elderB (by (with_reducible repeat (first | apply Kd.R_alloc | apply Kd.R_drewN | apply Kd.R_drew)); exact HO_0.out) gb402 (Nat.le_of_eq hg.symm)) hb); have n1_ := Aside0.mk (blk_below (g := gb394) (o := .cells #[.int .u64 t389, .string t390, .bool t391, .int .i64 t392] 25 (0, 0)) (by (with_reducible repeat (first | refine blk_drewN ?_ _ | refine blk_drew ?_ | refine blk_alloc ?_ _)); exact BK394.out) hb); have n2_ := Aside0.mk (below_step (by repeat (first | (with_reducible first | exact HB.out | apply below_alloc | apply pw_below_drewN | apply below_drew1 | refine below_set ?_ GE394.out) | exact HB.out)) hb); have n3_ := Aside0.mk (hbox); have n4_ := Aside0.mk ((by rw [hg]; exact (below_size (by repeat (first | (with_reducible first | exact HB.out | apply below_alloc | apply pw_below_drewN | apply below_drew1 | refine below_set ?_ GE394.out) | exact HB.out))) : w.heap.size ≤ gb402)); have n5_ := Aside0.mk ((by rw [hg]; exact (below_size (by repeat (first | (with_reducible first | exact HB.out | apply below_alloc | apply pw_below_drewN | apply below_drew1 | refine below_set ?_ GE394.out) | exact HB.out))) : w.heap.size ≤ gb402)); have n6_ := Aside0.mk ((by rw [hg]; exact Nat.ne_of_lt (blk_lt (g := gb394) (o := .cells #[.int .u64 t389, .string t390, .bool t391, .int .i64 t392] 25 (0, 0)) (by (with_reducible repeat (first | refine blk_drewN ?_ _ | refine blk_drew ?_ | refine blk_alloc ?_ _)); exact BK394.out)) : gb394 ≠ gb402)); have n7_ := Aside0.mk ((by rw [hg]; exact Nat.ne_of_gt (blk_lt (g := gb394) (o := .cells #[.int .u64 t389, .string t390, .bool t391, .int .i64 t392] 25 (0, 0)) (by (with_reducible repeat (first | refine blk_drewN ?_ _ | refine blk_drew ?_ | refine blk_alloc ?_ _)); exact BK394.out)) : gb402 ≠ gb394)); clear HO_0; clear BK394; clear HB; have HO_0 := n0_; have BK394 := n1_; have HB := n2_; have BK402 := n3_; have GW402 := n4_; have GE402 := n5_; have NB394_402 := n6_; have NB402_394 := n7_; clear n0_ n1_ n2_ n3_ n4_ n5_ n6_ n7_; clear hb hbox hg; have hnb51 := NB402_394.out; have hnc51 := NB394_402.out; have hcz52_0 : w50.cell? ⟨gb402, 0, none⟩ = some (.int .u64 0) := (blk_cell BK402.out 0).trans rfl; have hcz52_1 : w50.cell? ⟨gb402, 1, none⟩ = some (.string (⟨#[]⟩ : ByteArray)) := (blk_cell BK402.out 1).trans rfl; have hcz52_2 : w50.cell? ⟨gb402, 2, none⟩ = some (.bool false) := (blk_cell BK402.out 2).trans rfl; have hcz52_3 : w50.cell? ⟨gb402, 3, none⟩ = some (.int .i64 0) := (blk_cell BK402.out 3).trans rfl; have hfz52_0 := blk_frozen BK402.out 0; have hfz52_1 := blk_frozen BK402.out 1; have hfz52_2 := blk_frozen BK402.out 2; have hfz52_3 := blk_frozen BK402.out 3)); try go_wp2_with (first | (go_at_call 24; (with_reducible refine (chain_Find.calls kj27 _ _ t374 a1 t397 t398 t399 t400 t401 _ ?side1 ?side2 A41.out).mono ?_); (case side1 => repeat (first | exact (Kd.R_reads' HO_0.out).2.2 | (with_reducible refine Kd.C_alloc ?_ _) | (with_reducible refine Kd.C_drewN ?_ _) | (with_reducible refine Kd.C_drew ?_))); (case side2 => exact (Kd.R_reads' HO_0.out).2.1); rintro e w49 ⟨rfl, hb⟩; have n0_ := Aside0.mk (Kd.R_below (by (with_reducible repeat (first | apply Kd.R_alloc | apply Kd.R_drewN | apply Kd.R_drew)); exact HO_0.out) hb); have n1_ := Aside0.mk (blk_below (g := gb394) (o := .cells #[.int .u64 t389, .string t390, .bool t391, .int .i64 t392] 25 (0, 0)) (by (with_reducible repeat (first | refine blk_drewN ?_ _ | refine blk_drew ?_ | refine blk_alloc ?_ _)); exact BK394.out) hb); have n2_ := Aside0.mk (below_step (by repeat (first | (with_reducible first | exact HB.out | apply below_alloc | apply pw_below_drewN | apply below_drew1 | refine below_set ?_ GE394.out) | exact HB.out)) hb); clear HO_0; clear BK394; clear HB; have HO_0 := n0_; have BK394 := n1_; have HB := n2_; clear n0_ n1_ n2_; (try clear hb); (try clear hb2); (try clear hk); (try clear hi)) | ((with_reducible refine gate_dst (N := 11) rfl ?_); (try (refine gate_guard (by rfl) ?_; dsimp only)); refine box_event ?hg (N := 11) ?hd (cs := #[.int .u64 0, .string (⟨#[]⟩ : ByteArray), .bool false, .int .i64 0]) (t := 25) ?hr ?_; (case hd => rfl); (case hg => rfl); (case hr => first | (go_simp; done) | (go_simp; rfl)); intro gb402 hg w50 hbox hb; have n0_ := Aside0.mk (Kd.R_below (Kd.R_elderB (by (with_reducible repeat (first | apply Kd.R_alloc | apply Kd.R_drewN | apply Kd.R_drew)); exact HO_0.out) gb402 (Nat.le_of_eq hg.symm)) hb); have n1_ := Aside0.mk (blk_below (g := gb394) (o := .cells #[.int .u64 t389, .string t390, .bool t391, .int .i64 t392] 25 (0, 0)) (by (with_reducible repeat (first | refine blk_drewN ?_ _ | refine blk_drew ?_ | refine blk_alloc ?_ _)); exact BK394.out) hb); have n2_ := Aside0.mk (below_step (by repeat (first | (with_reducible first | exact HB.out | apply below_alloc | apply pw_below_drewN | apply below_drew1 | refine below_set ?_ GE394.out) | exact HB.out)) hb); have n3_ := Aside0.mk (hbox); have n4_ := Aside0.mk ((by rw [hg]; exact (below_size (by repeat (first | (with_reducible first | exact HB.out | apply below_alloc | apply pw_below_drewN | apply below_drew1 | refine below_set ?_ GE394.out) | exact HB.out))) : w.heap.size ≤ gb402)); have n5_ := Aside0.mk ((by rw [hg]; exact (below_size (by repeat (first | (with_reducible first | exact HB.out | apply below_alloc | apply pw_below_drewN | apply below_drew1 | refine below_set ?_ GE394.out) | exact HB.out))) : w.heap.size ≤ gb402)); have n6_ := Aside0.mk ((by rw [hg]; exact Nat.ne_of_lt (blk_lt (g := gb394) (o := .cells #[.int .u64 t389, .string t390, .bool t391, .int .i64 t392] 25 (0, 0)) (by (with_reducible repeat (first | refine blk_drewN ?_ _ | refine blk_drew ?_ | refine blk_alloc ?_ _)); exact BK394.out)) : gb394 ≠ gb402)); have n7_ := Aside0.mk ((by rw [hg]; exact Nat.ne_of_gt (blk_lt (g := gb394) (o := .cells #[.int .u64 t389, .string t390, .bool t391, .int .i64 t392] 25 (0, 0)) (by (with_reducible repeat (first | refine blk_drewN ?_ _ | refine blk_drew ?_ | refine blk_alloc ?_ _)); exact BK394.out)) : gb402 ≠ gb394)); clear HO_0; clear BK394; clear HB; have HO_0 := n0_; have BK394 := n1_; have HB := n2_; have BK402 := n3_; have GW402 := n4_; have GE402 := n5_; have NB394_402 := n6_; have NB402_394 := n7_; clear n0_ n1_ n2_ n3_ n4_ n5_ n6_ n7_; clear hb hbox hg; have hnb51 := NB402_394.out; have hnc51 := NB394_402.out; have hcz52_0 : w50.cell? ⟨gb402, 0, none⟩ = some (.int .u64 0) := (blk_cell BK402.out 0).trans rfl; have hcz52_1 : w50.cell? ⟨gb402, 1, none⟩ = some (.string (⟨#[]⟩ : ByteArray)) := (blk_cell BK402.out 1).trans rfl; have hcz52_2 : w50.cell? ⟨gb402, 2, none⟩ = some (.bool false) := (blk_cell BK402.out 2).trans rfl; have hcz52_3 : w50.cell? ⟨gb402, 3, none⟩ = some (.int .i64 0) := (blk_cell BK402.out 3).trans rfl; have hfz52_0 := blk_frozen BK402.out 0; have hfz52_1 := blk_frozen BK402.out 1; have hfz52_2 := blk_frozen BK402.out 2; have hfz52_3 := blk_frozen BK402.out 3)))
         go_ret
         exact ⟨by first | rfl | (simp [errW_none, errW_some] <;> rfl) | (simp [*, errW_none, errW_some] <;> rfl), by repeat (first | (with_reducible first | exact HB.out | apply below_alloc | apply pw_below_drewN | apply below_drew1 | refine below_set ?_ GE394.out | refine below_set ?_ GE402.out) | exact HB.out)⟩
 ·rw [if_neg c5] at H
  have c5b0 : (t377 == 0) = false := beq_eq_false_iff_ne.mpr c5
  have c5b1 : (t377 != 0) = true := bne_iff_ne.mpr c5
  replace H := Option.bind_eq_some_iff.mp H
  obtain ⟨t378, A530, H⟩ := H
  replace H : (some t378) = some r := H
  have A53 := Aside0.mk A530
  clear A530
  obtain rfl := Option.some.inj H
  go_enter Try.func9, Try.ntmps9
  go_wp2_with (first | (go_at_call 10; (with_reducible refine (cellarerlaw05_Few.calls k _ _ l0 t374 _ ?side1 ?side2 A3.out).mono ?_); (case side1 => repeat (first | exact HR0.out | (with_reducible refine Kd.C_alloc ?_ _) | (with_reducible refine Kd.C_drewN ?_ _) | (with_reducible refine Kd.C_drew ?_))); (case side2 => exact HC0.out); rintro e w54 ⟨v375, rfl, ho0, hb⟩; have n0_ := Aside0.mk (Kd.R_lower ho0 (below_size (by repeat (first | (with_reducible first | exact HB.out | apply below_alloc | apply pw_below_drewN | apply below_drew1) | exact HB.out)))); have n1_ := Aside0.mk (below_step (by repeat (first | (with_reducible first | exact HB.out | apply below_alloc | apply pw_below_drewN | apply below_drew1) | exact HB.out)) hb); clear HB; have HO376 := n0_; have HB := n1_; clear n0_ n1_; (try clear hb); (try clear hb2); (try clear hk); (try clear hi); (try clear ho0); obtain ⟨Ao55, co55, eo55⟩ := Kd.R_slice HO376.out; subst eo55) | (go_at_call 17; (with_reducible refine (chain_Check.calls k _ _ t374 t377 _ ?side1 ?side2 A4.out).mono ?_); (case side1 => repeat (first | exact (Kd.R_reads' HO376.out).2.2 | (with_reducible refine Kd.C_alloc ?_ _) | (with_reducible refine Kd.C_drewN ?_ _) | (with_reducible refine Kd.C_drew ?_))); (case side2 => exact (Kd.R_reads' HO376.out).2.1); rintro e w56 ⟨rfl, hb⟩; have n0_ := Aside0.mk (Kd.R_below (by (with_reducible repeat (first | apply Kd.R_alloc | apply Kd.R_drewN | apply Kd.R_drew)); exact HO376.out) hb); have n1_ := Aside0.mk (below_step (by repeat (first | (with_reducible first | exact HB.out | apply below_alloc | apply pw_below_drewN | apply below_drew1) | exact HB.out)) hb); clear HO376; clear HB; have HO376 := n0_; have HB := n1_; clear n0_ n1_; (try clear hb); (try clear hb2); (try clear hk); (try clear hi)) | (go_at_call 19; (with_reducible refine (cellarerlaw05_awake.calls  t378 _ A53.out).mono ?_); rintro e w57 ⟨rfl, hb⟩; have n0_ := Aside0.mk (Kd.R_below (by (with_reducible repeat (first | apply Kd.R_alloc | apply Kd.R_drewN | apply Kd.R_drew)); exact HO376.out) hb); have n1_ := Aside0.mk (below_step (by repeat (first | (with_reducible first | exact HB.out | apply below_alloc | apply pw_below_drewN | apply below_drew1) | exact HB.out)) hb); clear HO376; clear HB; have HO376 := n0_; have HB := n1_; clear n0_ n1_; (try clear hb); (try clear hb2); (try clear hk); (try clear hi)))
  repeat (go_quiet (first | (go_at_call 10; (with_reducible refine (cellarerlaw05_Few.calls k _ _ l0 t374 _ ?side1 ?side2 A3.out).mono ?_); (case side1 => repeat (first | exact HR0.out | (with_reducible refine Kd.C_alloc ?_ _) | (with_reducible refine Kd.C_drewN ?_ _) | (with_reducible refine Kd.C_drew ?_))); (case side2 => exact HC0.out); rintro e w54 ⟨v375, rfl, ho0, hb⟩; have n0_ := Aside0.mk (Kd.R_lower ho0 (below_size (by repeat (first | (with_reducible first | exact HB.out | apply below_alloc | apply pw_below_drewN | apply below_drew1) | exact HB.out)))); have n1_ := Aside0.mk (below_step (by repeat (first | (with_reducible first | exact HB.out | apply below_alloc | apply pw_below_drewN | apply below_drew1) | exact HB.out)) hb); clear HB; have HO376 := n0_; have HB := n1_; clear n0_ n1_; (try clear hb); (try clear hb2); (try clear hk); (try clear hi); (try clear ho0); obtain ⟨Ao55, co55, eo55⟩ := Kd.R_slice HO376.out; subst eo55) | (go_at_call 17; (with_reducible refine (chain_Check.calls k _ _ t374 t377 _ ?side1 ?side2 A4.out).mono ?_); (case side1 => repeat (first | exact (Kd.R_reads' HO376.out).2.2 | (with_reducible refine Kd.C_alloc ?_ _) | (with_reducible refine Kd.C_drewN ?_ _) | (with_reducible refine Kd.C_drew ?_))); (case side2 => exact (Kd.R_reads' HO376.out).2.1); rintro e w56 ⟨rfl, hb⟩; have n0_ := Aside0.mk (Kd.R_below (by (with_reducible repeat (first | apply Kd.R_alloc | apply Kd.R_drewN | apply Kd.R_drew)); exact HO376.out) hb); have n1_ := Aside0.mk (below_step (by repeat (first | (with_reducible first | exact HB.out | apply below_alloc | apply pw_below_drewN | apply below_drew1) | exact HB.out)) hb); clear HO376; clear HB; have HO376 := n0_; have HB := n1_; clear n0_ n1_; (try clear hb); (try clear hb2); (try clear hk); (try clear hi)) | (go_at_call 19; (with_reducible refine (cellarerlaw05_awake.calls  t378 _ A53.out).mono ?_); rintro e w57 ⟨rfl, hb⟩; have n0_ := Aside0.mk (Kd.R_below (by (with_reducible repeat (first | apply Kd.R_alloc | apply Kd.R_drewN | apply Kd.R_drew)); exact HO376.out) hb); have n1_ := Aside0.mk (below_step (by repeat (first | (with_reducible first | exact HB.out | apply below_alloc | apply pw_below_drewN | apply below_drew1) | exact HB.out)) hb); clear HO376; clear HB; have HO376 := n0_; have HB := n1_; clear n0_ n1_; (try clear hb); (try clear hb2); (try clear hk); (try clear hi))); try go_wp2_with (first | (go_at_call 10; (with_reducible refine (cellarerlaw05_Few.calls k _ _ l0 t374 _ ?side1 ?side2 A3.out).mono ?_); (case side1 => repeat (first | exact HR0.out | (with_reducible refine Kd.C_alloc ?_ _) | (with_reducible refine Kd.C_drewN ?_ _) | (with_reducible refine Kd.C_drew ?_))); (case side2 => exact HC0.out); rintro e w54 ⟨v375, rfl, ho0, hb⟩; have n0_ := Aside0.mk (Kd.R_lower ho0 (below_size (by repeat (first | (with_reducible first | exact HB.out | apply below_alloc | apply pw_below_drewN | apply below_drew1) | exact HB.out)))); have n1_ := Aside0.mk (below_step (by repeat (first | (with_reducible first | exact HB.out | apply below_alloc | apply pw_below_drewN | apply below_drew1) | exact HB.out)) hb); clear HB; have HO376 := n0_; have HB := n1_; clear n0_ n1_; (try clear hb); (try clear hb2); (try clear hk); (try clear hi); (try clear ho0); obtain ⟨Ao55, co55, eo55⟩ := Kd.R_slice HO376.out; subst eo55) | (go_at_call 17; (with_reducible refine (chain_Check.calls k _ _ t374 t377 _ ?side1 ?side2 A4.out).mono ?_); (case side1 => repeat (first | exact (Kd.R_reads' HO376.out).2.2 | (with_reducible refine Kd.C_alloc ?_ _) | (with_reducible refine Kd.C_drewN ?_ _) | (with_reducible refine Kd.C_drew ?_))); (case side2 => exact (Kd.R_reads' HO376.out).2.1); rintro e w56 ⟨rfl, hb⟩; have n0_ := Aside0.mk (Kd.R_below (by (with_reducible repeat (first | apply Kd.R_alloc | apply Kd.R_drewN | apply Kd.R_drew)); exact HO376.out) hb); have n1_ := Aside0.mk (below_step (by repeat (first | (with_reducible first | exact HB.out | apply below_alloc | apply pw_below_drewN | apply below_drew1) | exact HB.out)) hb); clear HO376; clear HB; have HO376 := n0_; have HB := n1_; clear n0_ n1_; (try clear hb); (try clear hb2); (try clear hk); (try clear hi)) | (go_at_call 19; (with_reducible refine (cellarerlaw05_awake.calls  t378 _ A53.out).mono ?_); rintro e w57 ⟨rfl, hb⟩; have n0_ := Aside0.mk (Kd.R_below (by (with_reducible repeat (first | apply Kd.R_alloc | apply Kd.R_drewN | apply Kd.R_drew)); exact HO376.out) hb); have n1_ := Aside0.mk (below_step (by repeat (first | (with_reducible first | exact HB.out | apply below_alloc | apply pw_below_drewN | apply below_drew1) | exact HB.out)) hb); clear HO376; clear HB; have HO376 := n0_; have HB := n1_; clear n0_ n1_; (try clear hb); (try clear hb2); (try clear hk); (try clear hi))))
  go_ret
  exact ⟨by first | rfl | (simp [errW_none, errW_some] <;> rfl) | (simp [*, errW_none, errW_some] <;> rfl), by repeat (first | (with_reducible first | exact HB.out | apply below_alloc | apply pw_below_drewN | apply below_drew1) | exact HB.out)⟩

/-- THE ONE PURE STATEMENT of cellarerlaw05_ChainFirst. -/
-- GIVEN cellarerlaw05_ChainFirst.Pure
def cellarerlaw05_ChainFirst.Pure : Prop := ∀ (l0 : List (S25)) (a1 : Int), (l0.length ≤ maxLen ∧ ∀ y1_ ∈ l0, okS25 y1_) → (Lit.int .u64 a1).wf = true → ∃ k, cellarerlaw05_ChainFirst.f k l0 a1 = some true

end Go.Proofs.Ytldmidoemcdaaaa.P
