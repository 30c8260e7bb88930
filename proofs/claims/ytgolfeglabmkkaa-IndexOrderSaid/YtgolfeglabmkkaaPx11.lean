/- Printed by a program of this session (wip/tools/gprint.py, over the kit's print) out of the translation: functions and their contracts. -/
import Derived.Test.YtgolfeglabmkkaaPx0
import Derived.Test.YtgolfeglabmkkaaPx2
import Derived.Test.YtgolfeglabmkkaaPx3
import Derived.Test.YtgolfeglabmkkaaPx4
import Derived.Test.YtgolfeglabmkkaaPx7
import Derived.Test.YtgolfeglabmkkaaPx9
import Derived.Test.YtgolfeglabmkkaaPxOpens
namespace Go.Proofs.Ytgolfeglabmkkaa.P
open Go.RowKit Go.Proofs.YtgolfeglabmkkaaW.PrintWords Go.Proofs.YtgolfeglabmkkaaW.PrintLast Go.Proofs.YtgolfeglabmkkaaW.PrintMore
attribute [local go_sem] max2_int min2_int max_two min_two max_three min_three max_four min_four   -- for this text's walks alone
set_option linter.unusedVariables false
set_option linter.unusedSimpArgs false

/-! ### cellarerlaw06_IndexOrder: function 5 -/
mutual
def cellarerlaw06_IndexOrder.j0 : Nat → List (S38) → ByteArray → List (S50) → List (S38) → Bool → Option (Bool)
  | 0, _, _, _, _, _ => none
  | k + 1, x0, x1, x2, x7, x30 => if x30 = true then ((cellarerlaw06_awake.f k).bind fun t240 => (some t240)) else ((index_At.f k x0 x1).bind fun t241 => ((index_At.f k x7 x1).bind fun t242 => (if t241 = t242 then (if t241 < 0 then (cellarerlaw06_IndexOrder.j1 k x7 true) else (if t241 ≥ (x7.length : Int) then (cellarerlaw06_IndexOrder.j1 k x7 true) else (if 0 ≤ t241 then (if t241 < (x7.length : Int) then (if ((rd_T38 x7 t241).f0).toList = x1.toList then ((cellarerref05_Same.f k ((rd_T38 x7 t241).f1) x2).bind fun t245 => (cellarerlaw06_IndexOrder.j1 k x7 (!t245))) else (cellarerlaw06_IndexOrder.j1 k x7 true)) else (none)) else (none)))) else (cellarerlaw06_IndexOrder.j1 k x7 true))))
def cellarerlaw06_IndexOrder.j1 : Nat → List (S38) → Bool → Option (Bool)
  | 0, _, _ => none
  | k + 1, x7, x68 => if x68 = true then (some false) else (cellarerlaw06_IndexOrder.l0 k x7 0)
def cellarerlaw06_IndexOrder.l0 : Nat → List (S38) → Int → Option (Bool)
  | 0, _, _ => none
  | k + 1, x7, x10 => if x10 < (x7.length : Int) then (if 0 ≤ x10 then ((index_At.f k x7 ((rd_T38 x7 x10).f0)).bind fun t248 => (if t248 = x10 then (cellarerlaw06_IndexOrder.l0 k x7 (wrap64 (x10 + 1))) else (some false))) else (none)) else ((cellarerlaw06_awake.f k).bind fun t246 => (some t246))
end
def cellarerlaw06_IndexOrder.f (k : Nat) (l0 : List (S38)) (a1 : ByteArray) (l2 : List (S50)) : Option (Bool) := (cellarerlaw06_Few.f k l0).bind fun t229 => ((cellarerlaw01_Few.f a1).bind fun t232 => ((cellarerlaw05_Few.f k l2).bind fun t233 => ((index_Put.f t229 t232 t233).bind fun bt236 => (if bt236.2 = 0 then (cellarerlaw06_IndexOrder.j0 k t229 t232 t233 bt236.1 ((t233.length : Int) == 0)) else (cellarerlaw06_IndexOrder.j0 k t229 t232 t233 bt236.1 true)))))
theorem cellarerlaw06_IndexOrder.mono_l : ∀ k, (∀ y0 y1 y2 y3 y4, LeO (cellarerlaw06_IndexOrder.j0 k y0 y1 y2 y3 y4) (cellarerlaw06_IndexOrder.j0 (k + 1) y0 y1 y2 y3 y4)) ∧ (∀ y0 y1, LeO (cellarerlaw06_IndexOrder.j1 k y0 y1) (cellarerlaw06_IndexOrder.j1 (k + 1) y0 y1)) ∧ (∀ y0 y1, LeO (cellarerlaw06_IndexOrder.l0 k y0 y1) (cellarerlaw06_IndexOrder.l0 (k + 1) y0 y1))
  | 0 => ⟨fun _ _ _ _ _ r h => by simp [cellarerlaw06_IndexOrder.j0] at h, fun _ _ r h => by simp [cellarerlaw06_IndexOrder.j1] at h, fun _ _ r h => by simp [cellarerlaw06_IndexOrder.l0] at h⟩
  | k + 1 => by
    obtain ⟨ih0, ih1, ih2⟩ := cellarerlaw06_IndexOrder.mono_l k
    refine ⟨?_, ?_, ?_⟩
    · intro y0 y1 y2 y3 y4
      unfold cellarerlaw06_IndexOrder.j0
      repeat' first
      | (with_reducible exact ih0 _ _ _ _ _)
      | (with_reducible exact ih1 _ _)
      | (with_reducible exact ih2 _ _)
      | (with_reducible exact cellarerlaw05_Few.mono _ _)
      | (with_reducible exact cellarerlaw06_Few.mono _ _)
      | (with_reducible exact cellarerlaw06_awake.mono _)
      | (with_reducible exact cellarerref05_Same.mono _ _ _)
      | (with_reducible exact index_At.mono _ _ _)
      | (with_reducible exact LeO.refl _)
      | (with_reducible exact LeO.none _)
      | (with_reducible refine LeO.ite ?_ ?_)
      | (with_reducible refine LeO.bind ?_ (fun _ => ?_))
      | exact ih0 _ _ _ _ _
      | exact ih1 _ _
      | exact ih2 _ _
      | exact cellarerlaw05_Few.mono _ _
      | exact cellarerlaw06_Few.mono _ _
      | exact cellarerlaw06_awake.mono _
      | exact cellarerref05_Same.mono _ _ _
      | exact index_At.mono _ _ _
      | exact LeO.none _
      | refine LeO.ite ?_ ?_
      | refine LeO.bind ?_ (fun _ => ?_)
    · intro y0 y1
      unfold cellarerlaw06_IndexOrder.j1
      repeat' first
      | (with_reducible exact ih0 _ _ _ _ _)
      | (with_reducible exact ih1 _ _)
      | (with_reducible exact ih2 _ _)
      | (with_reducible exact cellarerlaw05_Few.mono _ _)
      | (with_reducible exact cellarerlaw06_Few.mono _ _)
      | (with_reducible exact cellarerlaw06_awake.mono _)
      | (with_reducible exact cellarerref05_Same.mono _ _ _)
      | (with_reducible exact index_At.mono _ _ _)
      | (with_reducible exact LeO.refl _)
      | (with_reducible exact LeO.none _)
      | (with_reducible refine LeO.ite ?_ ?_)
      | (with_reducible refine LeO.bind ?_ (fun _ => ?_))
      | exact ih0 _ _ _ _ _
      | exact ih1 _ _
      | exact ih2 _ _
      | exact cellarerlaw05_Few.mono _ _
      | exact cellarerlaw06_Few.mono _ _
      | exact cellarerlaw06_awake.mono _
      | exact cellarerref05_Same.mono _ _ _
      | exact index_At.mono _ _ _
      | exact LeO.none _
      | refine LeO.ite ?_ ?_
      | refine LeO.bind ?_ (fun _ => ?_)
    · intro y0 y1
      unfold cellarerlaw06_IndexOrder.l0
      repeat' first
      | (with_reducible exact ih0 _ _ _ _ _)
      | (with_reducible exact ih1 _ _)
      | (with_reducible exact ih2 _ _)
      | (with_reducible exact cellarerlaw05_Few.mono _ _)
      | (with_reducible exact cellarerlaw06_Few.mono _ _)
      | (with_reducible exact cellarerlaw06_awake.mono _)
      | (with_reducible exact cellarerref05_Same.mono _ _ _)
      | (with_reducible exact index_At.mono _ _ _)
      | (with_reducible exact LeO.refl _)
      | (with_reducible exact LeO.none _)
      | (with_reducible refine LeO.ite ?_ ?_)
      | (with_reducible refine LeO.bind ?_ (fun _ => ?_))
      | exact ih0 _ _ _ _ _
      | exact ih1 _ _
      | exact ih2 _ _
      | exact cellarerlaw05_Few.mono _ _
      | exact cellarerlaw06_Few.mono _ _
      | exact cellarerlaw06_awake.mono _
      | exact cellarerref05_Same.mono _ _ _
      | exact index_At.mono _ _ _
      | exact LeO.none _
      | refine LeO.ite ?_ ?_
      | refine LeO.bind ?_ (fun _ => ?_)
theorem cellarerlaw06_IndexOrder.mono : ∀ a0 a1 a2 k, LeO (cellarerlaw06_IndexOrder.f k a0 a1 a2) (cellarerlaw06_IndexOrder.f (k + 1) a0 a1 a2) := by
  intro a0 a1 a2 k
  obtain ⟨ih0, ih1, ih2⟩ := cellarerlaw06_IndexOrder.mono_l k
  unfold cellarerlaw06_IndexOrder.f
  repeat' first
      | (with_reducible exact ih0 _ _ _ _ _)
      | (with_reducible exact ih1 _ _)
      | (with_reducible exact ih2 _ _)
      | (with_reducible exact cellarerlaw05_Few.mono _ _)
      | (with_reducible exact cellarerlaw06_Few.mono _ _)
      | (with_reducible exact cellarerlaw06_awake.mono _)
      | (with_reducible exact cellarerref05_Same.mono _ _ _)
      | (with_reducible exact index_At.mono _ _ _)
      | (with_reducible exact LeO.refl _)
      | (with_reducible exact LeO.none _)
      | (with_reducible refine LeO.ite ?_ ?_)
      | (with_reducible refine LeO.bind ?_ (fun _ => ?_))
      | exact ih0 _ _ _ _ _
      | exact ih1 _ _
      | exact ih2 _ _
      | exact cellarerlaw05_Few.mono _ _
      | exact cellarerlaw06_Few.mono _ _
      | exact cellarerlaw06_awake.mono _
      | exact cellarerref05_Same.mono _ _ _
      | exact index_At.mono _ _ _
      | exact LeO.none _
      | refine LeO.ite ?_ ?_
      | refine LeO.bind ?_ (fun _ => ?_)
set_option maxHeartbeats 8000000 in
set_option maxRecDepth 100000 in
theorem cellarerlaw06_IndexOrder.calls (k : Nat) (A0 : Option Addr) (c0 : Nat) (l0 : List (S38)) (a1 : ByteArray) (A2 : Option Addr) (c2 : Nat) (l2 : List (S50)) (r : Bool) (w : World) (hr0 : Kd.C k38 w A0 l0.length l0) (hc0 : l0.length ≤ c0) (hr2 : Kd.C k50 w A2 l2.length l2) (hc2 : l2.length ≤ c2) (h : cellarerlaw06_IndexOrder.f k l0 a1 l2 = some r) :
    Calls Try.prog 5 #[.slice A0 l0.length c0, .string a1, .slice A2 l2.length c2] w fun e w' => e = .returned (.bool r) ∧ Below w.heap.size w w' := by
  have HR0 := Aside0.mk hr0
  have HC0 := Aside0.mk hc0
  clear hr0 hc0
  have HR2 := Aside0.mk hr2
  have HC2 := Aside0.mk hc2
  clear hr2 hc2
  have HB := Aside0.mk (Below.refl w.heap.size w)
  have H : ((cellarerlaw06_Few.f k l0).bind fun t229 => ((cellarerlaw01_Few.f a1).bind fun t232 => ((cellarerlaw05_Few.f k l2).bind fun t233 => ((index_Put.f t229 t232 t233).bind fun bt236 => (if bt236.2 = 0 then (cellarerlaw06_IndexOrder.j0 k t229 t232 t233 bt236.1 ((t233.length : Int) == 0)) else (cellarerlaw06_IndexOrder.j0 k t229 t232 t233 bt236.1 true)))))) = some r := h
  clear h
  replace H := Option.bind_eq_some_iff.mp H
  obtain ⟨t229, A40, H⟩ := H
  replace H : ((cellarerlaw01_Few.f a1).bind fun t232 => ((cellarerlaw05_Few.f k l2).bind fun t233 => ((index_Put.f t229 t232 t233).bind fun bt236 => (if bt236.2 = 0 then (cellarerlaw06_IndexOrder.j0 k t229 t232 t233 bt236.1 ((t233.length : Int) == 0)) else (cellarerlaw06_IndexOrder.j0 k t229 t232 t233 bt236.1 true))))) = some r := H
  have A4 := Aside0.mk A40
  clear A40
  replace H := Option.bind_eq_some_iff.mp H
  obtain ⟨t232, A50, H⟩ := H
  replace H : ((cellarerlaw05_Few.f k l2).bind fun t233 => ((index_Put.f t229 t232 t233).bind fun bt236 => (if bt236.2 = 0 then (cellarerlaw06_IndexOrder.j0 k t229 t232 t233 bt236.1 ((t233.length : Int) == 0)) else (cellarerlaw06_IndexOrder.j0 k t229 t232 t233 bt236.1 true)))) = some r := H
  have A5 := Aside0.mk A50
  clear A50
  replace H := Option.bind_eq_some_iff.mp H
  obtain ⟨t233, A60, H⟩ := H
  replace H : ((index_Put.f t229 t232 t233).bind fun bt236 => (if bt236.2 = 0 then (cellarerlaw06_IndexOrder.j0 k t229 t232 t233 bt236.1 ((t233.length : Int) == 0)) else (cellarerlaw06_IndexOrder.j0 k t229 t232 t233 bt236.1 true))) = some r := H
  have A6 := Aside0.mk A60
  clear A60
  replace H := Option.bind_eq_some_iff.mp H
  obtain ⟨⟨t236, t239⟩, A70, H⟩ := H
  replace H : (if t239 = 0 then (cellarerlaw06_IndexOrder.j0 k t229 t232 t233 t236 ((t233.length : Int) == 0)) else (cellarerlaw06_IndexOrder.j0 k t229 t232 t233 t236 true)) = some r := H
  have A7 := Aside0.mk A70
  clear A70
  have HC8 := Aside0.mk H
  clear H
  go_enter Try.func5, Try.ntmps5
  go_upto_region 3 with (first | ((with_reducible refine gate_callee (f := 9) rfl ?_); refine goesL_ (some 12) rfl rfl Try.func9 (by kernel_rfl) rfl #[.slice A0 l0.length c0] rfl (by (try simp only [List.map_toArray, List.map_cons, List.map_nil]); first | done | rfl | (simp only [List.length_drop, List.length_take]; rfl)) ?_; (with_reducible refine (cellarerlaw06_Few.calls k _ _ l0 t229 _ ?side1 ?side2 A4.out).mono ?_); (case side1 => repeat (first | exact HR0.out | (with_reducible refine Kd.C_alloc ?_ _) | (with_reducible refine Kd.C_drewN ?_ _) | (with_reducible refine Kd.C_drew ?_))); (case side2 => exact HC0.out); rintro e w9 ⟨v230, rfl, ho0, hb⟩; refine ⟨_, rfl, ?_⟩; have n0_ := Aside0.mk (Kd.S_lower ho0 (below_size (by repeat (first | (with_reducible first | exact HB.out | apply below_alloc | apply pw_below_drewN | apply below_drew1) | exact HB.out)))); have n1_ := Aside0.mk (below_step (by repeat (first | (with_reducible first | exact HB.out | apply below_alloc | apply pw_below_drewN | apply below_drew1) | exact HB.out)) hb); clear HB; have HO231 := n0_; have HB := n1_; clear n0_ n1_; (try clear hb); (try clear hb2); (try clear hk); (try clear hi); (try clear ho0)) | ((with_reducible refine gate_callee (f := 10) rfl ?_); refine goesL_ (some 14) rfl rfl Try.func10 (by kernel_rfl) rfl #[.string a1] rfl (by (try simp only [List.map_toArray, List.map_cons, List.map_nil]); first | done | rfl | (simp only [List.length_drop, List.length_take]; rfl)) ?_; (with_reducible refine (cellarerlaw01_Few.calls a1 t232 _ A5.out).mono ?_); rintro e w' ⟨rfl, ⟨nd, rfl⟩⟩; refine ⟨_, rfl, ?_⟩) | ((with_reducible refine gate_callee (f := 11) rfl ?_); refine goesL_ (some 16) rfl rfl Try.func11 (by kernel_rfl) rfl #[.slice A2 l2.length c2] rfl (by (try simp only [List.map_toArray, List.map_cons, List.map_nil]); first | done | rfl | (simp only [List.length_drop, List.length_take]; rfl)) ?_; (with_reducible refine (cellarerlaw05_Few.calls k _ _ l2 t233 _ ?side1 ?side2 A6.out).mono ?_); (case side1 => repeat (first | exact (Kd.C_below HR2.out (by repeat (first | (with_reducible first | exact HB.out | apply below_alloc | apply pw_below_drewN | apply below_drew1) | exact HB.out))) | (with_reducible refine Kd.C_alloc ?_ _) | (with_reducible refine Kd.C_drewN ?_ _) | (with_reducible refine Kd.C_drew ?_))); (case side2 => exact HC2.out); rintro e w10 ⟨v234, rfl, ho0, hb⟩; refine ⟨_, rfl, ?_⟩; have n0_ := Aside0.mk (Kd.S_elder' (by (with_reducible repeat (first | apply Kd.S_alloc | apply Kd.S_drewN | apply Kd.S_drew)); exact HO231.out) (Kd.R_base ho0) hb); have n1_ := Aside0.mk (Kd.R_lower ho0 (below_size (by repeat (first | (with_reducible first | exact HB.out | apply below_alloc | apply pw_below_drewN | apply below_drew1) | exact HB.out)))); have n2_ := Aside0.mk (below_step (by repeat (first | (with_reducible first | exact HB.out | apply below_alloc | apply pw_below_drewN | apply below_drew1) | exact HB.out)) hb); clear HO231; clear HB; have HO231 := n0_; have HO235 := n1_; have HB := n2_; clear n0_ n1_ n2_; (try clear hb); (try clear hb2); (try clear hk); (try clear hi); (try clear ho0); obtain ⟨Ao11, co11, eo11⟩ := Kd.S_slice HO231.out; subst eo11; obtain ⟨Ao12, co12, eo12⟩ := Kd.R_slice HO235.out; subst eo12) | ((with_reducible refine gate_callee (f := 12) rfl ?_); refine goesL_ (some 21) rfl rfl Try.func12 (by kernel_rfl) rfl #[.slice Ao11 t229.length co11, .string t232, .slice Ao12 t233.length co12] rfl (by (try simp only [List.map_toArray, List.map_cons, List.map_nil]); first | done | rfl | (simp only [List.length_drop, List.length_take]; rfl)) ?_; (with_reducible refine (index_Put.calls (fun k_ => (True ∧ some k_ ≠ (.slice Ao12 t233.length co12 : Value).ownBlock)) _ _ t229 t232 _ _ t233 t236 t239 _ ?side1 ?side2 ?side3 A7.out).mono ?_); (case side1 => exact Kd.S_V (HO231.out)); (case side2 => repeat (first | exact (Kd.R_reads' HO235.out).2.2 | (with_reducible refine Kd.C_alloc ?_ _) | (with_reducible refine Kd.C_drewN ?_ _) | (with_reducible refine Kd.C_drew ?_))); (case side3 => exact (Kd.R_reads' HO235.out).2.1); rintro e w13 ⟨v237, rfl, ho0, hb⟩; refine ⟨_, rfl, ?_⟩; have n0_ := Aside0.mk (Kd.S_below (by (with_reducible repeat (first | apply Kd.S_alloc | apply Kd.S_drewN | apply Kd.S_drew)); exact HO231.out) hb); have n1_ := Aside0.mk (Kd.R_below (by (with_reducible repeat (first | apply Kd.R_alloc | apply Kd.R_drewN | apply Kd.R_drew)); exact HO235.out) hb); have n2_ := Aside0.mk (Kd.V_lower (Kd.V_mono (ok' := fun k_ => some k_ ≠ (.slice Ao12 t233.length co12 : Value).ownBlock) ho0 (fun k_ hk_ => Or.elim hk_ (fun hs_ => hs_.2) (fun hn_ => (Kd.fresh' (Kd.R_lt (by (with_reducible repeat (first | apply Kd.R_alloc | apply Kd.R_drewN | apply Kd.R_drew)); exact HO235.out)) k_ hn_)))) (below_size (by repeat (first | (with_reducible first | exact HB.out | apply below_alloc | apply pw_below_drewN | apply below_drew1) | exact HB.out)))); have n3_ := Aside0.mk (below_step (by repeat (first | (with_reducible first | exact HB.out | apply below_alloc | apply pw_below_drewN | apply below_drew1) | exact HB.out)) hb); clear HO231; clear HO235; clear HB; have HO231 := n0_; have HO235 := n1_; have HO238 := n2_; have HB := n3_; clear n0_ n1_ n2_ n3_; (try clear hb); (try clear hb2); (try clear hk); (try clear hi); (try clear ho0)))
  (try simp only [Act.put, List.setIfInBounds_toArray, List.set_cons_zero, List.set_cons_succ])
  go_cut [30] (fun v30 wc => ∃ (kq : Nat) (x30_7 : Bool), v30 = .bool x30_7 ∧ Aside0 (cellarerlaw06_IndexOrder.j0 kq t229 t232 t233 t236 x30_7 = some r) ∧ Aside0 (kq ≤ k) ∧ Aside0 (Kd.S k38 38 wc w.heap.size (fun k_ => some k_ ≠ ((.slice Ao12 t233.length co12) : Value).ownBlock) (.slice Ao11 t229.length co11) t229) ∧ Aside0 (Kd.R k50 50 wc w.heap.size (fun _ => True) (.slice Ao12 t233.length co12) t233) ∧ Aside0 (Kd.V k38 38 wc w.heap.size (fun k_ => some k_ ≠ ((.slice Ao12 t233.length co12) : Value).ownBlock) v237 t236) ∧ Aside0 (Below w.heap.size w wc))
  case first =>
    have H := HC8.out
    clear HC8
    by_cases c14 : t239 = 0
    · rw [if_pos c14] at H
      have c14b0 : (t239 == 0) = true := beq_iff_eq.mpr c14
      have c14b1 : (t239 != 0) = false := bne_eq_false_iff_eq.mpr c14
      clear c14
      (first | rw [c14b0] | rw [c14b1] | (simp only [i64_w, i32_w]; rw [c14b0]) | skip)
      have H' := Aside0.mk H
      clear H
      go_wp2
      go_meet
      case rel => exact ⟨_, (((t233.length : Int) == 0)), (by first | rfl | (simp; done) | (simp [*]; done)), H', ⟨by first | omega | exact Nat.le_refl _⟩, ⟨by (with_reducible repeat (first | apply Kd.S_alloc | apply Kd.S_drewN | apply Kd.S_drew)); exact Kd.S_mono HO231.out (fun _ hk => hk.2)⟩, ⟨by (with_reducible repeat (first | apply Kd.R_alloc | apply Kd.R_drewN | apply Kd.R_drew)); exact HO235.out⟩, ⟨by (with_reducible repeat (first | apply Kd.V_alloc | apply Kd.V_drewN | apply Kd.V_drew)); exact HO238.out⟩, ⟨by repeat (first | (with_reducible first | exact HB.out | apply below_alloc | apply pw_below_drewN | apply below_drew1) | exact HB.out)⟩⟩
    · rw [if_neg c14] at H
      have c14b0 : (t239 == 0) = false := beq_eq_false_iff_ne.mpr c14
      have c14b1 : (t239 != 0) = true := bne_iff_ne.mpr c14
      (first | rw [c14b0] | rw [c14b1] | (simp only [i64_w, i32_w]; rw [c14b0]) | skip)
      have H' := Aside0.mk H
      clear H
      go_wp2
      go_meet
      case rel => exact ⟨_, (true), (by first | rfl | (simp; done) | (simp [*]; done)), H', ⟨by first | omega | exact Nat.le_refl _⟩, ⟨by (with_reducible repeat (first | apply Kd.S_alloc | apply Kd.S_drewN | apply Kd.S_drew)); exact Kd.S_mono HO231.out (fun _ hk => hk.2)⟩, ⟨by (with_reducible repeat (first | apply Kd.R_alloc | apply Kd.R_drewN | apply Kd.R_drew)); exact HO235.out⟩, ⟨by (with_reducible repeat (first | apply Kd.V_alloc | apply Kd.V_drewN | apply Kd.V_drew)); exact HO238.out⟩, ⟨by repeat (first | (with_reducible first | exact HB.out | apply below_alloc | apply pw_below_drewN | apply below_drew1) | exact HB.out)⟩⟩
  case rest =>
    clear HC8
    try clear c1
    try clear c2
    try clear p2
    try clear c5
    try clear c9
    try clear c10
    try clear c11
    try clear c12
    try clear c14
    try clear c14b0
    try clear c14b1
    obtain ⟨kq, x30_7, rfl, HA, HJ7, HO_0, HO_2, HO_7, HB⟩ := hcut
    cases kq with
    | zero => exact absurd HA.out (by simp [cellarerlaw06_IndexOrder.j0])
    | succ kj7 =>
      have H := HA.out
      clear HA
      simp only [cellarerlaw06_IndexOrder.j0] at H
      by_cases c15 : x30_7 = true
      · subst c15
        have H1 : ((cellarerlaw06_awake.f kj7).bind fun t240 => (some t240)) = some r := by rw [if_pos rfl] at H; exact H
        clear H
        have H := H1
        clear H1
        replace H := Option.bind_eq_some_iff.mp H
        obtain ⟨t240, A160, H⟩ := H
        replace H : (some t240) = some r := H
        have A16 := Aside0.mk A160
        clear A160
        obtain rfl := Option.some.inj H
        go_wp2_with (first | ((with_reducible refine gate_callee (f := 17) rfl ?_); refine goesL_ (some 31) rfl rfl Try.func17 (by kernel_rfl) rfl #[] rfl (by (try simp only [List.map_toArray, List.map_cons, List.map_nil]); first | done | rfl | (simp only [List.length_drop, List.length_take]; rfl)) ?_; (with_reducible refine (cellarerlaw06_awake.calls kj7  t240 _ A16.out).mono ?_); rintro e w17 ⟨rfl, hb⟩; refine ⟨_, rfl, ?_⟩; have n0_ := Aside0.mk (Kd.S_below (by (with_reducible repeat (first | apply Kd.S_alloc | apply Kd.S_drewN | apply Kd.S_drew)); exact HO_0.out) hb); have n1_ := Aside0.mk (Kd.R_below (by (with_reducible repeat (first | apply Kd.R_alloc | apply Kd.R_drewN | apply Kd.R_drew)); exact HO_2.out) hb); have n2_ := Aside0.mk (Kd.V_below (by (with_reducible repeat (first | apply Kd.V_alloc | apply Kd.V_drewN | apply Kd.V_drew)); exact HO_7.out) hb); have n3_ := Aside0.mk (below_step (by repeat (first | (with_reducible first | exact HB.out | apply below_alloc | apply pw_below_drewN | apply below_drew1) | exact HB.out)) hb); clear HO_0; clear HO_2; clear HO_7; clear HB; have HO_0 := n0_; have HO_2 := n1_; have HO_7 := n2_; have HB := n3_; clear n0_ n1_ n2_ n3_; (try clear hb); (try clear hb2); (try clear hk); (try clear hi)))
        go_ret
        exact ⟨by first | rfl | (simp [errW_none, errW_some] <;> rfl) | (simp [*, errW_none, errW_some] <;> rfl), by repeat (first | (with_reducible first | exact HB.out | apply below_alloc | apply pw_below_drewN | apply below_drew1) | exact HB.out)⟩
      · replace c15 := Bool.eq_false_iff.mpr c15
        subst c15
        have H1 : ((index_At.f kj7 t229 t232).bind fun t241 => ((index_At.f kj7 t236 t232).bind fun t242 => (if t241 = t242 then (if t241 < 0 then (cellarerlaw06_IndexOrder.j1 kj7 t236 true) else (if t241 ≥ (t236.length : Int) then (cellarerlaw06_IndexOrder.j1 kj7 t236 true) else (if 0 ≤ t241 then (if t241 < (t236.length : Int) then (if ((rd_T38 t236 t241).f0).toList = t232.toList then ((cellarerref05_Same.f kj7 ((rd_T38 t236 t241).f1) t233).bind fun t245 => (cellarerlaw06_IndexOrder.j1 kj7 t236 (!t245))) else (cellarerlaw06_IndexOrder.j1 kj7 t236 true)) else (none)) else (none)))) else (cellarerlaw06_IndexOrder.j1 kj7 t236 true)))) = some r := by rw [if_neg (show ¬ (false = true) by decide)] at H; exact H
        clear H
        have H := H1
        clear H1
        replace H := Option.bind_eq_some_iff.mp H
        obtain ⟨t241, A180, H⟩ := H
        replace H : ((index_At.f kj7 t236 t232).bind fun t242 => (if t241 = t242 then (if t241 < 0 then (cellarerlaw06_IndexOrder.j1 kj7 t236 true) else (if t241 ≥ (t236.length : Int) then (cellarerlaw06_IndexOrder.j1 kj7 t236 true) else (if 0 ≤ t241 then (if t241 < (t236.length : Int) then (if ((rd_T38 t236 t241).f0).toList = t232.toList then ((cellarerref05_Same.f kj7 ((rd_T38 t236 t241).f1) t233).bind fun t245 => (cellarerlaw06_IndexOrder.j1 kj7 t236 (!t245))) else (cellarerlaw06_IndexOrder.j1 kj7 t236 true)) else (none)) else (none)))) else (cellarerlaw06_IndexOrder.j1 kj7 t236 true))) = some r := H
        have A18 := Aside0.mk A180
        clear A180
        have HC19 := Aside0.mk H
        clear H
        go_upto_region 6 with (first | ((with_reducible refine gate_callee (f := 18) rfl ?_); refine goesL_ (some 34) rfl rfl Try.func18 (by kernel_rfl) rfl #[.slice Ao11 t229.length co11, .string t232] rfl (by (try simp only [List.map_toArray, List.map_cons, List.map_nil]); first | done | rfl | (simp only [List.length_drop, List.length_take]; rfl)) ?_; (with_reducible refine (index_At.calls kj7 _ _ t229 t232 t241 _ ?side1 ?side2 A18.out).mono ?_); (case side1 => repeat (first | exact (Kd.S_reads' HO_0.out).2.2 | (with_reducible refine Kd.C_alloc ?_ _) | (with_reducible refine Kd.C_drewN ?_ _) | (with_reducible refine Kd.C_drew ?_))); (case side2 => exact (Kd.S_reads' HO_0.out).2.1); rintro e w20 ⟨rfl, hb⟩; refine ⟨_, rfl, ?_⟩; have n0_ := Aside0.mk (Kd.S_below (by (with_reducible repeat (first | apply Kd.S_alloc | apply Kd.S_drewN | apply Kd.S_drew)); exact HO_0.out) hb); have n1_ := Aside0.mk (Kd.R_below (by (with_reducible repeat (first | apply Kd.R_alloc | apply Kd.R_drewN | apply Kd.R_drew)); exact HO_2.out) hb); have n2_ := Aside0.mk (Kd.V_below (by (with_reducible repeat (first | apply Kd.V_alloc | apply Kd.V_drewN | apply Kd.V_drew)); exact HO_7.out) hb); have n3_ := Aside0.mk (below_step (by repeat (first | (with_reducible first | exact HB.out | apply below_alloc | apply pw_below_drewN | apply below_drew1) | exact HB.out)) hb); clear HO_0; clear HO_2; clear HO_7; clear HB; have HO_0 := n0_; have HO_2 := n1_; have HO_7 := n2_; have HB := n3_; clear n0_ n1_ n2_ n3_; (try clear hb); (try clear hb2); (try clear hk); (try clear hi)))
        (try simp only [Act.put, List.setIfInBounds_toArray, List.set_cons_zero, List.set_cons_succ])
        go_cut [68] (fun v68 wc => ∃ (kq : Nat) (x68_18 : Bool), v68 = .bool x68_18 ∧ Aside0 (cellarerlaw06_IndexOrder.j1 kq t236 x68_18 = some r) ∧ Aside0 (kq ≤ kj7) ∧ Aside0 (Kd.V k38 38 wc w.heap.size (fun _ => True) v237 t236) ∧ Aside0 (Below w.heap.size w wc))
        case first =>
          have H := HC19.out
          clear HC19
          replace H := Option.bind_eq_some_iff.mp H
          obtain ⟨t242, A210, H⟩ := H
          replace H : (if t241 = t242 then (if t241 < 0 then (cellarerlaw06_IndexOrder.j1 kj7 t236 true) else (if t241 ≥ (t236.length : Int) then (cellarerlaw06_IndexOrder.j1 kj7 t236 true) else (if 0 ≤ t241 then (if t241 < (t236.length : Int) then (if ((rd_T38 t236 t241).f0).toList = t232.toList then ((cellarerref05_Same.f kj7 ((rd_T38 t236 t241).f1) t233).bind fun t245 => (cellarerlaw06_IndexOrder.j1 kj7 t236 (!t245))) else (cellarerlaw06_IndexOrder.j1 kj7 t236 true)) else (none)) else (none)))) else (cellarerlaw06_IndexOrder.j1 kj7 t236 true)) = some r := H
          have A21 := Aside0.mk A210
          clear A210
          by_cases c22 : t241 = t242
          · rw [if_pos c22] at H
            have c22b0 : (t241 == t242) = true := beq_iff_eq.mpr c22
            have c22b1 : (t241 != t242) = false := bne_eq_false_iff_eq.mpr c22
            clear c22
            (first | rw [c22b0] | rw [c22b1] | (simp only [i64_w, i32_w]; rw [c22b0]) | skip)
            by_cases c23 : t241 < 0
            · rw [if_pos c23] at H
              have c23b0 : decide (t241 < 0) = true := decide_eq_true c23
              clear c23
              have H' := Aside0.mk H
              clear H
              obtain ⟨Ao24, co24, eo24⟩ := Kd.V_slice HO_7.out
              subst eo24
              go_wp2_with (first | ((with_reducible refine gate_callee (f := 18) rfl ?_); refine goesL_ (some 38) rfl rfl Try.func18 (by kernel_rfl) rfl #[.slice Ao24 t236.length co24, .string t232] rfl (by (try simp only [List.map_toArray, List.map_cons, List.map_nil]); first | done | rfl | (simp only [List.length_drop, List.length_take]; rfl)) ?_; (with_reducible refine (index_At.calls kj7 _ _ t236 t232 t242 _ ?side1 ?side2 A21.out).mono ?_); (case side1 => repeat (first | exact (Kd.V_reads' HO_7.out).2.2 | (with_reducible refine Kd.C_alloc ?_ _) | (with_reducible refine Kd.C_drewN ?_ _) | (with_reducible refine Kd.C_drew ?_))); (case side2 => exact (Kd.V_reads' HO_7.out).2.1); rintro e w25 ⟨rfl, hb⟩; refine ⟨_, rfl, ?_⟩; have n0_ := Aside0.mk (Kd.S_below (by (with_reducible repeat (first | apply Kd.S_alloc | apply Kd.S_drewN | apply Kd.S_drew)); exact HO_0.out) hb); have n1_ := Aside0.mk (Kd.R_below (by (with_reducible repeat (first | apply Kd.R_alloc | apply Kd.R_drewN | apply Kd.R_drew)); exact HO_2.out) hb); have n2_ := Aside0.mk (Kd.V_below (by (with_reducible repeat (first | apply Kd.V_alloc | apply Kd.V_drewN | apply Kd.V_drew)); exact HO_7.out) hb); have n3_ := Aside0.mk (below_step (by repeat (first | (with_reducible first | exact HB.out | apply below_alloc | apply pw_below_drewN | apply below_drew1) | exact HB.out)) hb); clear HO_0; clear HO_2; clear HO_7; clear HB; have HO_0 := n0_; have HO_2 := n1_; have HO_7 := n2_; have HB := n3_; clear n0_ n1_ n2_ n3_; (try clear hb); (try clear hb2); (try clear hk); (try clear hi)))
              go_meet
              case rel => exact ⟨_, (true), (by first | rfl | (simp; done) | (simp [*]; done)), H', ⟨by have := HJ7.out; first | omega | exact Nat.le_refl _⟩, ⟨by (with_reducible repeat (first | apply Kd.V_alloc | apply Kd.V_drewN | apply Kd.V_drew)); exact Kd.V_mono HO_7.out (fun _ hk => trivial)⟩, ⟨by repeat (first | (with_reducible first | exact HB.out | apply below_alloc | apply pw_below_drewN | apply below_drew1) | exact HB.out)⟩⟩
            · rw [if_neg c23] at H
              have c23b0 : decide (t241 < 0) = false := decide_eq_false c23
              clear c23
              by_cases c26 : t241 ≥ (t236.length : Int)
              · rw [if_pos c26] at H
                have c26b0 : decide ((t236.length : Int) ≤ t241) = true := decide_eq_true c26
                clear c26
                have H' := Aside0.mk H
                clear H
                obtain ⟨Ao27, co27, eo27⟩ := Kd.V_slice HO_7.out
                subst eo27
                go_wp2_with (first | ((with_reducible refine gate_callee (f := 18) rfl ?_); refine goesL_ (some 38) rfl rfl Try.func18 (by kernel_rfl) rfl #[.slice Ao27 t236.length co27, .string t232] rfl (by (try simp only [List.map_toArray, List.map_cons, List.map_nil]); first | done | rfl | (simp only [List.length_drop, List.length_take]; rfl)) ?_; (with_reducible refine (index_At.calls kj7 _ _ t236 t232 t242 _ ?side1 ?side2 A21.out).mono ?_); (case side1 => repeat (first | exact (Kd.V_reads' HO_7.out).2.2 | (with_reducible refine Kd.C_alloc ?_ _) | (with_reducible refine Kd.C_drewN ?_ _) | (with_reducible refine Kd.C_drew ?_))); (case side2 => exact (Kd.V_reads' HO_7.out).2.1); rintro e w28 ⟨rfl, hb⟩; refine ⟨_, rfl, ?_⟩; have n0_ := Aside0.mk (Kd.S_below (by (with_reducible repeat (first | apply Kd.S_alloc | apply Kd.S_drewN | apply Kd.S_drew)); exact HO_0.out) hb); have n1_ := Aside0.mk (Kd.R_below (by (with_reducible repeat (first | apply Kd.R_alloc | apply Kd.R_drewN | apply Kd.R_drew)); exact HO_2.out) hb); have n2_ := Aside0.mk (Kd.V_below (by (with_reducible repeat (first | apply Kd.V_alloc | apply Kd.V_drewN | apply Kd.V_drew)); exact HO_7.out) hb); have n3_ := Aside0.mk (below_step (by repeat (first | (with_reducible first | exact HB.out | apply below_alloc | apply pw_below_drewN | apply below_drew1) | exact HB.out)) hb); clear HO_0; clear HO_2; clear HO_7; clear HB; have HO_0 := n0_; have HO_2 := n1_; have HO_7 := n2_; have HB := n3_; clear n0_ n1_ n2_ n3_; (try clear hb); (try clear hb2); (try clear hk); (try clear hi)))
                go_meet
                case rel => exact ⟨_, (true), (by first | rfl | (simp; done) | (simp [*]; done)), H', ⟨by have := HJ7.out; first | omega | exact Nat.le_refl _⟩, ⟨by (with_reducible repeat (first | apply Kd.V_alloc | apply Kd.V_drewN | apply Kd.V_drew)); exact Kd.V_mono HO_7.out (fun _ hk => trivial)⟩, ⟨by repeat (first | (with_reducible first | exact HB.out | apply below_alloc | apply pw_below_drewN | apply below_drew1) | exact HB.out)⟩⟩
              · rw [if_neg c26] at H
                have c26b0 : decide ((t236.length : Int) ≤ t241) = false := decide_eq_false c26
                clear c26
                by_cases c29 : 0 ≤ t241
                · rw [if_pos c29] at H
                  have c29b0 : decide (0 ≤ t241) = true := decide_eq_true c29
                  clear c29
                  by_cases c30 : t241 < (t236.length : Int)
                  · rw [if_pos c30] at H
                    have c30b0 : decide (t241 < (t236.length : Int)) = true := decide_eq_true c30
                    clear c30
                    by_cases c31 : ((rd_T38 t236 t241).f0).toList = t232.toList
                    · rw [if_pos c31] at H
                      have c31b0 : (((rd_T38 t236 t241).f0).toList == t232.toList) = true := beq_iff_eq.mpr c31
                      have c31b1 : (((rd_T38 t236 t241).f0).toList != t232.toList) = false := bne_eq_false_iff_eq.mpr c31
                      clear c31
                      replace H := Option.bind_eq_some_iff.mp H
                      obtain ⟨t245, A320, H⟩ := H
                      replace H : (cellarerlaw06_IndexOrder.j1 kj7 t236 (!t245)) = some r := H
                      have A32 := Aside0.mk A320
                      clear A320
                      have H' := Aside0.mk H
                      clear H
                      obtain ⟨Ao33, co33, eo33⟩ := Kd.V_slice HO_7.out
                      subst eo33
                      go_wp2_with (first | ((with_reducible refine gate_callee (f := 18) rfl ?_); refine goesL_ (some 38) rfl rfl Try.func18 (by kernel_rfl) rfl #[.slice Ao33 t236.length co33, .string t232] rfl (by (try simp only [List.map_toArray, List.map_cons, List.map_nil]); first | done | rfl | (simp only [List.length_drop, List.length_take]; rfl)) ?_; (with_reducible refine (index_At.calls kj7 _ _ t236 t232 t242 _ ?side1 ?side2 A21.out).mono ?_); (case side1 => repeat (first | exact (Kd.V_reads' HO_7.out).2.2 | (with_reducible refine Kd.C_alloc ?_ _) | (with_reducible refine Kd.C_drewN ?_ _) | (with_reducible refine Kd.C_drew ?_))); (case side2 => exact (Kd.V_reads' HO_7.out).2.1); rintro e w34 ⟨rfl, hb⟩; refine ⟨_, rfl, ?_⟩; have n0_ := Aside0.mk (Kd.S_below (by (with_reducible repeat (first | apply Kd.S_alloc | apply Kd.S_drewN | apply Kd.S_drew)); exact HO_0.out) hb); have n1_ := Aside0.mk (Kd.R_below (by (with_reducible repeat (first | apply Kd.R_alloc | apply Kd.R_drewN | apply Kd.R_drew)); exact HO_2.out) hb); have n2_ := Aside0.mk (Kd.V_below (by (with_reducible repeat (first | apply Kd.V_alloc | apply Kd.V_drewN | apply Kd.V_drew)); exact HO_7.out) hb); have n3_ := Aside0.mk (below_step (by repeat (first | (with_reducible first | exact HB.out | apply below_alloc | apply pw_below_drewN | apply below_drew1) | exact HB.out)) hb); clear HO_0; clear HO_2; clear HO_7; clear HB; have HO_0 := n0_; have HO_2 := n1_; have HO_7 := n2_; have HB := n3_; clear n0_ n1_ n2_ n3_; (try clear hb); (try clear hb2); (try clear hk); (try clear hi); have p243 : 0 ≤ (t241 : Int) := of_decide_eq_true (by first | (with_reducible assumption) | assumption); have q243 : t241 < (t236.length : Int) := of_decide_eq_true (by first | (with_reducible assumption) | assumption); obtain ⟨ad243, A243_1, c243_1, e243, hx243_0, hx243_1, hl243_1, hi243_1⟩ := at_T38 (Kd.V_reads' HO_7.out).2.2 t241 p243 q243; cases e243; obtain ⟨ce243, hce243, hMe243, hcc243⟩ := Kd.V_get HO_7.out z38 t241 p243 (by first | exact q243 | exact of_decide_eq_true (by first | (with_reducible assumption) | assumption) | (have e_ := (Kd.V_reads' HO_7.out).1; omega)); obtain ⟨ua243_1, uc243_1, rfl, ul243_1, ge243_1⟩ := k38_openF hMe243; have hv243_1 := hcc243 1 _ rfl; rw [add_field _ _ 1 (by omega)] at hv243_1; replace hv243_1 := Option.some.inj (hv243_1.symm.trans hx243_1); injection hv243_1 with hva_ hvn_ hvc_; rw [hva_] at ge243_1; rw [hvc_] at ul243_1; have HL243_1 := Aside0.mk (show Kd.V k50 50 _ w.heap.size _ _ ((rd_T38 t236 t241).f1) from Kd.V_mk ul243_1 ge243_1); clear hva_ hvn_ hvc_ ge243_1 ul243_1; clear hcc243 hce243; have HR243_1 := Aside0.mk hi243_1; have HC243_1 := Aside0.mk hl243_1; clear hi243_1 hl243_1; replace p243 := eq_true p243; replace q243 := eq_true q243; have p244 : 0 ≤ (t241 : Int) := of_decide_eq_true (by first | (with_reducible assumption) | assumption); have q244 : t241 < (t236.length : Int) := of_decide_eq_true (by first | (with_reducible assumption) | assumption); obtain ⟨ad244, A244_1, c244_1, e244, hx244_0, hx244_1, hl244_1, hi244_1⟩ := at_T38 (Kd.V_reads' HO_7.out).2.2 t241 p244 q244; obtain rfl : ad243 = ad244 := (by injection e244); obtain ⟨ce244, hce244, hMe244, hcc244⟩ := Kd.V_get HO_7.out z38 t241 p244 (by first | exact q244 | exact of_decide_eq_true (by first | (with_reducible assumption) | assumption) | (have e_ := (Kd.V_reads' HO_7.out).1; omega)); obtain ⟨ua244_1, uc244_1, rfl, ul244_1, ge244_1⟩ := k38_openF hMe244; have hv244_1 := hcc244 1 _ rfl; rw [add_field _ _ 1 (by omega)] at hv244_1; replace hv244_1 := Option.some.inj (hv244_1.symm.trans hx244_1); injection hv244_1 with hva_ hvn_ hvc_; rw [hva_] at ge244_1; rw [hvc_] at ul244_1; have HL244_1 := Aside0.mk (show Kd.V k50 50 _ w.heap.size _ _ ((rd_T38 t236 t241).f1) from Kd.V_mk ul244_1 ge244_1); clear hva_ hvn_ hvc_ ge244_1 ul244_1; clear hcc244 hce244; have HR244_1 := Aside0.mk hi244_1; have HC244_1 := Aside0.mk hl244_1; clear hi244_1 hl244_1; replace p244 := eq_true p244; replace q244 := eq_true q244; have ea_ := Option.some.inj (hx243_1.symm.trans hx244_1); injection ea_ with ea_ en_ ec_; subst ea_; subst ec_; clear en_) | (go_at_call 19; (with_reducible refine (cellarerref05_Same.calls kj7 _ _ ((rd_T38 t236 t241).f1) _ _ t233 t245 _ ?side1 ?side2 ?side3 ?side4 A32.out).mono ?_); (case side1 => repeat (first | exact (by repeat (first | (with_reducible exact HR244_1.out) | (with_reducible refine Kd.C_alloc ?_ _) | (with_reducible refine Kd.C_drewN ?_ _) | (with_reducible refine Kd.C_drew ?_) | exact HR244_1.out)) | (with_reducible refine Kd.C_alloc ?_ _) | (with_reducible refine Kd.C_drewN ?_ _) | (with_reducible refine Kd.C_drew ?_))); (case side2 => exact HC244_1.out); (case side3 => repeat (first | exact (Kd.R_reads' HO_2.out).2.2 | (with_reducible refine Kd.C_alloc ?_ _) | (with_reducible refine Kd.C_drewN ?_ _) | (with_reducible refine Kd.C_drew ?_))); (case side4 => exact (Kd.R_reads' HO_2.out).2.1); rintro e w' ⟨rfl, ⟨nd, rfl⟩⟩))
                      go_meet
                      case rel => exact ⟨_, (!t245), (by first | rfl | (simp; done) | (simp [*]; done)), H', ⟨by have := HJ7.out; first | omega | exact Nat.le_refl _⟩, ⟨by (with_reducible repeat (first | apply Kd.V_alloc | apply Kd.V_drewN | apply Kd.V_drew)); exact Kd.V_mono HO_7.out (fun _ hk => trivial)⟩, ⟨by repeat (first | (with_reducible first | exact HB.out | apply below_alloc | apply pw_below_drewN | apply below_drew1) | exact HB.out)⟩⟩
                    · rw [if_neg c31] at H
                      have c31b0 : (((rd_T38 t236 t241).f0).toList == t232.toList) = false := beq_eq_false_iff_ne.mpr c31
                      have c31b1 : (((rd_T38 t236 t241).f0).toList != t232.toList) = true := bne_iff_ne.mpr c31
                      have H' := Aside0.mk H
                      clear H
                      obtain ⟨Ao35, co35, eo35⟩ := Kd.V_slice HO_7.out
                      subst eo35
                      go_wp2_with (first | ((with_reducible refine gate_callee (f := 18) rfl ?_); refine goesL_ (some 38) rfl rfl Try.func18 (by kernel_rfl) rfl #[.slice Ao35 t236.length co35, .string t232] rfl (by (try simp only [List.map_toArray, List.map_cons, List.map_nil]); first | done | rfl | (simp only [List.length_drop, List.length_take]; rfl)) ?_; (with_reducible refine (index_At.calls kj7 _ _ t236 t232 t242 _ ?side1 ?side2 A21.out).mono ?_); (case side1 => repeat (first | exact (Kd.V_reads' HO_7.out).2.2 | (with_reducible refine Kd.C_alloc ?_ _) | (with_reducible refine Kd.C_drewN ?_ _) | (with_reducible refine Kd.C_drew ?_))); (case side2 => exact (Kd.V_reads' HO_7.out).2.1); rintro e w36 ⟨rfl, hb⟩; refine ⟨_, rfl, ?_⟩; have n0_ := Aside0.mk (Kd.S_below (by (with_reducible repeat (first | apply Kd.S_alloc | apply Kd.S_drewN | apply Kd.S_drew)); exact HO_0.out) hb); have n1_ := Aside0.mk (Kd.R_below (by (with_reducible repeat (first | apply Kd.R_alloc | apply Kd.R_drewN | apply Kd.R_drew)); exact HO_2.out) hb); have n2_ := Aside0.mk (Kd.V_below (by (with_reducible repeat (first | apply Kd.V_alloc | apply Kd.V_drewN | apply Kd.V_drew)); exact HO_7.out) hb); have n3_ := Aside0.mk (below_step (by repeat (first | (with_reducible first | exact HB.out | apply below_alloc | apply pw_below_drewN | apply below_drew1) | exact HB.out)) hb); clear HO_0; clear HO_2; clear HO_7; clear HB; have HO_0 := n0_; have HO_2 := n1_; have HO_7 := n2_; have HB := n3_; clear n0_ n1_ n2_ n3_; (try clear hb); (try clear hb2); (try clear hk); (try clear hi); have p243 : 0 ≤ (t241 : Int) := of_decide_eq_true (by first | (with_reducible assumption) | assumption); have q243 : t241 < (t236.length : Int) := of_decide_eq_true (by first | (with_reducible assumption) | assumption); obtain ⟨ad243, A243_1, c243_1, e243, hx243_0, hx243_1, hl243_1, hi243_1⟩ := at_T38 (Kd.V_reads' HO_7.out).2.2 t241 p243 q243; cases e243; obtain ⟨ce243, hce243, hMe243, hcc243⟩ := Kd.V_get HO_7.out z38 t241 p243 (by first | exact q243 | exact of_decide_eq_true (by first | (with_reducible assumption) | assumption) | (have e_ := (Kd.V_reads' HO_7.out).1; omega)); obtain ⟨ua243_1, uc243_1, rfl, ul243_1, ge243_1⟩ := k38_openF hMe243; have hv243_1 := hcc243 1 _ rfl; rw [add_field _ _ 1 (by omega)] at hv243_1; replace hv243_1 := Option.some.inj (hv243_1.symm.trans hx243_1); injection hv243_1 with hva_ hvn_ hvc_; rw [hva_] at ge243_1; rw [hvc_] at ul243_1; have HL243_1 := Aside0.mk (show Kd.V k50 50 _ w.heap.size _ _ ((rd_T38 t236 t241).f1) from Kd.V_mk ul243_1 ge243_1); clear hva_ hvn_ hvc_ ge243_1 ul243_1; clear hcc243 hce243; have HR243_1 := Aside0.mk hi243_1; have HC243_1 := Aside0.mk hl243_1; clear hi243_1 hl243_1; replace p243 := eq_true p243; replace q243 := eq_true q243))
                      go_meet
                      case rel => exact ⟨_, (true), (by first | rfl | (simp; done) | (simp [*]; done)), H', ⟨by have := HJ7.out; first | omega | exact Nat.le_refl _⟩, ⟨by (with_reducible repeat (first | apply Kd.V_alloc | apply Kd.V_drewN | apply Kd.V_drew)); exact Kd.V_mono HO_7.out (fun _ hk => trivial)⟩, ⟨by repeat (first | (with_reducible first | exact HB.out | apply below_alloc | apply pw_below_drewN | apply below_drew1) | exact HB.out)⟩⟩
                  · rw [if_neg c30] at H
                    exact absurd H (by simp)
                · rw [if_neg c29] at H
                  exact absurd H (by simp)
          · rw [if_neg c22] at H
            have c22b0 : (t241 == t242) = false := beq_eq_false_iff_ne.mpr c22
            have c22b1 : (t241 != t242) = true := bne_iff_ne.mpr c22
            (first | rw [c22b0] | rw [c22b1] | (simp only [i64_w, i32_w]; rw [c22b0]) | skip)
            have H' := Aside0.mk H
            clear H
            obtain ⟨Ao37, co37, eo37⟩ := Kd.V_slice HO_7.out
            subst eo37
            go_wp2_with (first | ((with_reducible refine gate_callee (f := 18) rfl ?_); refine goesL_ (some 38) rfl rfl Try.func18 (by kernel_rfl) rfl #[.slice Ao37 t236.length co37, .string t232] rfl (by (try simp only [List.map_toArray, List.map_cons, List.map_nil]); first | done | rfl | (simp only [List.length_drop, List.length_take]; rfl)) ?_; (with_reducible refine (index_At.calls kj7 _ _ t236 t232 t242 _ ?side1 ?side2 A21.out).mono ?_); (case side1 => repeat (first | exact (Kd.V_reads' HO_7.out).2.2 | (with_reducible refine Kd.C_alloc ?_ _) | (with_reducible refine Kd.C_drewN ?_ _) | (with_reducible refine Kd.C_drew ?_))); (case side2 => exact (Kd.V_reads' HO_7.out).2.1); rintro e w38 ⟨rfl, hb⟩; refine ⟨_, rfl, ?_⟩; have n0_ := Aside0.mk (Kd.S_below (by (with_reducible repeat (first | apply Kd.S_alloc | apply Kd.S_drewN | apply Kd.S_drew)); exact HO_0.out) hb); have n1_ := Aside0.mk (Kd.R_below (by (with_reducible repeat (first | apply Kd.R_alloc | apply Kd.R_drewN | apply Kd.R_drew)); exact HO_2.out) hb); have n2_ := Aside0.mk (Kd.V_below (by (with_reducible repeat (first | apply Kd.V_alloc | apply Kd.V_drewN | apply Kd.V_drew)); exact HO_7.out) hb); have n3_ := Aside0.mk (below_step (by repeat (first | (with_reducible first | exact HB.out | apply below_alloc | apply pw_below_drewN | apply below_drew1) | exact HB.out)) hb); clear HO_0; clear HO_2; clear HO_7; clear HB; have HO_0 := n0_; have HO_2 := n1_; have HO_7 := n2_; have HB := n3_; clear n0_ n1_ n2_ n3_; (try clear hb); (try clear hb2); (try clear hk); (try clear hi)))
            go_meet
            case rel => exact ⟨_, (true), (by first | rfl | (simp; done) | (simp [*]; done)), H', ⟨by have := HJ7.out; first | omega | exact Nat.le_refl _⟩, ⟨by (with_reducible repeat (first | apply Kd.V_alloc | apply Kd.V_drewN | apply Kd.V_drew)); exact Kd.V_mono HO_7.out (fun _ hk => trivial)⟩, ⟨by repeat (first | (with_reducible first | exact HB.out | apply below_alloc | apply pw_below_drewN | apply below_drew1) | exact HB.out)⟩⟩
        case rest =>
          clear HC19
          try clear c1
          try clear c2
          try clear p2
          try clear q2
          try clear hx2
          try clear c3
          try clear c5
          try clear c9
          try clear c10
          try clear c11
          try clear c12
          try clear c14
          try clear c14b0
          try clear c14b1
          try clear c15
          try clear c17
          try clear c18
          try clear c22
          try clear c22b0
          try clear c22b1
          try clear c23
          try clear c23b0
          try clear c24
          try clear p24
          try clear q24
          try clear hx24
          try clear c26
          try clear c26b0
          try clear c29
          try clear c29b0
          try clear c30
          try clear c30b0
          try clear c31
          try clear c31b0
          try clear c31b1
          try clear hx243_0
          try clear hx243_1
          try clear hx244_0
          try clear hx244_1
          try clear p2
          try clear p243
          try clear p244
          try clear q243
          try clear q244
          obtain ⟨kq, x68_18, rfl, HA, HJ18, HO_7, HB⟩ := hcut
          cases kq with
          | zero => exact absurd HA.out (by simp [cellarerlaw06_IndexOrder.j1])
          | succ kj18 =>
            have H := HA.out
            clear HA
            simp only [cellarerlaw06_IndexOrder.j1] at H
            by_cases c39 : x68_18 = true
            · subst c39
              have H1 : (some false) = some r := by rw [if_pos rfl] at H; exact H
              clear H
              have H := H1
              clear H1
              obtain rfl := Option.some.inj H
              go_wp2
              go_ret
              exact ⟨by first | rfl | (simp [errW_none, errW_some] <;> rfl) | (simp [*, errW_none, errW_some] <;> rfl), by repeat (first | (with_reducible first | exact HB.out | apply below_alloc | apply pw_below_drewN | apply below_drew1) | exact HB.out)⟩
            · replace c39 := Bool.eq_false_iff.mpr c39
              subst c39
              have H1 : (cellarerlaw06_IndexOrder.l0 kj18 t236 0) = some r := by rw [if_neg (show ¬ (false = true) by decide)] at H; exact H
              clear H
              have H := H1
              clear H1
              have H' := Aside0.mk H
              clear H
              go_wp2
              go_loopg [10] kj18 (fun kq v10 w' => ∃ (x10_3 : Int), v10 = .int .i64 x10_3 ∧ Aside0 (cellarerlaw06_IndexOrder.l0 kq t236 x10_3 = some r) ∧ Aside0 (kq ≤ kj18) ∧ Aside0 (Kd.V k38 38 w' w.heap.size (fun _ => True) v237 t236) ∧ Aside0 (Below w.heap.size w w'))
              case atStart => exact ⟨(0), (by first | rfl | (simp; done) | (simp [*]; done)), H', ⟨Nat.le_refl _⟩, ⟨by (with_reducible repeat (first | apply Kd.V_alloc | apply Kd.V_drewN | apply Kd.V_drew)); exact HO_7.out⟩, ⟨by repeat (first | (with_reducible first | exact HB.out | apply below_alloc | apply pw_below_drewN | apply below_drew1) | exact HB.out)⟩⟩
              case round =>
                clear H'
                try clear c1
                try clear c2
                try clear p2
                try clear q2
                try clear hx2
                try clear c3
                try clear c5
                try clear c9
                try clear c10
                try clear c11
                try clear c12
                try clear c14
                try clear c14b0
                try clear c14b1
                try clear c15
                try clear c17
                try clear c18
                try clear c22
                try clear c22b0
                try clear c22b1
                try clear c23
                try clear c23b0
                try clear c24
                try clear p24
                try clear q24
                try clear hx24
                try clear c26
                try clear c26b0
                try clear c29
                try clear c29b0
                try clear c30
                try clear c30b0
                try clear c31
                try clear c31b0
                try clear c31b1
                try clear c39
                try clear hx243_0
                try clear hx243_1
                try clear hx244_0
                try clear hx244_1
                try clear p2
                try clear p24
                try clear p243
                try clear p244
                try clear q2
                try clear q24
                try clear q243
                try clear q244
                obtain ⟨x10_3, rfl, HA, HK3, HO_7, HB⟩ := hrel
                cases gk with
                | zero => exact absurd HA.out (by simp [cellarerlaw06_IndexOrder.l0])
                | succ k3 =>
                  have H := HA.out
                  clear HA
                  simp only [cellarerlaw06_IndexOrder.l0] at H
                  by_cases c40 : x10_3 < (t236.length : Int)
                  · rw [if_pos c40] at H
                    have c40b0 : decide (x10_3 < (t236.length : Int)) = true := decide_eq_true c40
                    clear c40
                    by_cases c41 : 0 ≤ x10_3
                    · rw [if_pos c41] at H
                      have c41b0 : decide (0 ≤ x10_3) = true := decide_eq_true c41
                      clear c41
                      replace H := Option.bind_eq_some_iff.mp H
                      obtain ⟨t248, A420, H⟩ := H
                      replace H : (if t248 = x10_3 then (cellarerlaw06_IndexOrder.l0 k3 t236 (wrap64 (x10_3 + 1))) else (some false)) = some r := H
                      have A42 := Aside0.mk A420
                      clear A420
                      by_cases c43 : t248 = x10_3
                      · rw [if_pos c43] at H
                        have c43b0 : (t248 == x10_3) = true := beq_iff_eq.mpr c43
                        have c43b1 : (t248 != x10_3) = false := bne_eq_false_iff_eq.mpr c43
                        clear c43
                        have H' := Aside0.mk H
                        clear H
                        obtain ⟨Ao44, co44, eo44⟩ := Kd.V_slice HO_7.out
                        subst eo44
                        have p247 : 0 ≤ (x10_3 : Int) := of_decide_eq_true (by first | (with_reducible assumption) | assumption)
                        have q247 : x10_3 < (t236.length : Int) := of_decide_eq_true (by first | (with_reducible assumption) | assumption)
                        obtain ⟨ad247, A247_1, c247_1, e247, hx247_0, hx247_1, hl247_1, hi247_1⟩ := at_T38 (Kd.V_reads' HO_7.out).2.2 x10_3 p247 q247
                        cases e247
                        obtain ⟨ce247, hce247, hMe247, hcc247⟩ := Kd.V_get HO_7.out z38 x10_3 p247 (by first | exact q247 | exact of_decide_eq_true (by first | (with_reducible assumption) | assumption) | (have e_ := (Kd.V_reads' HO_7.out).1; omega))
                        obtain ⟨ua247_1, uc247_1, rfl, ul247_1, ge247_1⟩ := k38_openF hMe247
                        have hv247_1 := hcc247 1 _ rfl
                        rw [add_field _ _ 1 (by omega)] at hv247_1
                        replace hv247_1 := Option.some.inj (hv247_1.symm.trans hx247_1)
                        injection hv247_1 with hva_ hvn_ hvc_
                        rw [hva_] at ge247_1
                        rw [hvc_] at ul247_1
                        have HL247_1 := Aside0.mk (show Kd.V k50 50 _ w.heap.size _ _ ((rd_T38 t236 x10_3).f1) from Kd.V_mk ul247_1 ge247_1)
                        clear hva_ hvn_ hvc_ ge247_1 ul247_1
                        clear hcc247 hce247
                        have HR247_1 := Aside0.mk hi247_1
                        have HC247_1 := Aside0.mk hl247_1
                        clear hi247_1 hl247_1
                        replace p247 := eq_true p247
                        replace q247 := eq_true q247
                        go_wp2_with (first | ((with_reducible refine gate_callee (f := 18) rfl ?_); refine goesL_ (some 81) rfl rfl Try.func18 (by kernel_rfl) rfl #[.slice (some ad247) t236.length co44, .string ((rd_T38 t236 x10_3).f0)] rfl (by (try simp only [List.map_toArray, List.map_cons, List.map_nil]); first | done | rfl | (simp only [List.length_drop, List.length_take]; rfl)) ?_; (with_reducible refine (index_At.calls k3 _ _ t236 ((rd_T38 t236 x10_3).f0) t248 _ ?side1 ?side2 A42.out).mono ?_); (case side1 => repeat (first | exact (Kd.V_reads' HO_7.out).2.2 | (with_reducible refine Kd.C_alloc ?_ _) | (with_reducible refine Kd.C_drewN ?_ _) | (with_reducible refine Kd.C_drew ?_))); (case side2 => exact (Kd.V_reads' HO_7.out).2.1); rintro e w45 ⟨rfl, hb⟩; refine ⟨_, rfl, ?_⟩; have n0_ := Aside0.mk (Kd.V_below (by (with_reducible repeat (first | apply Kd.V_alloc | apply Kd.V_drewN | apply Kd.V_drew)); exact HO_7.out) hb); have n1_ := Aside0.mk (Kd.V_below (by (with_reducible repeat (first | apply Kd.V_alloc | apply Kd.V_drewN | apply Kd.V_drew)); exact HL247_1.out) hb); have n2_ := Aside0.mk (Kd.C_below (by repeat (first | (with_reducible exact HR247_1.out) | (with_reducible refine Kd.C_alloc ?_ _) | (with_reducible refine Kd.C_drewN ?_ _) | (with_reducible refine Kd.C_drew ?_) | exact HR247_1.out)) hb); have n3_ := Aside0.mk (below_step (by repeat (first | (with_reducible first | exact HB.out | apply below_alloc | apply pw_below_drewN | apply below_drew1) | exact HB.out)) hb); clear HO_7; clear HL247_1; clear HR247_1; clear HB; have HO_7 := n0_; have HL247_1 := n1_; have HR247_1 := n2_; have HB := n3_; clear n0_ n1_ n2_ n3_; (try clear hb); (try clear hb2); (try clear hk); (try clear hi)))
                        go_roundg k3
                        case measure => have := HJ7.out; have := HJ18.out; have := HK3.out; omega
                        case rel => exact ⟨(wrap64 (x10_3 + 1)), (by first | rfl | (simp; done) | (simp [*]; done)), H', ⟨by have := HJ7.out; have := HJ18.out; have := HK3.out; omega⟩, ⟨by (with_reducible repeat (first | apply Kd.V_alloc | apply Kd.V_drewN | apply Kd.V_drew)); exact HO_7.out⟩, ⟨by repeat (first | (with_reducible first | exact HB.out | apply below_alloc | apply pw_below_drewN | apply below_drew1) | exact HB.out)⟩⟩
                      · rw [if_neg c43] at H
                        have c43b0 : (t248 == x10_3) = false := beq_eq_false_iff_ne.mpr c43
                        have c43b1 : (t248 != x10_3) = true := bne_iff_ne.mpr c43
                        obtain rfl := Option.some.inj H
                        obtain ⟨Ao46, co46, eo46⟩ := Kd.V_slice HO_7.out
                        subst eo46
                        have p247 : 0 ≤ (x10_3 : Int) := of_decide_eq_true (by first | (with_reducible assumption) | assumption)
                        have q247 : x10_3 < (t236.length : Int) := of_decide_eq_true (by first | (with_reducible assumption) | assumption)
                        obtain ⟨ad247, A247_1, c247_1, e247, hx247_0, hx247_1, hl247_1, hi247_1⟩ := at_T38 (Kd.V_reads' HO_7.out).2.2 x10_3 p247 q247
                        cases e247
                        obtain ⟨ce247, hce247, hMe247, hcc247⟩ := Kd.V_get HO_7.out z38 x10_3 p247 (by first | exact q247 | exact of_decide_eq_true (by first | (with_reducible assumption) | assumption) | (have e_ := (Kd.V_reads' HO_7.out).1; omega))
                        obtain ⟨ua247_1, uc247_1, rfl, ul247_1, ge247_1⟩ := k38_openF hMe247
                        have hv247_1 := hcc247 1 _ rfl
                        rw [add_field _ _ 1 (by omega)] at hv247_1
                        replace hv247_1 := Option.some.inj (hv247_1.symm.trans hx247_1)
                        injection hv247_1 with hva_ hvn_ hvc_
                        rw [hva_] at ge247_1
                        rw [hvc_] at ul247_1
                        have HL247_1 := Aside0.mk (show Kd.V k50 50 _ w.heap.size _ _ ((rd_T38 t236 x10_3).f1) from Kd.V_mk ul247_1 ge247_1)
                        clear hva_ hvn_ hvc_ ge247_1 ul247_1
                        clear hcc247 hce247
                        have HR247_1 := Aside0.mk hi247_1
                        have HC247_1 := Aside0.mk hl247_1
                        clear hi247_1 hl247_1
                        replace p247 := eq_true p247
                        replace q247 := eq_true q247
                        go_wp2_with (first | ((with_reducible refine gate_callee (f := 18) rfl ?_); refine goesL_ (some 81) rfl rfl Try.func18 (by kernel_rfl) rfl #[.slice (some ad247) t236.length co46, .string ((rd_T38 t236 x10_3).f0)] rfl (by (try simp only [List.map_toArray, List.map_cons, List.map_nil]); first | done | rfl | (simp only [List.length_drop, List.length_take]; rfl)) ?_; (with_reducible refine (index_At.calls k3 _ _ t236 ((rd_T38 t236 x10_3).f0) t248 _ ?side1 ?side2 A42.out).mono ?_); (case side1 => repeat (first | exact (Kd.V_reads' HO_7.out).2.2 | (with_reducible refine Kd.C_alloc ?_ _) | (with_reducible refine Kd.C_drewN ?_ _) | (with_reducible refine Kd.C_drew ?_))); (case side2 => exact (Kd.V_reads' HO_7.out).2.1); rintro e w47 ⟨rfl, hb⟩; refine ⟨_, rfl, ?_⟩; have n0_ := Aside0.mk (Kd.V_below (by (with_reducible repeat (first | apply Kd.V_alloc | apply Kd.V_drewN | apply Kd.V_drew)); exact HO_7.out) hb); have n1_ := Aside0.mk (Kd.V_below (by (with_reducible repeat (first | apply Kd.V_alloc | apply Kd.V_drewN | apply Kd.V_drew)); exact HL247_1.out) hb); have n2_ := Aside0.mk (Kd.C_below (by repeat (first | (with_reducible exact HR247_1.out) | (with_reducible refine Kd.C_alloc ?_ _) | (with_reducible refine Kd.C_drewN ?_ _) | (with_reducible refine Kd.C_drew ?_) | exact HR247_1.out)) hb); have n3_ := Aside0.mk (below_step (by repeat (first | (with_reducible first | exact HB.out | apply below_alloc | apply pw_below_drewN | apply below_drew1) | exact HB.out)) hb); clear HO_7; clear HL247_1; clear HR247_1; clear HB; have HO_7 := n0_; have HL247_1 := n1_; have HR247_1 := n2_; have HB := n3_; clear n0_ n1_ n2_ n3_; (try clear hb); (try clear hb2); (try clear hk); (try clear hi)))
                        go_ret
                        exact ⟨by first | rfl | (simp [errW_none, errW_some] <;> rfl) | (simp [*, errW_none, errW_some] <;> rfl), by repeat (first | (with_reducible first | exact HB.out | apply below_alloc | apply pw_below_drewN | apply below_drew1) | exact HB.out)⟩
                    · rw [if_neg c41] at H
                      exact absurd H (by simp)
                  · rw [if_neg c40] at H
                    have c40b0 : decide (x10_3 < (t236.length : Int)) = false := decide_eq_false c40
                    clear c40
                    replace H := Option.bind_eq_some_iff.mp H
                    obtain ⟨t246, A480, H⟩ := H
                    replace H : (some t246) = some r := H
                    have A48 := Aside0.mk A480
                    clear A480
                    obtain rfl := Option.some.inj H
                    obtain ⟨Ao49, co49, eo49⟩ := Kd.V_slice HO_7.out
                    subst eo49
                    go_wp2_with (first | ((with_reducible refine gate_callee (f := 17) rfl ?_); refine goesL_ (some 84) rfl rfl Try.func17 (by kernel_rfl) rfl #[] rfl (by (try simp only [List.map_toArray, List.map_cons, List.map_nil]); first | done | rfl | (simp only [List.length_drop, List.length_take]; rfl)) ?_; (with_reducible refine (cellarerlaw06_awake.calls k3  t246 _ A48.out).mono ?_); rintro e w50 ⟨rfl, hb⟩; refine ⟨_, rfl, ?_⟩; have n0_ := Aside0.mk (Kd.V_below (by (with_reducible repeat (first | apply Kd.V_alloc | apply Kd.V_drewN | apply Kd.V_drew)); exact HO_7.out) hb); have n1_ := Aside0.mk (below_step (by repeat (first | (with_reducible first | exact HB.out | apply below_alloc | apply pw_below_drewN | apply below_drew1) | exact HB.out)) hb); clear HO_7; clear HB; have HO_7 := n0_; have HB := n1_; clear n0_ n1_; (try clear hb); (try clear hb2); (try clear hk); (try clear hi)))
                    go_ret
                    exact ⟨by first | rfl | (simp [errW_none, errW_some] <;> rfl) | (simp [*, errW_none, errW_some] <;> rfl), by repeat (first | (with_reducible first | exact HB.out | apply below_alloc | apply pw_below_drewN | apply below_drew1) | exact HB.out)⟩

/-- THE ONE PURE STATEMENT of cellarerlaw06_IndexOrder. -/
-- GIVEN cellarerlaw06_IndexOrder.Pure
def cellarerlaw06_IndexOrder.Pure : Prop := ∀ (l0 : List (S38)) (a1 : ByteArray) (l2 : List (S50)), (l0.length ≤ maxLen ∧ ∀ y1_ ∈ l0, okS38 y1_) → a1.size ≤ maxLen → (l2.length ≤ maxLen ∧ ∀ y1_ ∈ l2, okS50 y1_) → ∃ k, cellarerlaw06_IndexOrder.f k l0 a1 l2 = some true

end Go.Proofs.Ytgolfeglabmkkaa.P
