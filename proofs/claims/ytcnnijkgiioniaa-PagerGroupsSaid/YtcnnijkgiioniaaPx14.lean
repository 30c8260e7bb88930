/- Printed by a program of this session (wip/tools/gprint.py, over the kit's print) out of the translation: functions and their contracts. -/
import Derived.Test.YtcnnijkgiioniaaPx0
import Derived.Test.YtcnnijkgiioniaaPx2
import Derived.Test.YtcnnijkgiioniaaPx5
import Derived.Test.YtcnnijkgiioniaaPx9
import Derived.Test.YtcnnijkgiioniaaPx10
import Derived.Test.YtcnnijkgiioniaaPxOpens
namespace Go.Proofs.Ytcnnijkgiioniaa.P
open Go.RowKit Go.Proofs.YtcnnijkgiioniaaW.PrintWords Go.Proofs.YtcnnijkgiioniaaW.PrintLast Go.Proofs.YtcnnijkgiioniaaW.PrintMore
attribute [local go_sem] max2_int min2_int max_two min_two max_three min_three max_four min_four   -- for this text's walks alone
set_option linter.unusedVariables false
set_option linter.unusedSimpArgs false

/-! ### cellarerlaw07_PagerGroups: function 6 -/
mutual
def cellarerlaw07_PagerGroups.l0 : Nat → List (S50) → ByteArray → ByteArray → List ByteArray → Int → Option (Bool)
  | 0, _, _, _, _, _ => none
  | k + 1, x0, x1, x2, x7, x9 => if x9 < (x7.length : Int) then (if 0 ≤ x9 then ((cellarerref01_Under.f (rdOf ByteArray.empty x7 x9) x1).bind fun t353 => (if t353 = true then (if (rdOf ByteArray.empty x7 x9).toList = ([] : List UInt8) then (cellarerlaw07_PagerGroups.j1 k x0 x1 x2 x7 x9 (rdOf ByteArray.empty x7 x9) true) else (if x9 > 0 then (if 0 ≤ (wrap64 (x9 - 1)) then (if (wrap64 (x9 - 1)) < (x7.length : Int) then (cellarerlaw07_PagerGroups.j1 k x0 x1 x2 x7 x9 (rdOf ByteArray.empty x7 x9) (!(Op.bytesLess ((rdOf ByteArray.empty x7 (wrap64 (x9 - 1))).toList) ((rdOf ByteArray.empty x7 x9).toList)))) else (none)) else (none)) else (cellarerlaw07_PagerGroups.j1 k x0 x1 x2 x7 x9 (rdOf ByteArray.empty x7 x9) false))) else (cellarerlaw07_PagerGroups.j1 k x0 x1 x2 x7 x9 (rdOf ByteArray.empty x7 x9) true))) else (none)) else ((cellarerlaw07_awake.f).bind fun t351 => (some t351))
def cellarerlaw07_PagerGroups.j1 : Nat → List (S50) → ByteArray → ByteArray → List ByteArray → Int → ByteArray → Bool → Option (Bool)
  | 0, _, _, _, _, _, _, _ => none
  | k + 1, x0, x1, x2, x7, x9, x10, x61 => if x61 = true then (some false) else (cellarerlaw07_PagerGroups.l1 k x0 x1 x2 x7 x9 x10 false 0)
def cellarerlaw07_PagerGroups.l1 : Nat → List (S50) → ByteArray → ByteArray → List ByteArray → Int → ByteArray → Bool → Int → Option (Bool)
  | 0, _, _, _, _, _, _, _, _ => none
  | k + 1, x0, x1, x2, x7, x9, x10, x11, x12 => if x12 < (x0.length : Int) then (if x11 = true then (cellarerlaw07_PagerGroups.l1 k x0 x1 x2 x7 x9 x10 true (wrap64 (x12 + 1))) else (if 0 ≤ x12 then (if ((rd_T50 x0 x12).f0).toList = x10.toList then (cellarerlaw07_PagerGroups.l1 k x0 x1 x2 x7 x9 x10 true (wrap64 (x12 + 1))) else ((cellarerref01_Under.f ((rd_T50 x0 x12).f0) x10).bind fun t357 => (if t357 = true then (if 0 ≤ (wrap64 ((x10.size : Int) - 1)) then (if (wrap64 ((x10.size : Int) - 1)) ≤ (x10.size : Int) then (cellarerlaw07_PagerGroups.l1 k x0 x1 x2 x7 x9 x10 ((x10.extract ((wrap64 ((x10.size : Int) - 1)) : Int).toNat x10.size).toList == x2.toList) (wrap64 (x12 + 1))) else (none)) else (none)) else (cellarerlaw07_PagerGroups.l1 k x0 x1 x2 x7 x9 x10 false (wrap64 (x12 + 1)))))) else (none))) else (if x11 = true then (if x2.toList = ([] : List UInt8) then (cellarerlaw07_PagerGroups.j3 k x0 x1 x2 x7 x9 x10 false) else (if 0 ≤ (wrap64 ((x10.size : Int) - 1)) then (if (wrap64 ((x10.size : Int) - 1)) ≤ (x10.size : Int) then (cellarerlaw07_PagerGroups.j3 k x0 x1 x2 x7 x9 x10 ((x10.extract ((wrap64 ((x10.size : Int) - 1)) : Int).toNat x10.size).toList == x2.toList)) else (none)) else (none))) else (some false))
def cellarerlaw07_PagerGroups.j3 : Nat → List (S50) → ByteArray → ByteArray → List ByteArray → Int → ByteArray → Bool → Option (Bool)
  | 0, _, _, _, _, _, _, _ => none
  | k + 1, x0, x1, x2, x7, x9, x10, x108 => if x108 = true then ((pager_Things.f k x0 x10 x2).bind fun bt358 => (if bt358.2 = 0 then (if (bt358.1.length : Int) < 1 then (some false) else (cellarerlaw07_PagerGroups.l0 k x0 x1 x2 x7 (wrap64 (x9 + 1)))) else (some false))) else (cellarerlaw07_PagerGroups.l0 k x0 x1 x2 x7 (wrap64 (x9 + 1)))
end
def cellarerlaw07_PagerGroups.f (k : Nat) (l0 : List (S50)) (a1 : ByteArray) (a2 : ByteArray) : Option (Bool) := (cellarerlaw06_Few.f k l0).bind fun t341 => ((cellarerlaw01_Few.f a1).bind fun t344 => ((cellarerlaw01_Few.f a2).bind fun t345 => ((pager_Things.f k t341 t344 t345).bind fun bt346 => (if bt346.2 = 0 then (cellarerlaw07_PagerGroups.l0 k t341 t344 t345 bt346.1 0) else ((cellarerlaw07_awake.f).bind fun t350 => (some t350))))))
theorem cellarerlaw07_PagerGroups.mono_l : ∀ k, (∀ y0 y1 y2 y3 y4, LeO (cellarerlaw07_PagerGroups.l0 k y0 y1 y2 y3 y4) (cellarerlaw07_PagerGroups.l0 (k + 1) y0 y1 y2 y3 y4)) ∧ (∀ y0 y1 y2 y3 y4 y5 y6, LeO (cellarerlaw07_PagerGroups.j1 k y0 y1 y2 y3 y4 y5 y6) (cellarerlaw07_PagerGroups.j1 (k + 1) y0 y1 y2 y3 y4 y5 y6)) ∧ (∀ y0 y1 y2 y3 y4 y5 y6 y7, LeO (cellarerlaw07_PagerGroups.l1 k y0 y1 y2 y3 y4 y5 y6 y7) (cellarerlaw07_PagerGroups.l1 (k + 1) y0 y1 y2 y3 y4 y5 y6 y7)) ∧ (∀ y0 y1 y2 y3 y4 y5 y6, LeO (cellarerlaw07_PagerGroups.j3 k y0 y1 y2 y3 y4 y5 y6) (cellarerlaw07_PagerGroups.j3 (k + 1) y0 y1 y2 y3 y4 y5 y6))
  | 0 => ⟨fun _ _ _ _ _ r h => by simp [cellarerlaw07_PagerGroups.l0] at h, fun _ _ _ _ _ _ _ r h => by simp [cellarerlaw07_PagerGroups.j1] at h, fun _ _ _ _ _ _ _ _ r h => by simp [cellarerlaw07_PagerGroups.l1] at h, fun _ _ _ _ _ _ _ r h => by simp [cellarerlaw07_PagerGroups.j3] at h⟩
  | k + 1 => by
    obtain ⟨ih0, ih1, ih2, ih3⟩ := cellarerlaw07_PagerGroups.mono_l k
    refine ⟨?_, ?_, ?_, ?_⟩
    · intro y0 y1 y2 y3 y4
      unfold cellarerlaw07_PagerGroups.l0
      repeat' first
      | (with_reducible exact ih0 _ _ _ _ _)
      | (with_reducible exact ih1 _ _ _ _ _ _ _)
      | (with_reducible exact ih2 _ _ _ _ _ _ _ _)
      | (with_reducible exact ih3 _ _ _ _ _ _ _)
      | (with_reducible exact cellarerlaw06_Few.mono _ _)
      | (with_reducible exact pager_Things.mono _ _ _ _)
      | (with_reducible exact LeO.refl _)
      | (with_reducible exact LeO.none _)
      | (with_reducible refine LeO.ite ?_ ?_)
      | (with_reducible refine LeO.bind ?_ (fun _ => ?_))
      | exact ih0 _ _ _ _ _
      | exact ih1 _ _ _ _ _ _ _
      | exact ih2 _ _ _ _ _ _ _ _
      | exact ih3 _ _ _ _ _ _ _
      | exact cellarerlaw06_Few.mono _ _
      | exact pager_Things.mono _ _ _ _
      | exact LeO.none _
      | refine LeO.ite ?_ ?_
      | refine LeO.bind ?_ (fun _ => ?_)
    · intro y0 y1 y2 y3 y4 y5 y6
      unfold cellarerlaw07_PagerGroups.j1
      repeat' first
      | (with_reducible exact ih0 _ _ _ _ _)
      | (with_reducible exact ih1 _ _ _ _ _ _ _)
      | (with_reducible exact ih2 _ _ _ _ _ _ _ _)
      | (with_reducible exact ih3 _ _ _ _ _ _ _)
      | (with_reducible exact cellarerlaw06_Few.mono _ _)
      | (with_reducible exact pager_Things.mono _ _ _ _)
      | (with_reducible exact LeO.refl _)
      | (with_reducible exact LeO.none _)
      | (with_reducible refine LeO.ite ?_ ?_)
      | (with_reducible refine LeO.bind ?_ (fun _ => ?_))
      | exact ih0 _ _ _ _ _
      | exact ih1 _ _ _ _ _ _ _
      | exact ih2 _ _ _ _ _ _ _ _
      | exact ih3 _ _ _ _ _ _ _
      | exact cellarerlaw06_Few.mono _ _
      | exact pager_Things.mono _ _ _ _
      | exact LeO.none _
      | refine LeO.ite ?_ ?_
      | refine LeO.bind ?_ (fun _ => ?_)
    · intro y0 y1 y2 y3 y4 y5 y6 y7
      unfold cellarerlaw07_PagerGroups.l1
      repeat' first
      | (with_reducible exact ih0 _ _ _ _ _)
      | (with_reducible exact ih1 _ _ _ _ _ _ _)
      | (with_reducible exact ih2 _ _ _ _ _ _ _ _)
      | (with_reducible exact ih3 _ _ _ _ _ _ _)
      | (with_reducible exact cellarerlaw06_Few.mono _ _)
      | (with_reducible exact pager_Things.mono _ _ _ _)
      | (with_reducible exact LeO.refl _)
      | (with_reducible exact LeO.none _)
      | (with_reducible refine LeO.ite ?_ ?_)
      | (with_reducible refine LeO.bind ?_ (fun _ => ?_))
      | exact ih0 _ _ _ _ _
      | exact ih1 _ _ _ _ _ _ _
      | exact ih2 _ _ _ _ _ _ _ _
      | exact ih3 _ _ _ _ _ _ _
      | exact cellarerlaw06_Few.mono _ _
      | exact pager_Things.mono _ _ _ _
      | exact LeO.none _
      | refine LeO.ite ?_ ?_
      | refine LeO.bind ?_ (fun _ => ?_)
    · intro y0 y1 y2 y3 y4 y5 y6
      unfold cellarerlaw07_PagerGroups.j3
      repeat' first
      | (with_reducible exact ih0 _ _ _ _ _)
      | (with_reducible exact ih1 _ _ _ _ _ _ _)
      | (with_reducible exact ih2 _ _ _ _ _ _ _ _)
      | (with_reducible exact ih3 _ _ _ _ _ _ _)
      | (with_reducible exact cellarerlaw06_Few.mono _ _)
      | (with_reducible exact pager_Things.mono _ _ _ _)
      | (with_reducible exact LeO.refl _)
      | (with_reducible exact LeO.none _)
      | (with_reducible refine LeO.ite ?_ ?_)
      | (with_reducible refine LeO.bind ?_ (fun _ => ?_))
      | exact ih0 _ _ _ _ _
      | exact ih1 _ _ _ _ _ _ _
      | exact ih2 _ _ _ _ _ _ _ _
      | exact ih3 _ _ _ _ _ _ _
      | exact cellarerlaw06_Few.mono _ _
      | exact pager_Things.mono _ _ _ _
      | exact LeO.none _
      | refine LeO.ite ?_ ?_
      | refine LeO.bind ?_ (fun _ => ?_)
theorem cellarerlaw07_PagerGroups.mono : ∀ a0 a1 a2 k, LeO (cellarerlaw07_PagerGroups.f k a0 a1 a2) (cellarerlaw07_PagerGroups.f (k + 1) a0 a1 a2) := by
  intro a0 a1 a2 k
  obtain ⟨ih0, ih1, ih2, ih3⟩ := cellarerlaw07_PagerGroups.mono_l k
  unfold cellarerlaw07_PagerGroups.f
  repeat' first
      | (with_reducible exact ih0 _ _ _ _ _)
      | (with_reducible exact ih1 _ _ _ _ _ _ _)
      | (with_reducible exact ih2 _ _ _ _ _ _ _ _)
      | (with_reducible exact ih3 _ _ _ _ _ _ _)
      | (with_reducible exact cellarerlaw06_Few.mono _ _)
      | (with_reducible exact pager_Things.mono _ _ _ _)
      | (with_reducible exact LeO.refl _)
      | (with_reducible exact LeO.none _)
      | (with_reducible refine LeO.ite ?_ ?_)
      | (with_reducible refine LeO.bind ?_ (fun _ => ?_))
      | exact ih0 _ _ _ _ _
      | exact ih1 _ _ _ _ _ _ _
      | exact ih2 _ _ _ _ _ _ _ _
      | exact ih3 _ _ _ _ _ _ _
      | exact cellarerlaw06_Few.mono _ _
      | exact pager_Things.mono _ _ _ _
      | exact LeO.none _
      | refine LeO.ite ?_ ?_
      | refine LeO.bind ?_ (fun _ => ?_)
set_option maxHeartbeats 8000000 in
set_option maxRecDepth 100000 in
theorem cellarerlaw07_PagerGroups.calls (k : Nat) (A0 : Option Addr) (c0 : Nat) (l0 : List (S50)) (a1 : ByteArray) (a2 : ByteArray) (r : Bool) (w : World) (hr0 : Kd.C k50 w A0 l0.length l0) (hc0 : l0.length ≤ c0) (h : cellarerlaw07_PagerGroups.f k l0 a1 a2 = some r) :
  Calls Try.prog 6 #[.slice A0 l0.length c0, .string a1, .string a2] w fun e w' => e = .returned (.bool r) ∧ Below w.heap.size w w' := by
 have HR0 := Aside0.mk hr0
 have HC0 := Aside0.mk hc0
 clear hr0 hc0
 have HB := Aside0.mk (Below.refl w.heap.size w)
 have H : ((cellarerlaw06_Few.f k l0).bind fun t341 => ((cellarerlaw01_Few.f a1).bind fun t344 => ((cellarerlaw01_Few.f a2).bind fun t345 => ((pager_Things.f k t341 t344 t345).bind fun bt346 => (if bt346.2 = 0 then (cellarerlaw07_PagerGroups.l0 k t341 t344 t345 bt346.1 0) else ((cellarerlaw07_awake.f).bind fun t350 => (some t350))))))) = some r := h
 clear h
 replace H := Option.bind_eq_some_iff.mp H
 obtain ⟨t341, A40, H⟩ := H
 replace H : ((cellarerlaw01_Few.f a1).bind fun t344 => ((cellarerlaw01_Few.f a2).bind fun t345 => ((pager_Things.f k t341 t344 t345).bind fun bt346 => (if bt346.2 = 0 then (cellarerlaw07_PagerGroups.l0 k t341 t344 t345 bt346.1 0) else ((cellarerlaw07_awake.f).bind fun t350 => (some t350)))))) = some r := H
 have A4 := Aside0.mk A40
 clear A40
 replace H := Option.bind_eq_some_iff.mp H
 obtain ⟨t344, A50, H⟩ := H
 replace H : ((cellarerlaw01_Few.f a2).bind fun t345 => ((pager_Things.f k t341 t344 t345).bind fun bt346 => (if bt346.2 = 0 then (cellarerlaw07_PagerGroups.l0 k t341 t344 t345 bt346.1 0) else ((cellarerlaw07_awake.f).bind fun t350 => (some t350))))) = some r := H
 have A5 := Aside0.mk A50
 clear A50
 replace H := Option.bind_eq_some_iff.mp H
 obtain ⟨t345, A60, H⟩ := H
 replace H : ((pager_Things.f k t341 t344 t345).bind fun bt346 => (if bt346.2 = 0 then (cellarerlaw07_PagerGroups.l0 k t341 t344 t345 bt346.1 0) else ((cellarerlaw07_awake.f).bind fun t350 => (some t350)))) = some r := H
 have A6 := Aside0.mk A60
 clear A60
 replace H := Option.bind_eq_some_iff.mp H
 obtain ⟨⟨t346, t347⟩, A70, H⟩ := H
 replace H : (if t347 = 0 then (cellarerlaw07_PagerGroups.l0 k t341 t344 t345 t346 0) else ((cellarerlaw07_awake.f).bind fun t350 => (some t350))) = some r := H
 have A7 := Aside0.mk A70
 clear A70
 by_cases c8 : t347 = 0
 ·rw [if_pos c8] at H
  have c8b0 : (t347 == 0) = true := beq_iff_eq.mpr c8
  have c8b1 : (t347 != 0) = false := bne_eq_false_iff_eq.mpr c8
  clear c8
  have H' := Aside0.mk H
  clear H
  go_enter Try.func6, Try.ntmps6
  go_wp2_with (first | ((with_reducible refine gate_callee (f := 19) rfl ?_); refine goesL_ (some 16) rfl rfl Try.func19 (by kernel_rfl) rfl #[.slice A0 l0.length c0] rfl (by (try simp only [List.map_toArray, List.map_cons, List.map_nil]); first | done | rfl | (simp only [List.length_drop, List.length_take]; rfl)) ?_; (with_reducible refine (cellarerlaw06_Few.calls k _ _ l0 t341 _ ?side1 ?side2 A4.out).mono ?_); (case side1 => repeat (first | exact HR0.out | (with_reducible refine Kd.C_alloc ?_ _) | (with_reducible refine Kd.C_drewN ?_ _) | (with_reducible refine Kd.C_drew ?_))); (case side2 => exact HC0.out); rintro e w9 ⟨v342, rfl, ho0, hb⟩; refine ⟨_, rfl, ?_⟩; have n0_ := Aside0.mk (Kd.S_lower ho0 (below_size (by repeat (first | (with_reducible first | exact HB.out | apply below_alloc | apply pw_below_drewN | apply below_drew1) | exact HB.out)))); have n1_ := Aside0.mk (below_step (by repeat (first | (with_reducible first | exact HB.out | apply below_alloc | apply pw_below_drewN | apply below_drew1) | exact HB.out)) hb); clear HB; have HO343 := n0_; have HB := n1_; clear n0_ n1_; (try clear hb); (try clear hb2); (try clear hk); (try clear hi); (try clear ho0)) | ((with_reducible refine gate_callee (f := 20) rfl ?_); refine goesL_ (some 18) rfl rfl Try.func20 (by kernel_rfl) rfl #[.string a1] rfl (by (try simp only [List.map_toArray, List.map_cons, List.map_nil]); first | done | rfl | (simp only [List.length_drop, List.length_take]; rfl)) ?_; (with_reducible refine (cellarerlaw01_Few.calls a1 t344 _ A5.out).mono ?_); rintro e w' ⟨rfl, ⟨nd, rfl⟩⟩; refine ⟨_, rfl, ?_⟩) | ((with_reducible refine gate_callee (f := 20) rfl ?_); refine goesL_ (some 20) rfl rfl Try.func20 (by kernel_rfl) rfl #[.string a2] rfl (by (try simp only [List.map_toArray, List.map_cons, List.map_nil]); first | done | rfl | (simp only [List.length_drop, List.length_take]; rfl)) ?_; (with_reducible refine (cellarerlaw01_Few.calls a2 t345 _ A6.out).mono ?_); rintro e w' ⟨rfl, ⟨nd, rfl⟩⟩; refine ⟨_, rfl, ?_⟩; obtain ⟨Ao10, co10, eo10⟩ := Kd.S_slice HO343.out; subst eo10) | ((with_reducible refine gate_callee (f := 12) rfl ?_); refine goesL_ (some 25) rfl rfl Try.func12 (by kernel_rfl) rfl #[.slice Ao10 t341.length co10, .string t344, .string t345] rfl (by (try simp only [List.map_toArray, List.map_cons, List.map_nil]); first | done | rfl | (simp only [List.length_drop, List.length_take]; rfl)) ?_; (with_reducible refine (pager_Things.calls k _ _ t341 t344 t345 t346 t347 _ ?side1 ?side2 A7.out).mono ?_); (case side1 => repeat (first | exact (Kd.S_reads' HO343.out).2.2 | (with_reducible refine Kd.C_alloc ?_ _) | (with_reducible refine Kd.C_drewN ?_ _) | (with_reducible refine Kd.C_drew ?_))); (case side2 => exact (Kd.S_reads' HO343.out).2.1); rintro e w11 ⟨v348, rfl, ho0, hb⟩; refine ⟨_, rfl, ?_⟩; have n0_ := Aside0.mk (Kd.S_below (by (with_reducible repeat (first | apply Kd.S_alloc | apply Kd.S_drewN | apply Kd.S_drew)); exact HO343.out) hb); have n1_ := Aside0.mk (Kd.R_lower ho0 (below_size (by repeat (first | (with_reducible first | exact HB.out | apply below_alloc | apply pw_below_drewN | apply below_drew1) | exact HB.out)))); have n2_ := Aside0.mk (below_step (by repeat (first | (with_reducible first | exact HB.out | apply below_alloc | apply pw_below_drewN | apply below_drew1) | exact HB.out)) hb); clear HO343; clear HB; have HO343 := n0_; have HO349 := n1_; have HB := n2_; clear n0_ n1_ n2_; (try clear hb); (try clear hb2); (try clear hk); (try clear hi); (try clear ho0)))
  go_loopg [9] k (fun kq v9 w' => ∃ (x9_1 : Int), v9 = .int .i64 x9_1 ∧ Aside0 (cellarerlaw07_PagerGroups.l0 kq t341 t344 t345 t346 x9_1 = some r) ∧ Aside0 (kq ≤ k) ∧ Aside0 (Kd.S k50 50 w' w.heap.size (fun _ => True) (.slice Ao10 t341.length co10) t341) ∧ Aside0 (Kd.R Kd.string 9 w' w.heap.size (fun _ => True) v348 t346) ∧ Aside0 (Below w.heap.size w w'))
  case atStart => exact ⟨(0), (by first | rfl | (simp; done) | (simp [*]; done)), H', ⟨Nat.le_refl _⟩, ⟨by (with_reducible repeat (first | apply Kd.S_alloc | apply Kd.S_drewN | apply Kd.S_drew)); exact HO343.out⟩, ⟨by (with_reducible repeat (first | apply Kd.R_alloc | apply Kd.R_drewN | apply Kd.R_drew)); exact HO349.out⟩, ⟨by repeat (first | (with_reducible first | exact HB.out | apply below_alloc | apply pw_below_drewN | apply below_drew1) | exact HB.out)⟩⟩
  case round =>
   clear H'
   try clear c1
   try clear c2
   try clear p2
   try clear c6
   try clear c8
   try clear c8b0
   try clear c8b1
   obtain ⟨x9_1, rfl, HA, HK1, HO_0, HO_7, HB⟩ := hrel
   cases gk with
   | zero => exact absurd HA.out (by simp [cellarerlaw07_PagerGroups.l0])
   | succ k1 =>
    have H := HA.out
    clear HA
    simp only [cellarerlaw07_PagerGroups.l0] at H
    by_cases c12 : x9_1 < (t346.length : Int)
    ·rw [if_pos c12] at H
     have c12b0 : decide (x9_1 < (t346.length : Int)) = true := decide_eq_true c12
     clear c12
     by_cases c13 : 0 ≤ x9_1
     ·rw [if_pos c13] at H
      have c13b0 : decide (0 ≤ x9_1) = true := decide_eq_true c13
      clear c13
      have HC14 := Aside0.mk H
      clear H
      obtain ⟨Ao15, co15, eo15⟩ := Kd.R_slice HO_7.out
      subst eo15
      have p352 : 0 ≤ (x9_1 : Int) := of_decide_eq_true (by first | (with_reducible assumption) | assumption)
      have q352 : x9_1 < (t346.length : Int) := of_decide_eq_true (by first | (with_reducible assumption) | assumption)
      obtain ⟨ad352, e352, hx352_0⟩ := Kd.at_string (Kd.R_reads' HO_7.out).2.2 x9_1 p352 q352
      cases e352
      replace p352 := eq_true p352
      replace q352 := eq_true q352
      go_upto_region 9 with (fail)
      go_cut [61] (fun v61 wc => ∃ (kq : Nat) (x61_13 : Bool), v61 = .bool x61_13 ∧ Aside0 (cellarerlaw07_PagerGroups.j1 kq t341 t344 t345 t346 x9_1 (rdOf ByteArray.empty t346 x9_1) x61_13 = some r) ∧ Aside0 (kq ≤ k1) ∧ Aside0 (Kd.S k50 50 wc w.heap.size (fun _ => True) (.slice Ao10 t341.length co10) t341) ∧ Aside0 (Kd.R Kd.string 9 wc w.heap.size (fun _ => True) (.slice (some ad352) t346.length co15) t346) ∧ Aside0 (Below w.heap.size w wc))
      case first =>
       have H := HC14.out
       clear HC14
       replace H := Option.bind_eq_some_iff.mp H
       obtain ⟨t353, A160, H⟩ := H
       replace H : (if t353 = true then (if (rdOf ByteArray.empty t346 x9_1).toList = ([] : List UInt8) then (cellarerlaw07_PagerGroups.j1 k1 t341 t344 t345 t346 x9_1 (rdOf ByteArray.empty t346 x9_1) true) else (if x9_1 > 0 then (if 0 ≤ (wrap64 (x9_1 - 1)) then (if (wrap64 (x9_1 - 1)) < (t346.length : Int) then (cellarerlaw07_PagerGroups.j1 k1 t341 t344 t345 t346 x9_1 (rdOf ByteArray.empty t346 x9_1) (!(Op.bytesLess ((rdOf ByteArray.empty t346 (wrap64 (x9_1 - 1))).toList) ((rdOf ByteArray.empty t346 x9_1).toList)))) else (none)) else (none)) else (cellarerlaw07_PagerGroups.j1 k1 t341 t344 t345 t346 x9_1 (rdOf ByteArray.empty t346 x9_1) false))) else (cellarerlaw07_PagerGroups.j1 k1 t341 t344 t345 t346 x9_1 (rdOf ByteArray.empty t346 x9_1) true)) = some r := H
       have A16 := Aside0.mk A160
       clear A160
       by_cases c17 : t353 = true
       ·subst c17
        have H1 : (if (rdOf ByteArray.empty t346 x9_1).toList = ([] : List UInt8) then (cellarerlaw07_PagerGroups.j1 k1 t341 t344 t345 t346 x9_1 (rdOf ByteArray.empty t346 x9_1) true) else (if x9_1 > 0 then (if 0 ≤ (wrap64 (x9_1 - 1)) then (if (wrap64 (x9_1 - 1)) < (t346.length : Int) then (cellarerlaw07_PagerGroups.j1 k1 t341 t344 t345 t346 x9_1 (rdOf ByteArray.empty t346 x9_1) (!(Op.bytesLess ((rdOf ByteArray.empty t346 (wrap64 (x9_1 - 1))).toList) ((rdOf ByteArray.empty t346 x9_1).toList)))) else (none)) else (none)) else (cellarerlaw07_PagerGroups.j1 k1 t341 t344 t345 t346 x9_1 (rdOf ByteArray.empty t346 x9_1) false))) = some r := by rw [if_pos rfl] at H; exact H
        clear H
        have H := H1
        clear H1
        by_cases c18 : (rdOf ByteArray.empty t346 x9_1).toList = ([] : List UInt8)
        ·rw [if_pos c18] at H
         have c18b0 : ((rdOf ByteArray.empty t346 x9_1).toList == ([] : List UInt8)) = true := beq_iff_eq.mpr c18
         have c18b1 : ((rdOf ByteArray.empty t346 x9_1).toList != ([] : List UInt8)) = false := bne_eq_false_iff_eq.mpr c18
         clear c18
         (first | rw [c18b0] | rw [c18b1] | (simp only [i64_w, i32_w]; rw [c18b0]) | skip)
         have H' := Aside0.mk H
         clear H
         go_wp2_with (first | ((with_reducible refine gate_callee (f := 21) rfl ?_); refine goesL_ (some 43) rfl rfl Try.func21 (by kernel_rfl) rfl #[.string (rdOf ByteArray.empty t346 x9_1), .string t344] rfl (by (try simp only [List.map_toArray, List.map_cons, List.map_nil]); first | done | rfl | (simp only [List.length_drop, List.length_take]; rfl)) ?_; (with_reducible refine (cellarerref01_Under.calls (rdOf ByteArray.empty t346 x9_1) t344 true _ A16.out).mono ?_); rintro e w' ⟨rfl, ⟨nd, rfl⟩⟩; refine ⟨_, rfl, ?_⟩))
         go_meet
         case rel => exact ⟨_, (true), (by first | rfl | (simp; done) | (simp [*]; done)), H', ⟨by have := HK1.out; first | omega | exact Nat.le_refl _⟩, ⟨by (with_reducible repeat (first | apply Kd.S_alloc | apply Kd.S_drewN | apply Kd.S_drew)); exact HO_0.out⟩, ⟨by (with_reducible repeat (first | apply Kd.R_alloc | apply Kd.R_drewN | apply Kd.R_drew)); exact HO_7.out⟩, ⟨by repeat (first | (with_reducible first | exact HB.out | apply below_alloc | apply pw_below_drewN | apply below_drew1) | exact HB.out)⟩⟩
        ·rw [if_neg c18] at H
         have c18b0 : ((rdOf ByteArray.empty t346 x9_1).toList == ([] : List UInt8)) = false := beq_eq_false_iff_ne.mpr c18
         have c18b1 : ((rdOf ByteArray.empty t346 x9_1).toList != ([] : List UInt8)) = true := bne_iff_ne.mpr c18
         (first | rw [c18b0] | rw [c18b1] | (simp only [i64_w, i32_w]; rw [c18b0]) | skip)
         by_cases c19 : x9_1 > 0
         ·rw [if_pos c19] at H
          have c19b0 : decide (0 < x9_1) = true := decide_eq_true c19
          clear c19
          obtain ⟨ji20, hji20⟩ : ∃ j_ : Int, (wrap64 (x9_1 - 1)) = j_ := ⟨_, rfl⟩
          replace H : (if 0 ≤ (ji20) then (if (ji20) < (t346.length : Int) then (cellarerlaw07_PagerGroups.j1 k1 t341 t344 t345 t346 x9_1 (rdOf ByteArray.empty t346 x9_1) (!(Op.bytesLess ((rdOf ByteArray.empty t346 (ji20)).toList) ((rdOf ByteArray.empty t346 x9_1).toList)))) else (none)) else (none)) = some r := by first | (rw [hji20] at H; exact H) | (simp only [hji20] at H ⊢; exact H)
          (try rw [hji20] at A16)
          have hji20w : (IntKind.i64.wrap (x9_1 - 1)) = ji20 := (i64_w _).trans hji20
          by_cases c21 : 0 ≤ (ji20)
          ·rw [if_pos c21] at H
           have c21b0 : decide (0 ≤ (ji20)) = true := decide_eq_true c21
           clear c21
           by_cases c22 : (ji20) < (t346.length : Int)
           ·rw [if_pos c22] at H
            have c22b0 : decide ((ji20) < (t346.length : Int)) = true := decide_eq_true c22
            clear c22
            have H' := Aside0.mk H
            clear H
            go_wp2_with (first | ((with_reducible refine gate_callee (f := 21) rfl ?_); refine goesL_ (some 43) rfl rfl Try.func21 (by kernel_rfl) rfl #[.string (rdOf ByteArray.empty t346 x9_1), .string t344] rfl (by (try simp only [List.map_toArray, List.map_cons, List.map_nil]); first | done | rfl | (simp only [List.length_drop, List.length_take]; rfl)) ?_; (with_reducible refine (cellarerref01_Under.calls (rdOf ByteArray.empty t346 x9_1) t344 true _ A16.out).mono ?_); rintro e w' ⟨rfl, ⟨nd, rfl⟩⟩; refine ⟨_, rfl, ?_⟩; have p354 : 0 ≤ ((ji20) : Int) := of_decide_eq_true (by first | (with_reducible assumption) | assumption); have q354 : (ji20) < (t346.length : Int) := of_decide_eq_true (by first | (with_reducible assumption) | assumption); obtain ⟨ad354, e354, hx354_0⟩ := Kd.at_string (Kd.R_reads' HO_7.out).2.2 (ji20) p354 q354; obtain rfl : ad352 = ad354 := (by injection e354); replace p354 := eq_true p354; replace q354 := eq_true q354))
            go_meet
            case rel => exact ⟨_, (!(Op.bytesLess ((rdOf ByteArray.empty t346 (ji20)).toList) ((rdOf ByteArray.empty t346 x9_1).toList))), (by first | rfl | (simp; done) | (simp only [← hji20] <;> (first | rfl | simp)) | (simp [*]; done)), H', ⟨by have := HK1.out; first | omega | exact Nat.le_refl _⟩, ⟨by (with_reducible repeat (first | apply Kd.S_alloc | apply Kd.S_drewN | apply Kd.S_drew)); exact HO_0.out⟩, ⟨by (with_reducible repeat (first | apply Kd.R_alloc | apply Kd.R_drewN | apply Kd.R_drew)); exact HO_7.out⟩, ⟨by repeat (first | (with_reducible first | exact HB.out | apply below_alloc | apply pw_below_drewN | apply below_drew1) | exact HB.out)⟩⟩
           ·rw [if_neg c22] at H
            exact absurd H (by simp)
          ·rw [if_neg c21] at H
           exact absurd H (by simp)
         ·rw [if_neg c19] at H
          have c19b0 : decide (0 < x9_1) = false := decide_eq_false c19
          clear c19
          have H' := Aside0.mk H
          clear H
          go_wp2_with (first | ((with_reducible refine gate_callee (f := 21) rfl ?_); refine goesL_ (some 43) rfl rfl Try.func21 (by kernel_rfl) rfl #[.string (rdOf ByteArray.empty t346 x9_1), .string t344] rfl (by (try simp only [List.map_toArray, List.map_cons, List.map_nil]); first | done | rfl | (simp only [List.length_drop, List.length_take]; rfl)) ?_; (with_reducible refine (cellarerref01_Under.calls (rdOf ByteArray.empty t346 x9_1) t344 true _ A16.out).mono ?_); rintro e w' ⟨rfl, ⟨nd, rfl⟩⟩; refine ⟨_, rfl, ?_⟩))
          go_meet
          case rel => exact ⟨_, (false), (by first | rfl | (simp; done) | (simp [*]; done)), H', ⟨by have := HK1.out; first | omega | exact Nat.le_refl _⟩, ⟨by (with_reducible repeat (first | apply Kd.S_alloc | apply Kd.S_drewN | apply Kd.S_drew)); exact HO_0.out⟩, ⟨by (with_reducible repeat (first | apply Kd.R_alloc | apply Kd.R_drewN | apply Kd.R_drew)); exact HO_7.out⟩, ⟨by repeat (first | (with_reducible first | exact HB.out | apply below_alloc | apply pw_below_drewN | apply below_drew1) | exact HB.out)⟩⟩
       ·replace c17 := Bool.eq_false_iff.mpr c17
        subst c17
        have H1 : (cellarerlaw07_PagerGroups.j1 k1 t341 t344 t345 t346 x9_1 (rdOf ByteArray.empty t346 x9_1) true) = some r := by rw [if_neg (show ¬ (false = true) by decide)] at H; exact H
        clear H
        have H := H1
        clear H1
        have H' := Aside0.mk H
        clear H
        go_wp2_with (first | ((with_reducible refine gate_callee (f := 21) rfl ?_); refine goesL_ (some 43) rfl rfl Try.func21 (by kernel_rfl) rfl #[.string (rdOf ByteArray.empty t346 x9_1), .string t344] rfl (by (try simp only [List.map_toArray, List.map_cons, List.map_nil]); first | done | rfl | (simp only [List.length_drop, List.length_take]; rfl)) ?_; (with_reducible refine (cellarerref01_Under.calls (rdOf ByteArray.empty t346 x9_1) t344 false _ A16.out).mono ?_); rintro e w' ⟨rfl, ⟨nd, rfl⟩⟩; refine ⟨_, rfl, ?_⟩))
        go_meet
        case rel => exact ⟨_, (true), (by first | rfl | (simp; done) | (simp [*]; done)), H', ⟨by have := HK1.out; first | omega | exact Nat.le_refl _⟩, ⟨by (with_reducible repeat (first | apply Kd.S_alloc | apply Kd.S_drewN | apply Kd.S_drew)); exact HO_0.out⟩, ⟨by (with_reducible repeat (first | apply Kd.R_alloc | apply Kd.R_drewN | apply Kd.R_drew)); exact HO_7.out⟩, ⟨by repeat (first | (with_reducible first | exact HB.out | apply below_alloc | apply pw_below_drewN | apply below_drew1) | exact HB.out)⟩⟩
      case rest =>
       clear HC14
       try clear c1
       try clear c2
       try clear p2
       try clear p3
       try clear q3
       try clear hx3
       try clear c6
       try clear p6
       try clear c8
       try clear c8b0
       try clear c8b1
       try clear c12
       try clear c12b0
       try clear c13
       try clear c13b0
       try clear c17
       try clear c18
       try clear c18b0
       try clear c18b1
       try clear c19
       try clear c19b0
       try clear c20
       try clear c21
       try clear c21b0
       try clear c22
       try clear c22b0
       try clear hx352_0
       try clear hx354_0
       try clear p2
       try clear p352
       try clear p354
       try clear q352
       try clear q354
       obtain ⟨kq, x61_13, rfl, HA, HJ13, HO_0, HO_7, HB⟩ := hcut
       cases kq with
       | zero => exact absurd HA.out (by simp [cellarerlaw07_PagerGroups.j1])
       | succ kj13 =>
        have H := HA.out
        clear HA
        simp only [cellarerlaw07_PagerGroups.j1] at H
        by_cases c23 : x61_13 = true
        ·subst c23
         have H1 : (some false) = some r := by rw [if_pos rfl] at H; exact H
         clear H
         have H := H1
         clear H1
         obtain rfl := Option.some.inj H
         go_wp2
         go_ret
         exact ⟨by first | rfl | (simp [errW_none, errW_some] <;> rfl) | (simp [*, errW_none, errW_some] <;> rfl), by repeat (first | (with_reducible first | exact HB.out | apply below_alloc | apply pw_below_drewN | apply below_drew1) | exact HB.out)⟩
        ·replace c23 := Bool.eq_false_iff.mpr c23
         subst c23
         have H1 : (cellarerlaw07_PagerGroups.l1 kj13 t341 t344 t345 t346 x9_1 (rdOf ByteArray.empty t346 x9_1) false 0) = some r := by rw [if_neg (show ¬ (false = true) by decide)] at H; exact H
         clear H
         have H := H1
         clear H1
         have H' := Aside0.mk H
         clear H
         go_wp2
         go_loopg [11, 12] kj13 (fun kq v11 v12 w' => ∃ (x11_3 : Bool) (x12_3 : Int), v11 = .bool x11_3 ∧ v12 = .int .i64 x12_3 ∧ Aside0 (cellarerlaw07_PagerGroups.l1 kq t341 t344 t345 t346 x9_1 (rdOf ByteArray.empty t346 x9_1) x11_3 x12_3 = some r) ∧ Aside0 (kq ≤ kj13) ∧ Aside0 (Kd.S k50 50 w' w.heap.size (fun _ => True) (.slice Ao10 t341.length co10) t341) ∧ Aside0 (Kd.R Kd.string 9 w' w.heap.size (fun _ => True) (.slice (some ad352) t346.length co15) t346) ∧ Aside0 (Below w.heap.size w w'))
         case atStart => exact ⟨(false), (0), (by first | rfl | (simp; done) | (simp [*]; done)), (by first | rfl | (simp; done) | (simp [*]; done)), H', ⟨Nat.le_refl _⟩, ⟨by (with_reducible repeat (first | apply Kd.S_alloc | apply Kd.S_drewN | apply Kd.S_drew)); exact HO_0.out⟩, ⟨by (with_reducible repeat (first | apply Kd.R_alloc | apply Kd.R_drewN | apply Kd.R_drew)); exact HO_7.out⟩, ⟨by repeat (first | (with_reducible first | exact HB.out | apply below_alloc | apply pw_below_drewN | apply below_drew1) | exact HB.out)⟩⟩
         case round =>
          clear H'
          try clear c1
          try clear c2
          try clear p2
          try clear p3
          try clear q3
          try clear hx3
          try clear c6
          try clear p6
          try clear c8
          try clear c8b0
          try clear c8b1
          try clear c12
          try clear c12b0
          try clear c13
          try clear c13b0
          try clear c17
          try clear c18
          try clear c18b0
          try clear c18b1
          try clear c19
          try clear c19b0
          try clear c20
          try clear c21
          try clear c21b0
          try clear c22
          try clear c22b0
          try clear c23
          try clear hx352_0
          try clear hx354_0
          try clear p2
          try clear p3
          try clear p352
          try clear p354
          try clear p6
          try clear q3
          try clear q352
          try clear q354
          obtain ⟨x11_3, x12_3, rfl, rfl, HA, HK3, HO_0, HO_7, HB⟩ := hrel
          cases gk with
          | zero => exact absurd HA.out (by simp [cellarerlaw07_PagerGroups.l1])
          | succ k3 =>
           have H := HA.out
           clear HA
           simp only [cellarerlaw07_PagerGroups.l1] at H
           by_cases c24 : x12_3 < (t341.length : Int)
           ·rw [if_pos c24] at H
            have c24b0 : decide (x12_3 < (t341.length : Int)) = true := decide_eq_true c24
            clear c24
            by_cases c25 : x11_3 = true
            ·subst c25
             have H1 : (cellarerlaw07_PagerGroups.l1 k3 t341 t344 t345 t346 x9_1 (rdOf ByteArray.empty t346 x9_1) true (wrap64 (x12_3 + 1))) = some r := by rw [if_pos rfl] at H; exact H
             clear H
             have H := H1
             clear H1
             have H' := Aside0.mk H
             clear H
             go_wp2
             go_roundg k3
             case measure => have := HK1.out; have := HJ13.out; have := HK3.out; omega
             case rel => exact ⟨(true), (wrap64 (x12_3 + 1)), (by first | rfl | (simp; done) | (simp [*]; done)), (by first | rfl | (simp; done) | (simp [*]; done)), H', ⟨by have := HK1.out; have := HJ13.out; have := HK3.out; omega⟩, ⟨by (with_reducible repeat (first | apply Kd.S_alloc | apply Kd.S_drewN | apply Kd.S_drew)); exact HO_0.out⟩, ⟨by (with_reducible repeat (first | apply Kd.R_alloc | apply Kd.R_drewN | apply Kd.R_drew)); exact HO_7.out⟩, ⟨by repeat (first | (with_reducible first | exact HB.out | apply below_alloc | apply pw_below_drewN | apply below_drew1) | exact HB.out)⟩⟩
            ·replace c25 := Bool.eq_false_iff.mpr c25
             subst c25
             have H1 : (if 0 ≤ x12_3 then (if ((rd_T50 t341 x12_3).f0).toList = (rdOf ByteArray.empty t346 x9_1).toList then (cellarerlaw07_PagerGroups.l1 k3 t341 t344 t345 t346 x9_1 (rdOf ByteArray.empty t346 x9_1) true (wrap64 (x12_3 + 1))) else ((cellarerref01_Under.f ((rd_T50 t341 x12_3).f0) (rdOf ByteArray.empty t346 x9_1)).bind fun t357 => (if t357 = true then (if 0 ≤ (wrap64 (((rdOf ByteArray.empty t346 x9_1).size : Int) - 1)) then (if (wrap64 (((rdOf ByteArray.empty t346 x9_1).size : Int) - 1)) ≤ ((rdOf ByteArray.empty t346 x9_1).size : Int) then (cellarerlaw07_PagerGroups.l1 k3 t341 t344 t345 t346 x9_1 (rdOf ByteArray.empty t346 x9_1) (((rdOf ByteArray.empty t346 x9_1).extract ((wrap64 (((rdOf ByteArray.empty t346 x9_1).size : Int) - 1)) : Int).toNat (rdOf ByteArray.empty t346 x9_1).size).toList == t345.toList) (wrap64 (x12_3 + 1))) else (none)) else (none)) else (cellarerlaw07_PagerGroups.l1 k3 t341 t344 t345 t346 x9_1 (rdOf ByteArray.empty t346 x9_1) false (wrap64 (x12_3 + 1)))))) else (none)) = some r := by rw [if_neg (show ¬ (false = true) by decide)] at H; exact H
             clear H
             have H := H1
             clear H1
             by_cases c26 : 0 ≤ x12_3
             ·rw [if_pos c26] at H
              have c26b0 : decide (0 ≤ x12_3) = true := decide_eq_true c26
              clear c26
              by_cases c27 : ((rd_T50 t341 x12_3).f0).toList = (rdOf ByteArray.empty t346 x9_1).toList
              ·rw [if_pos c27] at H
               have c27b0 : (((rd_T50 t341 x12_3).f0).toList == (rdOf ByteArray.empty t346 x9_1).toList) = true := beq_iff_eq.mpr c27
               have c27b1 : (((rd_T50 t341 x12_3).f0).toList != (rdOf ByteArray.empty t346 x9_1).toList) = false := bne_eq_false_iff_eq.mpr c27
               clear c27
               have H' := Aside0.mk H
               clear H
               have p355 : 0 ≤ (x12_3 : Int) := of_decide_eq_true (by first | (with_reducible assumption) | assumption)
               have q355 : x12_3 < (t341.length : Int) := of_decide_eq_true (by first | (with_reducible assumption) | assumption)
               obtain ⟨ad355, A355_1, c355_1, e355, hx355_0, hx355_1, hl355_1, hi355_1⟩ := at_T50 (Kd.S_reads' HO_0.out).2.2 x12_3 p355 q355
               cases e355
               obtain ⟨ce355, hce355, hMe355, hcc355⟩ := Kd.S_get HO_0.out z50 x12_3 p355 (by first | exact q355 | exact of_decide_eq_true (by first | (with_reducible assumption) | assumption) | (have e_ := (Kd.S_reads' HO_0.out).1; omega))
               obtain ⟨ve355_1, rfl, ge355_1⟩ := k50_openM hMe355
               have hv355_1 := hcc355 1 _ rfl
               rw [add_field _ _ 1 (by omega)] at hv355_1
               replace hv355_1 := Option.some.inj (hv355_1.symm.trans hx355_1)
               rw [hv355_1] at ge355_1
               have HL355_1 := Aside0.mk (show Kd.R k52 52 _ _ _ _ ((rd_T50 t341 x12_3).f1) from ge355_1)
               clear hv355_1 ge355_1
               clear hcc355 hce355
               have HR355_1 := Aside0.mk hi355_1
               have HC355_1 := Aside0.mk hl355_1
               clear hi355_1 hl355_1
               replace p355 := eq_true p355
               replace q355 := eq_true q355
               go_wp2
               go_roundg k3
               case measure => have := HK1.out; have := HJ13.out; have := HK3.out; omega
               case rel => exact ⟨(true), (wrap64 (x12_3 + 1)), (by first | rfl | (simp; done) | (simp [*]; done)), (by first | rfl | (simp; done) | (simp [*]; done)), H', ⟨by have := HK1.out; have := HJ13.out; have := HK3.out; omega⟩, ⟨by (with_reducible repeat (first | apply Kd.S_alloc | apply Kd.S_drewN | apply Kd.S_drew)); exact HO_0.out⟩, ⟨by (with_reducible repeat (first | apply Kd.R_alloc | apply Kd.R_drewN | apply Kd.R_drew)); exact HO_7.out⟩, ⟨by repeat (first | (with_reducible first | exact HB.out | apply below_alloc | apply pw_below_drewN | apply below_drew1) | exact HB.out)⟩⟩
              ·rw [if_neg c27] at H
               have c27b0 : (((rd_T50 t341 x12_3).f0).toList == (rdOf ByteArray.empty t346 x9_1).toList) = false := beq_eq_false_iff_ne.mpr c27
               have c27b1 : (((rd_T50 t341 x12_3).f0).toList != (rdOf ByteArray.empty t346 x9_1).toList) = true := bne_iff_ne.mpr c27
               replace H := Option.bind_eq_some_iff.mp H
               obtain ⟨t357, A280, H⟩ := H
               replace H : (if t357 = true then (if 0 ≤ (wrap64 (((rdOf ByteArray.empty t346 x9_1).size : Int) - 1)) then (if (wrap64 (((rdOf ByteArray.empty t346 x9_1).size : Int) - 1)) ≤ ((rdOf ByteArray.empty t346 x9_1).size : Int) then (cellarerlaw07_PagerGroups.l1 k3 t341 t344 t345 t346 x9_1 (rdOf ByteArray.empty t346 x9_1) (((rdOf ByteArray.empty t346 x9_1).extract ((wrap64 (((rdOf ByteArray.empty t346 x9_1).size : Int) - 1)) : Int).toNat (rdOf ByteArray.empty t346 x9_1).size).toList == t345.toList) (wrap64 (x12_3 + 1))) else (none)) else (none)) else (cellarerlaw07_PagerGroups.l1 k3 t341 t344 t345 t346 x9_1 (rdOf ByteArray.empty t346 x9_1) false (wrap64 (x12_3 + 1)))) = some r := H
               have A28 := Aside0.mk A280
               clear A280
               by_cases c29 : t357 = true
               ·subst c29
                have H1 : (if 0 ≤ (wrap64 (((rdOf ByteArray.empty t346 x9_1).size : Int) - 1)) then (if (wrap64 (((rdOf ByteArray.empty t346 x9_1).size : Int) - 1)) ≤ ((rdOf ByteArray.empty t346 x9_1).size : Int) then (cellarerlaw07_PagerGroups.l1 k3 t341 t344 t345 t346 x9_1 (rdOf ByteArray.empty t346 x9_1) (((rdOf ByteArray.empty t346 x9_1).extract ((wrap64 (((rdOf ByteArray.empty t346 x9_1).size : Int) - 1)) : Int).toNat (rdOf ByteArray.empty t346 x9_1).size).toList == t345.toList) (wrap64 (x12_3 + 1))) else (none)) else (none)) = some r := by rw [if_pos rfl] at H; exact H
                clear H
                have H := H1
                clear H1
                obtain ⟨ji30, hji30⟩ : ∃ j_ : Int, (wrap64 (((rdOf ByteArray.empty t346 x9_1).size : Int) - 1)) = j_ := ⟨_, rfl⟩
                replace H : (if 0 ≤ (ji30) then (if (ji30) ≤ ((rdOf ByteArray.empty t346 x9_1).size : Int) then (cellarerlaw07_PagerGroups.l1 k3 t341 t344 t345 t346 x9_1 (rdOf ByteArray.empty t346 x9_1) (((rdOf ByteArray.empty t346 x9_1).extract ((ji30) : Int).toNat (rdOf ByteArray.empty t346 x9_1).size).toList == t345.toList) (wrap64 (x12_3 + 1))) else (none)) else (none)) = some r := by first | (rw [hji30] at H; exact H) | (simp only [hji30] at H ⊢; exact H)
                (try rw [hji30] at A28)
                have hji30w : (IntKind.i64.wrap (((rdOf ByteArray.empty t346 x9_1).size : Int) - 1)) = ji30 := (i64_w _).trans hji30
                by_cases c31 : 0 ≤ (ji30)
                ·rw [if_pos c31] at H
                 have c31b0 := eq_true c31
                 have c31b1 : decide (0 ≤ (ji30)) = true := decide_eq_true c31
                 clear c31
                 by_cases c32 : (ji30) ≤ ((rdOf ByteArray.empty t346 x9_1).size : Int)
                 ·rw [if_pos c32] at H
                  have c32b0 := eq_true c32
                  have c32b1 : decide ((ji30) ≤ ((rdOf ByteArray.empty t346 x9_1).size : Int)) = true := decide_eq_true c32
                  clear c32
                  have H' := Aside0.mk H
                  clear H
                  have p355 : 0 ≤ (x12_3 : Int) := of_decide_eq_true (by first | (with_reducible assumption) | assumption)
                  have q355 : x12_3 < (t341.length : Int) := of_decide_eq_true (by first | (with_reducible assumption) | assumption)
                  obtain ⟨ad355, A355_1, c355_1, e355, hx355_0, hx355_1, hl355_1, hi355_1⟩ := at_T50 (Kd.S_reads' HO_0.out).2.2 x12_3 p355 q355
                  cases e355
                  obtain ⟨ce355, hce355, hMe355, hcc355⟩ := Kd.S_get HO_0.out z50 x12_3 p355 (by first | exact q355 | exact of_decide_eq_true (by first | (with_reducible assumption) | assumption) | (have e_ := (Kd.S_reads' HO_0.out).1; omega))
                  obtain ⟨ve355_1, rfl, ge355_1⟩ := k50_openM hMe355
                  have hv355_1 := hcc355 1 _ rfl
                  rw [add_field _ _ 1 (by omega)] at hv355_1
                  replace hv355_1 := Option.some.inj (hv355_1.symm.trans hx355_1)
                  rw [hv355_1] at ge355_1
                  have HL355_1 := Aside0.mk (show Kd.R k52 52 _ _ _ _ ((rd_T50 t341 x12_3).f1) from ge355_1)
                  clear hv355_1 ge355_1
                  clear hcc355 hce355
                  have HR355_1 := Aside0.mk hi355_1
                  have HC355_1 := Aside0.mk hl355_1
                  clear hi355_1 hl355_1
                  replace p355 := eq_true p355
                  replace q355 := eq_true q355
                  have p356 : 0 ≤ (x12_3 : Int) := of_decide_eq_true (by first | (with_reducible assumption) | assumption)
                  have q356 : x12_3 < (t341.length : Int) := of_decide_eq_true (by first | (with_reducible assumption) | assumption)
                  obtain ⟨ad356, A356_1, c356_1, e356, hx356_0, hx356_1, hl356_1, hi356_1⟩ := at_T50 (Kd.S_reads' HO_0.out).2.2 x12_3 p356 q356
                  obtain rfl : ad355 = ad356 := (by injection e356)
                  obtain ⟨ce356, hce356, hMe356, hcc356⟩ := Kd.S_get HO_0.out z50 x12_3 p356 (by first | exact q356 | exact of_decide_eq_true (by first | (with_reducible assumption) | assumption) | (have e_ := (Kd.S_reads' HO_0.out).1; omega))
                  obtain ⟨ve356_1, rfl, ge356_1⟩ := k50_openM hMe356
                  have hv356_1 := hcc356 1 _ rfl
                  rw [add_field _ _ 1 (by omega)] at hv356_1
                  replace hv356_1 := Option.some.inj (hv356_1.symm.trans hx356_1)
                  rw [hv356_1] at ge356_1
                  have HL356_1 := Aside0.mk (show Kd.R k52 52 _ _ _ _ ((rd_T50 t341 x12_3).f1) from ge356_1)
                  clear hv356_1 ge356_1
                  clear hcc356 hce356
                  have HR356_1 := Aside0.mk hi356_1
                  have HC356_1 := Aside0.mk hl356_1
                  clear hi356_1 hl356_1
                  replace p356 := eq_true p356
                  replace q356 := eq_true q356
                  have ea_ := Option.some.inj (hx355_1.symm.trans hx356_1)
                  injection ea_ with ea_ en_ ec_
                  subst ea_
                  subst ec_
                  clear en_
                  go_wp2_with (first | (go_at_call 21; (with_reducible refine (cellarerref01_Under.calls ((rd_T50 t341 x12_3).f0) (rdOf ByteArray.empty t346 x9_1) true _ A28.out).mono ?_); rintro e w' ⟨rfl, ⟨nd, rfl⟩⟩))
                  go_roundg k3
                  case measure => have := HK1.out; have := HJ13.out; have := HK3.out; omega
                  case rel => exact ⟨((((rdOf ByteArray.empty t346 x9_1).extract ((ji30) : Int).toNat (rdOf ByteArray.empty t346 x9_1).size).toList == t345.toList)), (wrap64 (x12_3 + 1)), (by first | rfl | (simp; done) | (simp only [← hji30] <;> (first | rfl | simp)) | (simp [*]; done)), (by first | rfl | (simp; done) | (simp [*]; done)), H', ⟨by have := HK1.out; have := HJ13.out; have := HK3.out; omega⟩, ⟨by (with_reducible repeat (first | apply Kd.S_alloc | apply Kd.S_drewN | apply Kd.S_drew)); exact HO_0.out⟩, ⟨by (with_reducible repeat (first | apply Kd.R_alloc | apply Kd.R_drewN | apply Kd.R_drew)); exact HO_7.out⟩, ⟨by repeat (first | (with_reducible first | exact HB.out | apply below_alloc | apply pw_below_drewN | apply below_drew1) | exact HB.out)⟩⟩
                 ·rw [if_neg c32] at H
                  exact absurd H (by simp)
                ·rw [if_neg c31] at H
                 exact absurd H (by simp)
               ·replace c29 := Bool.eq_false_iff.mpr c29
                subst c29
                have H1 : (cellarerlaw07_PagerGroups.l1 k3 t341 t344 t345 t346 x9_1 (rdOf ByteArray.empty t346 x9_1) false (wrap64 (x12_3 + 1))) = some r := by rw [if_neg (show ¬ (false = true) by decide)] at H; exact H
                clear H
                have H := H1
                clear H1
                have H' := Aside0.mk H
                clear H
                have p355 : 0 ≤ (x12_3 : Int) := of_decide_eq_true (by first | (with_reducible assumption) | assumption)
                have q355 : x12_3 < (t341.length : Int) := of_decide_eq_true (by first | (with_reducible assumption) | assumption)
                obtain ⟨ad355, A355_1, c355_1, e355, hx355_0, hx355_1, hl355_1, hi355_1⟩ := at_T50 (Kd.S_reads' HO_0.out).2.2 x12_3 p355 q355
                cases e355
                obtain ⟨ce355, hce355, hMe355, hcc355⟩ := Kd.S_get HO_0.out z50 x12_3 p355 (by first | exact q355 | exact of_decide_eq_true (by first | (with_reducible assumption) | assumption) | (have e_ := (Kd.S_reads' HO_0.out).1; omega))
                obtain ⟨ve355_1, rfl, ge355_1⟩ := k50_openM hMe355
                have hv355_1 := hcc355 1 _ rfl
                rw [add_field _ _ 1 (by omega)] at hv355_1
                replace hv355_1 := Option.some.inj (hv355_1.symm.trans hx355_1)
                rw [hv355_1] at ge355_1
                have HL355_1 := Aside0.mk (show Kd.R k52 52 _ _ _ _ ((rd_T50 t341 x12_3).f1) from ge355_1)
                clear hv355_1 ge355_1
                clear hcc355 hce355
                have HR355_1 := Aside0.mk hi355_1
                have HC355_1 := Aside0.mk hl355_1
                clear hi355_1 hl355_1
                replace p355 := eq_true p355
                replace q355 := eq_true q355
                have p356 : 0 ≤ (x12_3 : Int) := of_decide_eq_true (by first | (with_reducible assumption) | assumption)
                have q356 : x12_3 < (t341.length : Int) := of_decide_eq_true (by first | (with_reducible assumption) | assumption)
                obtain ⟨ad356, A356_1, c356_1, e356, hx356_0, hx356_1, hl356_1, hi356_1⟩ := at_T50 (Kd.S_reads' HO_0.out).2.2 x12_3 p356 q356
                obtain rfl : ad355 = ad356 := (by injection e356)
                obtain ⟨ce356, hce356, hMe356, hcc356⟩ := Kd.S_get HO_0.out z50 x12_3 p356 (by first | exact q356 | exact of_decide_eq_true (by first | (with_reducible assumption) | assumption) | (have e_ := (Kd.S_reads' HO_0.out).1; omega))
                obtain ⟨ve356_1, rfl, ge356_1⟩ := k50_openM hMe356
                have hv356_1 := hcc356 1 _ rfl
                rw [add_field _ _ 1 (by omega)] at hv356_1
                replace hv356_1 := Option.some.inj (hv356_1.symm.trans hx356_1)
                rw [hv356_1] at ge356_1
                have HL356_1 := Aside0.mk (show Kd.R k52 52 _ _ _ _ ((rd_T50 t341 x12_3).f1) from ge356_1)
                clear hv356_1 ge356_1
                clear hcc356 hce356
                have HR356_1 := Aside0.mk hi356_1
                have HC356_1 := Aside0.mk hl356_1
                clear hi356_1 hl356_1
                replace p356 := eq_true p356
                replace q356 := eq_true q356
                have ea_ := Option.some.inj (hx355_1.symm.trans hx356_1)
                injection ea_ with ea_ en_ ec_
                subst ea_
                subst ec_
                clear en_
                go_wp2_with (first | (go_at_call 21; (with_reducible refine (cellarerref01_Under.calls ((rd_T50 t341 x12_3).f0) (rdOf ByteArray.empty t346 x9_1) false _ A28.out).mono ?_); rintro e w' ⟨rfl, ⟨nd, rfl⟩⟩))
                go_roundg k3
                case measure => have := HK1.out; have := HJ13.out; have := HK3.out; omega
                case rel => exact ⟨(false), (wrap64 (x12_3 + 1)), (by first | rfl | (simp; done) | (simp [*]; done)), (by first | rfl | (simp; done) | (simp [*]; done)), H', ⟨by have := HK1.out; have := HJ13.out; have := HK3.out; omega⟩, ⟨by (with_reducible repeat (first | apply Kd.S_alloc | apply Kd.S_drewN | apply Kd.S_drew)); exact HO_0.out⟩, ⟨by (with_reducible repeat (first | apply Kd.R_alloc | apply Kd.R_drewN | apply Kd.R_drew)); exact HO_7.out⟩, ⟨by repeat (first | (with_reducible first | exact HB.out | apply below_alloc | apply pw_below_drewN | apply below_drew1) | exact HB.out)⟩⟩
             ·rw [if_neg c26] at H
              exact absurd H (by simp)
           ·rw [if_neg c24] at H
            have c24b0 : decide (x12_3 < (t341.length : Int)) = false := decide_eq_false c24
            clear c24
            by_cases c33 : x11_3 = true
            ·subst c33
             have H1 : (if t345.toList = ([] : List UInt8) then (cellarerlaw07_PagerGroups.j3 k3 t341 t344 t345 t346 x9_1 (rdOf ByteArray.empty t346 x9_1) false) else (if 0 ≤ (wrap64 (((rdOf ByteArray.empty t346 x9_1).size : Int) - 1)) then (if (wrap64 (((rdOf ByteArray.empty t346 x9_1).size : Int) - 1)) ≤ ((rdOf ByteArray.empty t346 x9_1).size : Int) then (cellarerlaw07_PagerGroups.j3 k3 t341 t344 t345 t346 x9_1 (rdOf ByteArray.empty t346 x9_1) (((rdOf ByteArray.empty t346 x9_1).extract ((wrap64 (((rdOf ByteArray.empty t346 x9_1).size : Int) - 1)) : Int).toNat (rdOf ByteArray.empty t346 x9_1).size).toList == t345.toList)) else (none)) else (none))) = some r := by rw [if_pos rfl] at H; exact H
             clear H
             have H := H1
             clear H1
             have HC34 := Aside0.mk H
             clear H
             go_upto_region 18 with (fail)
             go_cut [108] (fun v108 wc => ∃ (kq : Nat) (x108_33 : Bool), v108 = .bool x108_33 ∧ Aside0 (cellarerlaw07_PagerGroups.j3 kq t341 t344 t345 t346 x9_1 (rdOf ByteArray.empty t346 x9_1) x108_33 = some r) ∧ Aside0 (kq ≤ k3) ∧ Aside0 (Kd.S k50 50 wc w.heap.size (fun _ => True) (.slice Ao10 t341.length co10) t341) ∧ Aside0 (Kd.R Kd.string 9 wc w.heap.size (fun _ => True) (.slice (some ad352) t346.length co15) t346) ∧ Aside0 (Below w.heap.size w wc))
             case first =>
              have H := HC34.out
              clear HC34
              by_cases c35 : t345.toList = ([] : List UInt8)
              ·rw [if_pos c35] at H
               have c35b0 : (t345.toList == ([] : List UInt8)) = true := beq_iff_eq.mpr c35
               have c35b1 : (t345.toList != ([] : List UInt8)) = false := bne_eq_false_iff_eq.mpr c35
               clear c35
               (first | rw [c35b0] | rw [c35b1] | (simp only [i64_w, i32_w]; rw [c35b0]) | skip)
               have H' := Aside0.mk H
               clear H
               go_wp2
               go_meet
               case rel => exact ⟨_, (false), (by first | rfl | (simp; done) | (simp [*]; done)), H', ⟨by have := HK1.out; have := HJ13.out; have := HK3.out; first | omega | exact Nat.le_refl _⟩, ⟨by (with_reducible repeat (first | apply Kd.S_alloc | apply Kd.S_drewN | apply Kd.S_drew)); exact HO_0.out⟩, ⟨by (with_reducible repeat (first | apply Kd.R_alloc | apply Kd.R_drewN | apply Kd.R_drew)); exact HO_7.out⟩, ⟨by repeat (first | (with_reducible first | exact HB.out | apply below_alloc | apply pw_below_drewN | apply below_drew1) | exact HB.out)⟩⟩
              ·rw [if_neg c35] at H
               have c35b0 : (t345.toList == ([] : List UInt8)) = false := beq_eq_false_iff_ne.mpr c35
               have c35b1 : (t345.toList != ([] : List UInt8)) = true := bne_iff_ne.mpr c35
               (first | rw [c35b0] | rw [c35b1] | (simp only [i64_w, i32_w]; rw [c35b0]) | skip)
               obtain ⟨ji36, hji36⟩ : ∃ j_ : Int, (wrap64 (((rdOf ByteArray.empty t346 x9_1).size : Int) - 1)) = j_ := ⟨_, rfl⟩
               replace H : (if 0 ≤ (ji36) then (if (ji36) ≤ ((rdOf ByteArray.empty t346 x9_1).size : Int) then (cellarerlaw07_PagerGroups.j3 k3 t341 t344 t345 t346 x9_1 (rdOf ByteArray.empty t346 x9_1) (((rdOf ByteArray.empty t346 x9_1).extract ((ji36) : Int).toNat (rdOf ByteArray.empty t346 x9_1).size).toList == t345.toList)) else (none)) else (none)) = some r := by first | (rw [hji36] at H; exact H) | (simp only [hji36] at H ⊢; exact H)
               have hji36w : (IntKind.i64.wrap (((rdOf ByteArray.empty t346 x9_1).size : Int) - 1)) = ji36 := (i64_w _).trans hji36
               by_cases c37 : 0 ≤ (ji36)
               ·rw [if_pos c37] at H
                have c37b0 := eq_true c37
                have c37b1 : decide (0 ≤ (ji36)) = true := decide_eq_true c37
                clear c37
                by_cases c38 : (ji36) ≤ ((rdOf ByteArray.empty t346 x9_1).size : Int)
                ·rw [if_pos c38] at H
                 have c38b0 := eq_true c38
                 have c38b1 : decide ((ji36) ≤ ((rdOf ByteArray.empty t346 x9_1).size : Int)) = true := decide_eq_true c38
                 clear c38
                 have H' := Aside0.mk H
                 clear H
                 go_wp2
                 go_meet
                 case rel => exact ⟨_, ((((rdOf ByteArray.empty t346 x9_1).extract ((ji36) : Int).toNat (rdOf ByteArray.empty t346 x9_1).size).toList == t345.toList)), (by first | rfl | (simp; done) | (simp only [← hji36] <;> (first | rfl | simp)) | (simp [*]; done)), H', ⟨by have := HK1.out; have := HJ13.out; have := HK3.out; first | omega | exact Nat.le_refl _⟩, ⟨by (with_reducible repeat (first | apply Kd.S_alloc | apply Kd.S_drewN | apply Kd.S_drew)); exact HO_0.out⟩, ⟨by (with_reducible repeat (first | apply Kd.R_alloc | apply Kd.R_drewN | apply Kd.R_drew)); exact HO_7.out⟩, ⟨by repeat (first | (with_reducible first | exact HB.out | apply below_alloc | apply pw_below_drewN | apply below_drew1) | exact HB.out)⟩⟩
                ·rw [if_neg c38] at H
                 exact absurd H (by simp)
               ·rw [if_neg c37] at H
                exact absurd H (by simp)
             case rest =>
              clear HC34
              try clear c1
              try clear c2
              try clear p2
              try clear c3
              try clear p3
              try clear q3
              try clear hx3
              try clear c6
              try clear p6
              try clear c8
              try clear c8b0
              try clear c8b1
              try clear c12
              try clear c12b0
              try clear c13
              try clear c13b0
              try clear c17
              try clear c18
              try clear c18b0
              try clear c18b1
              try clear c19
              try clear c19b0
              try clear c20
              try clear c21
              try clear c21b0
              try clear c22
              try clear c22b0
              try clear c23
              try clear c24
              try clear c24b0
              try clear c25
              try clear c26
              try clear c26b0
              try clear c27
              try clear c27b0
              try clear c27b1
              try clear c29
              try clear c31
              try clear c31b0
              try clear c31b1
              try clear c32
              try clear c32b0
              try clear c32b1
              try clear c33
              try clear c35
              try clear c35b0
              try clear c35b1
              try clear p35
              try clear q35
              try clear hx35
              try clear c37
              try clear c37b0
              try clear c37b1
              try clear c38
              try clear c38b0
              try clear c38b1
              try clear hx352_0
              try clear hx354_0
              try clear hx355_0
              try clear hx355_1
              try clear hx356_0
              try clear hx356_1
              try clear p2
              try clear p3
              try clear p352
              try clear p354
              try clear p355
              try clear p356
              try clear p6
              try clear q3
              try clear q352
              try clear q354
              try clear q355
              try clear q356
              obtain ⟨kq, x108_33, rfl, HA, HJ33, HO_0, HO_7, HB⟩ := hcut
              cases kq with
              | zero => exact absurd HA.out (by simp [cellarerlaw07_PagerGroups.j3])
              | succ kj33 =>
               have H := HA.out
               clear HA
               simp only [cellarerlaw07_PagerGroups.j3] at H
               by_cases c39 : x108_33 = true
               ·subst c39
                have H1 : ((pager_Things.f kj33 t341 (rdOf ByteArray.empty t346 x9_1) t345).bind fun bt358 => (if bt358.2 = 0 then (if (bt358.1.length : Int) < 1 then (some false) else (cellarerlaw07_PagerGroups.l0 kj33 t341 t344 t345 t346 (wrap64 (x9_1 + 1)))) else (some false))) = some r := by rw [if_pos rfl] at H; exact H
                clear H
                have H := H1
                clear H1
                replace H := Option.bind_eq_some_iff.mp H
                obtain ⟨⟨t358, t359⟩, A400, H⟩ := H
                replace H : (if t359 = 0 then (if (t358.length : Int) < 1 then (some false) else (cellarerlaw07_PagerGroups.l0 kj33 t341 t344 t345 t346 (wrap64 (x9_1 + 1)))) else (some false)) = some r := H
                have A40 := Aside0.mk A400
                clear A400
                by_cases c41 : t359 = 0
                ·rw [if_pos c41] at H
                 have c41b0 : (t359 == 0) = true := beq_iff_eq.mpr c41
                 have c41b1 : (t359 != 0) = false := bne_eq_false_iff_eq.mpr c41
                 clear c41
                 by_cases c42 : (t358.length : Int) < 1
                 ·rw [if_pos c42] at H
                  have c42b0 : decide ((t358.length : Int) < 1) = true := decide_eq_true c42
                  have c42b1 : decide (t358.length < 1) = true := decide_eq_true (by omega)
                  clear c42
                  obtain rfl := Option.some.inj H
                  go_wp2_with (first | ((with_reducible refine gate_callee (f := 12) rfl ?_); refine goesL_ (some 113) rfl rfl Try.func12 (by kernel_rfl) rfl #[.slice Ao10 t341.length co10, .string (rdOf ByteArray.empty t346 x9_1), .string t345] rfl (by (try simp only [List.map_toArray, List.map_cons, List.map_nil]); first | done | rfl | (simp only [List.length_drop, List.length_take]; rfl)) ?_; (with_reducible refine (pager_Things.calls kj33 _ _ t341 (rdOf ByteArray.empty t346 x9_1) t345 t358 t359 _ ?side1 ?side2 A40.out).mono ?_); (case side1 => repeat (first | exact (Kd.S_reads' HO_0.out).2.2 | (with_reducible refine Kd.C_alloc ?_ _) | (with_reducible refine Kd.C_drewN ?_ _) | (with_reducible refine Kd.C_drew ?_))); (case side2 => exact (Kd.S_reads' HO_0.out).2.1); rintro e w43 ⟨v360, rfl, ho0, hb⟩; refine ⟨_, rfl, ?_⟩; have n0_ := Aside0.mk (Kd.S_below (by (with_reducible repeat (first | apply Kd.S_alloc | apply Kd.S_drewN | apply Kd.S_drew)); exact HO_0.out) hb); have n1_ := Aside0.mk (Kd.R_elder' (by (with_reducible repeat (first | apply Kd.R_alloc | apply Kd.R_drewN | apply Kd.R_drew)); exact HO_7.out) (Kd.R_base ho0) hb); have n2_ := Aside0.mk (Kd.R_lower (Kd.R_new' ho0 (Kd.R_lt (by (with_reducible repeat (first | apply Kd.R_alloc | apply Kd.R_drewN | apply Kd.R_drew)); exact HO_7.out))) (below_size (by repeat (first | (with_reducible first | exact HB.out | apply below_alloc | apply pw_below_drewN | apply below_drew1) | exact HB.out)))); have n3_ := Aside0.mk (below_step (by repeat (first | (with_reducible first | exact HB.out | apply below_alloc | apply pw_below_drewN | apply below_drew1) | exact HB.out)) hb); clear HO_0; clear HO_7; clear HB; have HO_0 := n0_; have HO_7 := n1_; have HO361 := n2_; have HB := n3_; clear n0_ n1_ n2_ n3_; (try clear hb); (try clear hb2); (try clear hk); (try clear hi); (try clear ho0); obtain ⟨Ao44, co44, eo44⟩ := Kd.R_slice HO361.out; subst eo44))
                  go_ret
                  exact ⟨by first | rfl | (simp [errW_none, errW_some] <;> rfl) | (simp [*, errW_none, errW_some] <;> rfl), by repeat (first | (with_reducible first | exact HB.out | apply below_alloc | apply pw_below_drewN | apply below_drew1) | exact HB.out)⟩
                 ·rw [if_neg c42] at H
                  have c42b0 : decide ((t358.length : Int) < 1) = false := decide_eq_false c42
                  have c42b1 : decide (t358.length < 1) = false := decide_eq_false (by omega)
                  clear c42
                  have H' := Aside0.mk H
                  clear H
                  go_wp2_with (first | ((with_reducible refine gate_callee (f := 12) rfl ?_); refine goesL_ (some 113) rfl rfl Try.func12 (by kernel_rfl) rfl #[.slice Ao10 t341.length co10, .string (rdOf ByteArray.empty t346 x9_1), .string t345] rfl (by (try simp only [List.map_toArray, List.map_cons, List.map_nil]); first | done | rfl | (simp only [List.length_drop, List.length_take]; rfl)) ?_; (with_reducible refine (pager_Things.calls kj33 _ _ t341 (rdOf ByteArray.empty t346 x9_1) t345 t358 t359 _ ?side1 ?side2 A40.out).mono ?_); (case side1 => repeat (first | exact (Kd.S_reads' HO_0.out).2.2 | (with_reducible refine Kd.C_alloc ?_ _) | (with_reducible refine Kd.C_drewN ?_ _) | (with_reducible refine Kd.C_drew ?_))); (case side2 => exact (Kd.S_reads' HO_0.out).2.1); rintro e w45 ⟨v360, rfl, ho0, hb⟩; refine ⟨_, rfl, ?_⟩; have n0_ := Aside0.mk (Kd.S_below (by (with_reducible repeat (first | apply Kd.S_alloc | apply Kd.S_drewN | apply Kd.S_drew)); exact HO_0.out) hb); have n1_ := Aside0.mk (Kd.R_elder' (by (with_reducible repeat (first | apply Kd.R_alloc | apply Kd.R_drewN | apply Kd.R_drew)); exact HO_7.out) (Kd.R_base ho0) hb); have n2_ := Aside0.mk (Kd.R_lower (Kd.R_new' ho0 (Kd.R_lt (by (with_reducible repeat (first | apply Kd.R_alloc | apply Kd.R_drewN | apply Kd.R_drew)); exact HO_7.out))) (below_size (by repeat (first | (with_reducible first | exact HB.out | apply below_alloc | apply pw_below_drewN | apply below_drew1) | exact HB.out)))); have n3_ := Aside0.mk (below_step (by repeat (first | (with_reducible first | exact HB.out | apply below_alloc | apply pw_below_drewN | apply below_drew1) | exact HB.out)) hb); clear HO_0; clear HO_7; clear HB; have HO_0 := n0_; have HO_7 := n1_; have HO361 := n2_; have HB := n3_; clear n0_ n1_ n2_ n3_; (try clear hb); (try clear hb2); (try clear hk); (try clear hi); (try clear ho0); obtain ⟨Ao46, co46, eo46⟩ := Kd.R_slice HO361.out; subst eo46))
                  go_roundg kj33
                  case measure => have := HK1.out; have := HJ13.out; have := HK3.out; have := HJ33.out; omega
                  case rel => exact ⟨(wrap64 (x9_1 + 1)), (by first | rfl | (simp; done) | (simp [*]; done)), H', ⟨by have := HK1.out; have := HJ13.out; have := HK3.out; have := HJ33.out; omega⟩, ⟨by (with_reducible repeat (first | apply Kd.S_alloc | apply Kd.S_drewN | apply Kd.S_drew)); exact HO_0.out⟩, ⟨by (with_reducible repeat (first | apply Kd.R_alloc | apply Kd.R_drewN | apply Kd.R_drew)); exact Kd.R_mono HO_7.out (fun _ hk => trivial)⟩, ⟨by repeat (first | (with_reducible first | exact HB.out | apply below_alloc | apply pw_below_drewN | apply below_drew1) | exact HB.out)⟩⟩
                ·rw [if_neg c41] at H
                 have c41b0 : (t359 == 0) = false := beq_eq_false_iff_ne.mpr c41
                 have c41b1 : (t359 != 0) = true := bne_iff_ne.mpr c41
                 obtain rfl := Option.some.inj H
                 go_wp2_with (first | ((with_reducible refine gate_callee (f := 12) rfl ?_); refine goesL_ (some 113) rfl rfl Try.func12 (by kernel_rfl) rfl #[.slice Ao10 t341.length co10, .string (rdOf ByteArray.empty t346 x9_1), .string t345] rfl (by (try simp only [List.map_toArray, List.map_cons, List.map_nil]); first | done | rfl | (simp only [List.length_drop, List.length_take]; rfl)) ?_; (with_reducible refine (pager_Things.calls kj33 _ _ t341 (rdOf ByteArray.empty t346 x9_1) t345 t358 t359 _ ?side1 ?side2 A40.out).mono ?_); (case side1 => repeat (first | exact (Kd.S_reads' HO_0.out).2.2 | (with_reducible refine Kd.C_alloc ?_ _) | (with_reducible refine Kd.C_drewN ?_ _) | (with_reducible refine Kd.C_drew ?_))); (case side2 => exact (Kd.S_reads' HO_0.out).2.1); rintro e w47 ⟨v360, rfl, ho0, hb⟩; refine ⟨_, rfl, ?_⟩; have n0_ := Aside0.mk (Kd.S_below (by (with_reducible repeat (first | apply Kd.S_alloc | apply Kd.S_drewN | apply Kd.S_drew)); exact HO_0.out) hb); have n1_ := Aside0.mk (Kd.R_elder' (by (with_reducible repeat (first | apply Kd.R_alloc | apply Kd.R_drewN | apply Kd.R_drew)); exact HO_7.out) (Kd.R_base ho0) hb); have n2_ := Aside0.mk (Kd.R_lower (Kd.R_new' ho0 (Kd.R_lt (by (with_reducible repeat (first | apply Kd.R_alloc | apply Kd.R_drewN | apply Kd.R_drew)); exact HO_7.out))) (below_size (by repeat (first | (with_reducible first | exact HB.out | apply below_alloc | apply pw_below_drewN | apply below_drew1) | exact HB.out)))); have n3_ := Aside0.mk (below_step (by repeat (first | (with_reducible first | exact HB.out | apply below_alloc | apply pw_below_drewN | apply below_drew1) | exact HB.out)) hb); clear HO_0; clear HO_7; clear HB; have HO_0 := n0_; have HO_7 := n1_; have HO361 := n2_; have HB := n3_; clear n0_ n1_ n2_ n3_; (try clear hb); (try clear hb2); (try clear hk); (try clear hi); (try clear ho0)))
                 go_ret
                 exact ⟨by first | rfl | (simp [errW_none, errW_some] <;> rfl) | (simp [*, errW_none, errW_some] <;> rfl), by repeat (first | (with_reducible first | exact HB.out | apply below_alloc | apply pw_below_drewN | apply below_drew1) | exact HB.out)⟩
               ·replace c39 := Bool.eq_false_iff.mpr c39
                subst c39
                have H1 : (cellarerlaw07_PagerGroups.l0 kj33 t341 t344 t345 t346 (wrap64 (x9_1 + 1))) = some r := by rw [if_neg (show ¬ (false = true) by decide)] at H; exact H
                clear H
                have H := H1
                clear H1
                have H' := Aside0.mk H
                clear H
                go_wp2
                go_roundg kj33
                case measure => have := HK1.out; have := HJ13.out; have := HK3.out; have := HJ33.out; omega
                case rel => exact ⟨(wrap64 (x9_1 + 1)), (by first | rfl | (simp; done) | (simp [*]; done)), H', ⟨by have := HK1.out; have := HJ13.out; have := HK3.out; have := HJ33.out; omega⟩, ⟨by (with_reducible repeat (first | apply Kd.S_alloc | apply Kd.S_drewN | apply Kd.S_drew)); exact HO_0.out⟩, ⟨by (with_reducible repeat (first | apply Kd.R_alloc | apply Kd.R_drewN | apply Kd.R_drew)); exact HO_7.out⟩, ⟨by repeat (first | (with_reducible first | exact HB.out | apply below_alloc | apply pw_below_drewN | apply below_drew1) | exact HB.out)⟩⟩
            ·replace c33 := Bool.eq_false_iff.mpr c33
             subst c33
             have H1 : (some false) = some r := by rw [if_neg (show ¬ (false = true) by decide)] at H; exact H
             clear H
             have H := H1
             clear H1
             obtain rfl := Option.some.inj H
             go_wp2
             go_ret
             exact ⟨by first | rfl | (simp [errW_none, errW_some] <;> rfl) | (simp [*, errW_none, errW_some] <;> rfl), by repeat (first | (with_reducible first | exact HB.out | apply below_alloc | apply pw_below_drewN | apply below_drew1) | exact HB.out)⟩
     ·rw [if_neg c13] at H
      exact absurd H (by simp)
    ·rw [if_neg c12] at H
     have c12b0 : decide (x9_1 < (t346.length : Int)) = false := decide_eq_false c12
     clear c12
     replace H := Option.bind_eq_some_iff.mp H
     obtain ⟨t351, A480, H⟩ := H
     replace H : (some t351) = some r := H
     have A48 := Aside0.mk A480
     clear A480
     obtain rfl := Option.some.inj H
     obtain ⟨Ao49, co49, eo49⟩ := Kd.R_slice HO_7.out
     subst eo49
     go_wp2_with (first | ((with_reducible refine gate_callee (f := 14) rfl ?_); refine goesL_ (some 123) rfl rfl Try.func14 (by kernel_rfl) rfl #[] rfl (by (try simp only [List.map_toArray, List.map_cons, List.map_nil]); first | done | rfl | (simp only [List.length_drop, List.length_take]; rfl)) ?_; (with_reducible refine (cellarerlaw07_awake.calls  t351 _ A48.out).mono ?_); rintro e w50 ⟨rfl, hb⟩; refine ⟨_, rfl, ?_⟩; have n0_ := Aside0.mk (Kd.S_below (by (with_reducible repeat (first | apply Kd.S_alloc | apply Kd.S_drewN | apply Kd.S_drew)); exact HO_0.out) hb); have n1_ := Aside0.mk (Kd.R_below (by (with_reducible repeat (first | apply Kd.R_alloc | apply Kd.R_drewN | apply Kd.R_drew)); exact HO_7.out) hb); have n2_ := Aside0.mk (below_step (by repeat (first | (with_reducible first | exact HB.out | apply below_alloc | apply pw_below_drewN | apply below_drew1) | exact HB.out)) hb); clear HO_0; clear HO_7; clear HB; have HO_0 := n0_; have HO_7 := n1_; have HB := n2_; clear n0_ n1_ n2_; (try clear hb); (try clear hb2); (try clear hk); (try clear hi)))
     go_ret
     exact ⟨by first | rfl | (simp [errW_none, errW_some] <;> rfl) | (simp [*, errW_none, errW_some] <;> rfl), by repeat (first | (with_reducible first | exact HB.out | apply below_alloc | apply pw_below_drewN | apply below_drew1) | exact HB.out)⟩
 ·rw [if_neg c8] at H
  have c8b0 : (t347 == 0) = false := beq_eq_false_iff_ne.mpr c8
  have c8b1 : (t347 != 0) = true := bne_iff_ne.mpr c8
  replace H := Option.bind_eq_some_iff.mp H
  obtain ⟨t350, A510, H⟩ := H
  replace H : (some t350) = some r := H
  have A51 := Aside0.mk A510
  clear A510
  obtain rfl := Option.some.inj H
  go_enter Try.func6, Try.ntmps6
  go_wp2_with (first | ((with_reducible refine gate_callee (f := 19) rfl ?_); refine goesL_ (some 16) rfl rfl Try.func19 (by kernel_rfl) rfl #[.slice A0 l0.length c0] rfl (by (try simp only [List.map_toArray, List.map_cons, List.map_nil]); first | done | rfl | (simp only [List.length_drop, List.length_take]; rfl)) ?_; (with_reducible refine (cellarerlaw06_Few.calls k _ _ l0 t341 _ ?side1 ?side2 A4.out).mono ?_); (case side1 => repeat (first | exact HR0.out | (with_reducible refine Kd.C_alloc ?_ _) | (with_reducible refine Kd.C_drewN ?_ _) | (with_reducible refine Kd.C_drew ?_))); (case side2 => exact HC0.out); rintro e w52 ⟨v342, rfl, ho0, hb⟩; refine ⟨_, rfl, ?_⟩; have n0_ := Aside0.mk (Kd.S_lower ho0 (below_size (by repeat (first | (with_reducible first | exact HB.out | apply below_alloc | apply pw_below_drewN | apply below_drew1) | exact HB.out)))); have n1_ := Aside0.mk (below_step (by repeat (first | (with_reducible first | exact HB.out | apply below_alloc | apply pw_below_drewN | apply below_drew1) | exact HB.out)) hb); clear HB; have HO343 := n0_; have HB := n1_; clear n0_ n1_; (try clear hb); (try clear hb2); (try clear hk); (try clear hi); (try clear ho0)) | ((with_reducible refine gate_callee (f := 20) rfl ?_); refine goesL_ (some 18) rfl rfl Try.func20 (by kernel_rfl) rfl #[.string a1] rfl (by (try simp only [List.map_toArray, List.map_cons, List.map_nil]); first | done | rfl | (simp only [List.length_drop, List.length_take]; rfl)) ?_; (with_reducible refine (cellarerlaw01_Few.calls a1 t344 _ A5.out).mono ?_); rintro e w' ⟨rfl, ⟨nd, rfl⟩⟩; refine ⟨_, rfl, ?_⟩) | ((with_reducible refine gate_callee (f := 20) rfl ?_); refine goesL_ (some 20) rfl rfl Try.func20 (by kernel_rfl) rfl #[.string a2] rfl (by (try simp only [List.map_toArray, List.map_cons, List.map_nil]); first | done | rfl | (simp only [List.length_drop, List.length_take]; rfl)) ?_; (with_reducible refine (cellarerlaw01_Few.calls a2 t345 _ A6.out).mono ?_); rintro e w' ⟨rfl, ⟨nd, rfl⟩⟩; refine ⟨_, rfl, ?_⟩; obtain ⟨Ao53, co53, eo53⟩ := Kd.S_slice HO343.out; subst eo53) | ((with_reducible refine gate_callee (f := 12) rfl ?_); refine goesL_ (some 25) rfl rfl Try.func12 (by kernel_rfl) rfl #[.slice Ao53 t341.length co53, .string t344, .string t345] rfl (by (try simp only [List.map_toArray, List.map_cons, List.map_nil]); first | done | rfl | (simp only [List.length_drop, List.length_take]; rfl)) ?_; (with_reducible refine (pager_Things.calls k _ _ t341 t344 t345 t346 t347 _ ?side1 ?side2 A7.out).mono ?_); (case side1 => repeat (first | exact (Kd.S_reads' HO343.out).2.2 | (with_reducible refine Kd.C_alloc ?_ _) | (with_reducible refine Kd.C_drewN ?_ _) | (with_reducible refine Kd.C_drew ?_))); (case side2 => exact (Kd.S_reads' HO343.out).2.1); rintro e w54 ⟨v348, rfl, ho0, hb⟩; refine ⟨_, rfl, ?_⟩; have n0_ := Aside0.mk (Kd.S_below (by (with_reducible repeat (first | apply Kd.S_alloc | apply Kd.S_drewN | apply Kd.S_drew)); exact HO343.out) hb); have n1_ := Aside0.mk (Kd.R_lower ho0 (below_size (by repeat (first | (with_reducible first | exact HB.out | apply below_alloc | apply pw_below_drewN | apply below_drew1) | exact HB.out)))); have n2_ := Aside0.mk (below_step (by repeat (first | (with_reducible first | exact HB.out | apply below_alloc | apply pw_below_drewN | apply below_drew1) | exact HB.out)) hb); clear HO343; clear HB; have HO343 := n0_; have HO349 := n1_; have HB := n2_; clear n0_ n1_ n2_; (try clear hb); (try clear hb2); (try clear hk); (try clear hi); (try clear ho0)) | ((with_reducible refine gate_callee (f := 14) rfl ?_); refine goesL_ (some 30) rfl rfl Try.func14 (by kernel_rfl) rfl #[] rfl (by (try simp only [List.map_toArray, List.map_cons, List.map_nil]); first | done | rfl | (simp only [List.length_drop, List.length_take]; rfl)) ?_; (with_reducible refine (cellarerlaw07_awake.calls  t350 _ A51.out).mono ?_); rintro e w55 ⟨rfl, hb⟩; refine ⟨_, rfl, ?_⟩; have n0_ := Aside0.mk (Kd.S_below (by (with_reducible repeat (first | apply Kd.S_alloc | apply Kd.S_drewN | apply Kd.S_drew)); exact HO343.out) hb); have n1_ := Aside0.mk (Kd.R_below (by (with_reducible repeat (first | apply Kd.R_alloc | apply Kd.R_drewN | apply Kd.R_drew)); exact HO349.out) hb); have n2_ := Aside0.mk (below_step (by repeat (first | (with_reducible first | exact HB.out | apply below_alloc | apply pw_below_drewN | apply below_drew1) | exact HB.out)) hb); clear HO343; clear HO349; clear HB; have HO343 := n0_; have HO349 := n1_; have HB := n2_; clear n0_ n1_ n2_; (try clear hb); (try clear hb2); (try clear hk); (try clear hi)))
  go_ret
  exact ⟨by first | rfl | (simp [errW_none, errW_some] <;> rfl) | (simp [*, errW_none, errW_some] <;> rfl), by repeat (first | (with_reducible first | exact HB.out | apply below_alloc | apply pw_below_drewN | apply below_drew1) | exact HB.out)⟩

/-- THE ONE PURE STATEMENT of cellarerlaw07_PagerGroups. -/
-- GIVEN cellarerlaw07_PagerGroups.Pure
def cellarerlaw07_PagerGroups.Pure : Prop := ∀ (l0 : List (S50)) (a1 : ByteArray) (a2 : ByteArray), (l0.length ≤ maxLen ∧ ∀ y1_ ∈ l0, okS50 y1_) → a1.size ≤ maxLen → a2.size ≤ maxLen → ∃ k, cellarerlaw07_PagerGroups.f k l0 a1 a2 = some true

-- NOT PRINTED: function 7 (cellarerlaw07_PagerSizes)

-- NOT PRINTED: function 38 (api_Row)

-- NOT PRINTED: function 22 (pager_Rows)

end Go.Proofs.Ytcnnijkgiioniaa.P
