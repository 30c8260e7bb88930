/- Printed by a program of this session (wip/tools/gprint.py, over the kit's print) out of the translation: functions and their contracts. -/
import Derived.Test.YtldmidoemcdaaaaPx0
import Derived.Test.YtldmidoemcdaaaaPx1
import Derived.Test.YtldmidoemcdaaaaPx2
import Derived.Test.YtldmidoemcdaaaaPx3
import Derived.Test.YtldmidoemcdaaaaPx6
import Derived.Test.YtldmidoemcdaaaaPx11
import Derived.Test.YtldmidoemcdaaaaPxOpens
namespace Go.Proofs.Ytldmidoemcdaaaa.P
open Go.RowKit Go.Proofs.YtldmidoemcdaaaaW.PrintWords Go.Proofs.YtldmidoemcdaaaaW.PrintLast Go.Proofs.YtldmidoemcdaaaaW.PrintMore
attribute [local go_sem] max2_int min2_int max_two min_two max_three min_three max_four min_four   -- for this text's walks alone
set_option linter.unusedVariables false
set_option linter.unusedSimpArgs false

attribute [local go_sem high] eqA25
/-! ### cellarerlaw05_ChainOff: function 4 -/
mutual
def cellarerlaw05_ChainOff.l0 : Nat → List (S42) → List (S25) → Int → Option (Bool)
  | 0, _, _, _ => none
  | k + 1, x0, x3, x4 => if x4 < (x0.length : Int) then (cellarerlaw05_ChainOff.j1 k x0 x3 x4 (decide (x4 < 20))) else (cellarerlaw05_ChainOff.j1 k x0 x3 x4 false)
def cellarerlaw05_ChainOff.j1 : Nat → List (S42) → List (S25) → Int → Bool → Option (Bool)
  | 0, _, _, _, _ => none
  | k + 1, x0, x3, x4, x15 => if x15 = true then (if 0 ≤ x4 then (if x4 < (x0.length : Int) then ((cellarerlaw05_One.f 0 ((rd_T42 x0 x4).f2) false x4).bind fun bt235 => (if (rd_T42 x0 x4).f1 = true then ((chain_Delete.f k x3 0 9 x4).bind fun bt241 => (if ((bt241.2 == 0) != ((x3.length : Int) == 1)) = true then (cellarerlaw05_ChainOff.j2 k x0 x3 x4 bt241.1 bt241.2 true) else (if bt241.2 = 0 then (cellarerlaw05_ChainOff.j2 k x0 x3 x4 bt241.1 bt241.2 ((bt241.1.length : Int) != 0)) else (cellarerlaw05_ChainOff.j2 k x0 x3 x4 bt241.1 bt241.2 false)))) else ((chain_Put.f x3 0 bt235.1 bt235.2.1 bt235.2.2.1 bt235.2.2.2).bind fun bt245 => (if ((bt245.2 == 0) != (decide ((bt235.2.1.size : Int) ≤ 2000))) = true then (cellarerlaw05_ChainOff.j3 k x0 x3 x4 bt245.1 bt245.2 true) else (if bt245.2 = 0 then (if (bt245.1.length : Int) = 1 then (if 0 < (bt245.1.length : Int) then (cellarerlaw05_ChainOff.j3 k x0 x3 x4 bt245.1 bt245.2 (!(((rd_T25 bt245.1 0).f0) == bt235.1) || (!((((rd_T25 bt245.1 0).f1).toList) == bt235.2.1.toList) || (!(((rd_T25 bt245.1 0).f2) == bt235.2.2.1) || (!(((rd_T25 bt245.1 0).f3) == bt235.2.2.2)))))) else (none)) else (cellarerlaw05_ChainOff.j3 k x0 x3 x4 bt245.1 bt245.2 true)) else (cellarerlaw05_ChainOff.j3 k x0 x3 x4 bt245.1 bt245.2 false)))))) else (none)) else (none)) else ((cellarerlaw05_awake.f).bind fun t233 => (some t233))
def cellarerlaw05_ChainOff.j4 : Nat → List (S42) → List (S25) → Int → List (S25) → Int → Option (Bool)
  | 0, _, _, _, _, _ => none
  | k + 1, x0, x3, x4, x6, x7 => if x7 = 0 then (cellarerlaw05_ChainOff.l0 k x0 x6 (wrap64 (x4 + 1))) else (cellarerlaw05_ChainOff.l0 k x0 x3 (wrap64 (x4 + 1)))
def cellarerlaw05_ChainOff.j2 : Nat → List (S42) → List (S25) → Int → List (S25) → Int → Bool → Option (Bool)
  | 0, _, _, _, _, _, _ => none
  | k + 1, x0, x3, x4, x6, x7, x52 => if x52 = true then (some false) else (cellarerlaw05_ChainOff.j4 k x0 x3 x4 x6 x7)
def cellarerlaw05_ChainOff.j3 : Nat → List (S42) → List (S25) → Int → List (S25) → Int → Bool → Option (Bool)
  | 0, _, _, _, _, _, _ => none
  | k + 1, x0, x3, x4, x6, x7, x81 => if x81 = true then (some false) else (cellarerlaw05_ChainOff.j4 k x0 x3 x4 x6 x7)
end
def cellarerlaw05_ChainOff.f (k : Nat) (l0 : List (S42)) : Option (Bool) := cellarerlaw05_ChainOff.l0 k l0 ([] : List (S25)) 0
theorem cellarerlaw05_ChainOff.mono_l : ∀ k, (∀ y0 y1 y2, LeO (cellarerlaw05_ChainOff.l0 k y0 y1 y2) (cellarerlaw05_ChainOff.l0 (k + 1) y0 y1 y2)) ∧ (∀ y0 y1 y2 y3, LeO (cellarerlaw05_ChainOff.j1 k y0 y1 y2 y3) (cellarerlaw05_ChainOff.j1 (k + 1) y0 y1 y2 y3)) ∧ (∀ y0 y1 y2 y3 y4, LeO (cellarerlaw05_ChainOff.j4 k y0 y1 y2 y3 y4) (cellarerlaw05_ChainOff.j4 (k + 1) y0 y1 y2 y3 y4)) ∧ (∀ y0 y1 y2 y3 y4 y5, LeO (cellarerlaw05_ChainOff.j2 k y0 y1 y2 y3 y4 y5) (cellarerlaw05_ChainOff.j2 (k + 1) y0 y1 y2 y3 y4 y5)) ∧ (∀ y0 y1 y2 y3 y4 y5, LeO (cellarerlaw05_ChainOff.j3 k y0 y1 y2 y3 y4 y5) (cellarerlaw05_ChainOff.j3 (k + 1) y0 y1 y2 y3 y4 y5))
  | 0 => ⟨fun _ _ _ r h => by simp [cellarerlaw05_ChainOff.l0] at h, fun _ _ _ _ r h => by simp [cellarerlaw05_ChainOff.j1] at h, fun _ _ _ _ _ r h => by simp [cellarerlaw05_ChainOff.j4] at h, fun _ _ _ _ _ _ r h => by simp [cellarerlaw05_ChainOff.j2] at h, fun _ _ _ _ _ _ r h => by simp [cellarerlaw05_ChainOff.j3] at h⟩
  | k + 1 => by
    obtain ⟨ih0, ih1, ih2, ih3, ih4⟩ := cellarerlaw05_ChainOff.mono_l k
    refine ⟨?_, ?_, ?_, ?_, ?_⟩
    · intro y0 y1 y2
      unfold cellarerlaw05_ChainOff.l0
      repeat' first
      | (with_reducible exact ih0 _ _ _)
      | (with_reducible exact ih1 _ _ _ _)
      | (with_reducible exact ih2 _ _ _ _ _)
      | (with_reducible exact ih3 _ _ _ _ _ _)
      | (with_reducible exact ih4 _ _ _ _ _ _)
      | (with_reducible exact chain_Delete.mono _ _ _ _ _)
      | (with_reducible exact LeO.refl _)
      | (with_reducible exact LeO.none _)
      | (with_reducible refine LeO.ite ?_ ?_)
      | (with_reducible refine LeO.bind ?_ (fun _ => ?_))
      | exact ih0 _ _ _
      | exact ih1 _ _ _ _
      | exact ih2 _ _ _ _ _
      | exact ih3 _ _ _ _ _ _
      | exact ih4 _ _ _ _ _ _
      | exact chain_Delete.mono _ _ _ _ _
      | exact LeO.none _
      | refine LeO.ite ?_ ?_
      | refine LeO.bind ?_ (fun _ => ?_)
    · intro y0 y1 y2 y3
      unfold cellarerlaw05_ChainOff.j1
      repeat' first
      | (with_reducible exact ih0 _ _ _)
      | (with_reducible exact ih1 _ _ _ _)
      | (with_reducible exact ih2 _ _ _ _ _)
      | (with_reducible exact ih3 _ _ _ _ _ _)
      | (with_reducible exact ih4 _ _ _ _ _ _)
      | (with_reducible exact chain_Delete.mono _ _ _ _ _)
      | (with_reducible exact LeO.refl _)
      | (with_reducible exact LeO.none _)
      | (with_reducible refine LeO.ite ?_ ?_)
      | (with_reducible refine LeO.bind ?_ (fun _ => ?_))
      | exact ih0 _ _ _
      | exact ih1 _ _ _ _
      | exact ih2 _ _ _ _ _
      | exact ih3 _ _ _ _ _ _
      | exact ih4 _ _ _ _ _ _
      | exact chain_Delete.mono _ _ _ _ _
      | exact LeO.none _
      | refine LeO.ite ?_ ?_
      | refine LeO.bind ?_ (fun _ => ?_)
    · intro y0 y1 y2 y3 y4
      unfold cellarerlaw05_ChainOff.j4
      repeat' first
      | (with_reducible exact ih0 _ _ _)
      | (with_reducible exact ih1 _ _ _ _)
      | (with_reducible exact ih2 _ _ _ _ _)
      | (with_reducible exact ih3 _ _ _ _ _ _)
      | (with_reducible exact ih4 _ _ _ _ _ _)
      | (with_reducible exact chain_Delete.mono _ _ _ _ _)
      | (with_reducible exact LeO.refl _)
      | (with_reducible exact LeO.none _)
      | (with_reducible refine LeO.ite ?_ ?_)
      | (with_reducible refine LeO.bind ?_ (fun _ => ?_))
      | exact ih0 _ _ _
      | exact ih1 _ _ _ _
      | exact ih2 _ _ _ _ _
      | exact ih3 _ _ _ _ _ _
      | exact ih4 _ _ _ _ _ _
      | exact chain_Delete.mono _ _ _ _ _
      | exact LeO.none _
      | refine LeO.ite ?_ ?_
      | refine LeO.bind ?_ (fun _ => ?_)
    · intro y0 y1 y2 y3 y4 y5
      unfold cellarerlaw05_ChainOff.j2
      repeat' first
      | (with_reducible exact ih0 _ _ _)
      | (with_reducible exact ih1 _ _ _ _)
      | (with_reducible exact ih2 _ _ _ _ _)
      | (with_reducible exact ih3 _ _ _ _ _ _)
      | (with_reducible exact ih4 _ _ _ _ _ _)
      | (with_reducible exact chain_Delete.mono _ _ _ _ _)
      | (with_reducible exact LeO.refl _)
      | (with_reducible exact LeO.none _)
      | (with_reducible refine LeO.ite ?_ ?_)
      | (with_reducible refine LeO.bind ?_ (fun _ => ?_))
      | exact ih0 _ _ _
      | exact ih1 _ _ _ _
      | exact ih2 _ _ _ _ _
      | exact ih3 _ _ _ _ _ _
      | exact ih4 _ _ _ _ _ _
      | exact chain_Delete.mono _ _ _ _ _
      | exact LeO.none _
      | refine LeO.ite ?_ ?_
      | refine LeO.bind ?_ (fun _ => ?_)
    · intro y0 y1 y2 y3 y4 y5
      unfold cellarerlaw05_ChainOff.j3
      repeat' first
      | (with_reducible exact ih0 _ _ _)
      | (with_reducible exact ih1 _ _ _ _)
      | (with_reducible exact ih2 _ _ _ _ _)
      | (with_reducible exact ih3 _ _ _ _ _ _)
      | (with_reducible exact ih4 _ _ _ _ _ _)
      | (with_reducible exact chain_Delete.mono _ _ _ _ _)
      | (with_reducible exact LeO.refl _)
      | (with_reducible exact LeO.none _)
      | (with_reducible refine LeO.ite ?_ ?_)
      | (with_reducible refine LeO.bind ?_ (fun _ => ?_))
      | exact ih0 _ _ _
      | exact ih1 _ _ _ _
      | exact ih2 _ _ _ _ _
      | exact ih3 _ _ _ _ _ _
      | exact ih4 _ _ _ _ _ _
      | exact chain_Delete.mono _ _ _ _ _
      | exact LeO.none _
      | refine LeO.ite ?_ ?_
      | refine LeO.bind ?_ (fun _ => ?_)
theorem cellarerlaw05_ChainOff.mono : ∀ a0 k, LeO (cellarerlaw05_ChainOff.f k a0) (cellarerlaw05_ChainOff.f (k + 1) a0) := by
  intro a0 k
  obtain ⟨ih0, ih1, ih2, ih3, ih4⟩ := cellarerlaw05_ChainOff.mono_l k
  unfold cellarerlaw05_ChainOff.f
  repeat' first
      | (with_reducible exact ih0 _ _ _)
      | (with_reducible exact ih1 _ _ _ _)
      | (with_reducible exact ih2 _ _ _ _ _)
      | (with_reducible exact ih3 _ _ _ _ _ _)
      | (with_reducible exact ih4 _ _ _ _ _ _)
      | (with_reducible exact chain_Delete.mono _ _ _ _ _)
      | (with_reducible exact LeO.refl _)
      | (with_reducible exact LeO.none _)
      | (with_reducible refine LeO.ite ?_ ?_)
      | (with_reducible refine LeO.bind ?_ (fun _ => ?_))
      | exact ih0 _ _ _
      | exact ih1 _ _ _ _
      | exact ih2 _ _ _ _ _
      | exact ih3 _ _ _ _ _ _
      | exact ih4 _ _ _ _ _ _
      | exact chain_Delete.mono _ _ _ _ _
      | exact LeO.none _
      | refine LeO.ite ?_ ?_
      | refine LeO.bind ?_ (fun _ => ?_)
set_option maxHeartbeats 8000000 in
set_option maxRecDepth 100000 in
theorem cellarerlaw05_ChainOff.calls (k : Nat) (A0 : Option Addr) (c0 : Nat) (l0 : List (S42)) (r : Bool) (w : World) (hr0 : Kd.C k42 w A0 l0.length l0) (hc0 : l0.length ≤ c0) (h : cellarerlaw05_ChainOff.f k l0 = some r) :
  Calls Try.prog 4 #[.slice A0 l0.length c0] w fun e w' => e = .returned (.bool r) ∧ Below w.heap.size w w' := by
 have hu25 := Try.underlying25
 have HR0 := Aside0.mk hr0
 have HC0 := Aside0.mk hc0
 clear hr0 hc0
 have HB := Aside0.mk (Below.refl w.heap.size w)
 have H : (cellarerlaw05_ChainOff.l0 k l0 ([] : List (S25)) 0) = some r := h
 clear h
 have H' := Aside0.mk H
 clear H
 go_enter Try.func4, Try.ntmps4
 go_wp2
 repeat (go_quiet (fail); try go_wp2)
 go_loopg [3, 4] k (fun kq v3 v4 w' => ∃ (x3_1 : List (S25)) (x4_1 : Int), v4 = .int .i64 x4_1 ∧ Aside0 (cellarerlaw05_ChainOff.l0 kq l0 x3_1 x4_1 = some r) ∧ Aside0 (kq ≤ k) ∧ Aside0 (Kd.R k25 25 w' w.heap.size (fun _ => True) v3 x3_1) ∧ Aside0 (Below w.heap.size w w'))
 case atStart => exact ⟨(([] : List (S25))), (0), (by first | rfl | (simp; done) | (simp [*]; done)), H', ⟨Nat.le_refl _⟩, ⟨by first | exact Kd.R_nil _ _ _ _ _ | exact Kd.N_nil _ _ _ _ _ | exact Kd.V_nil _ _ _ _ _ | exact Kd.Q_nil _ _ _ _ _ | exact Kd.S_nil _ _ _ _ _⟩, ⟨by repeat (first | (with_reducible first | exact HB.out | apply below_alloc | apply pw_below_drewN | apply below_drew1) | exact HB.out)⟩⟩
 case round =>
  clear H'
  obtain ⟨x3_1, x4_1, rfl, HA, HK1, HO_3, HB⟩ := hrel
  cases gk with
  | zero => exact absurd HA.out (by simp [cellarerlaw05_ChainOff.l0])
  | succ k1 =>
   have H := HA.out
   clear HA
   simp only [cellarerlaw05_ChainOff.l0] at H
   have HC2 := Aside0.mk H
   clear H
   go_upto_region 3 with (fail)
   repeat (go_quiet (fail); go_upto_region 3 with (fail))
   go_cut [15] (fun v15 wc => ∃ (kq : Nat) (x15_1 : Bool), v15 = .bool x15_1 ∧ Aside0 (cellarerlaw05_ChainOff.j1 kq l0 x3_1 x4_1 x15_1 = some r) ∧ Aside0 (kq ≤ k1) ∧ Aside0 (Kd.R k25 25 wc w.heap.size (fun _ => True) u3 x3_1) ∧ Aside0 (Below w.heap.size w wc))
   case first =>
    have H := HC2.out
    clear HC2
    by_cases c3 : x4_1 < (l0.length : Int)
    ·rw [if_pos c3] at H
     have c3b0 : decide (x4_1 < (l0.length : Int)) = true := decide_eq_true c3
     clear c3
     (first | rw [c3b0] | (simp only [i64_w, i32_w]; rw [c3b0]) | skip)
     have H' := Aside0.mk H
     clear H
     go_wp2
     repeat (go_quiet (fail); try go_wp2)
     go_meet
     case rel => exact ⟨_, (decide (x4_1 < 20)), (by first | rfl | (simp; done) | (simp [*]; done)), H', ⟨by have := HK1.out; first | omega | exact Nat.le_refl _⟩, ⟨by (with_reducible repeat (first | apply Kd.R_alloc | apply Kd.R_drewN | apply Kd.R_drew)); first | exact HO_3.out | exact Kd.R_mono HO_3.out (fun _ hk => hk.1) | exact Kd.R_mono HO_3.out (fun _ hk => hk.2)⟩, ⟨by repeat (first | (with_reducible first | exact HB.out | apply below_alloc | apply pw_below_drewN | apply below_drew1) | exact HB.out)⟩⟩
    ·rw [if_neg c3] at H
     have c3b0 : decide (x4_1 < (l0.length : Int)) = false := decide_eq_false c3
     clear c3
     (first | rw [c3b0] | (simp only [i64_w, i32_w]; rw [c3b0]) | skip)
     have H' := Aside0.mk H
     clear H
     go_wp2
     repeat (go_quiet (fail); try go_wp2)
     go_meet
     case rel => exact ⟨_, (false), (by first | rfl | (simp; done) | (simp [*]; done)), H', ⟨by have := HK1.out; first | omega | exact Nat.le_refl _⟩, ⟨by (with_reducible repeat (first | apply Kd.R_alloc | apply Kd.R_drewN | apply Kd.R_drew)); first | exact HO_3.out | exact Kd.R_mono HO_3.out (fun _ hk => hk.1) | exact Kd.R_mono HO_3.out (fun _ hk => hk.2)⟩, ⟨by repeat (first | (with_reducible first | exact HB.out | apply below_alloc | apply pw_below_drewN | apply below_drew1) | exact HB.out)⟩⟩
   case rest =>
    clear HC2
    try clear p2
    try clear c3
    try clear c3b0
    obtain ⟨kq, x15_1, rfl, HA, HJ1, HO_3, HB⟩ := hcut
    cases kq with
    | zero => exact absurd HA.out (by simp [cellarerlaw05_ChainOff.j1])
    | succ kj1 =>
     have H := HA.out
     clear HA
     simp only [cellarerlaw05_ChainOff.j1] at H
     by_cases c4 : x15_1 = true
     ·subst c4
      have H1 : (if 0 ≤ x4_1 then (if x4_1 < (l0.length : Int) then ((cellarerlaw05_One.f 0 ((rd_T42 l0 x4_1).f2) false x4_1).bind fun bt235 => (if (rd_T42 l0 x4_1).f1 = true then ((chain_Delete.f kj1 x3_1 0 9 x4_1).bind fun bt241 => (if ((bt241.2 == 0) != ((x3_1.length : Int) == 1)) = true then (cellarerlaw05_ChainOff.j2 kj1 l0 x3_1 x4_1 bt241.1 bt241.2 true) else (if bt241.2 = 0 then (cellarerlaw05_ChainOff.j2 kj1 l0 x3_1 x4_1 bt241.1 bt241.2 ((bt241.1.length : Int) != 0)) else (cellarerlaw05_ChainOff.j2 kj1 l0 x3_1 x4_1 bt241.1 bt241.2 false)))) else ((chain_Put.f x3_1 0 bt235.1 bt235.2.1 bt235.2.2.1 bt235.2.2.2).bind fun bt245 => (if ((bt245.2 == 0) != (decide ((bt235.2.1.size : Int) ≤ 2000))) = true then (cellarerlaw05_ChainOff.j3 kj1 l0 x3_1 x4_1 bt245.1 bt245.2 true) else (if bt245.2 = 0 then (if (bt245.1.length : Int) = 1 then (if 0 < (bt245.1.length : Int) then (cellarerlaw05_ChainOff.j3 kj1 l0 x3_1 x4_1 bt245.1 bt245.2 (!(((rd_T25 bt245.1 0).f0) == bt235.1) || (!((((rd_T25 bt245.1 0).f1).toList) == bt235.2.1.toList) || (!(((rd_T25 bt245.1 0).f2) == bt235.2.2.1) || (!(((rd_T25 bt245.1 0).f3) == bt235.2.2.2)))))) else (none)) else (cellarerlaw05_ChainOff.j3 kj1 l0 x3_1 x4_1 bt245.1 bt245.2 true)) else (cellarerlaw05_ChainOff.j3 kj1 l0 x3_1 x4_1 bt245.1 bt245.2 false)))))) else (none)) else (none)) = some r := by rw [if_pos rfl] at H; exact H
      clear H
      have H := H1
      clear H1
      by_cases c5 : 0 ≤ x4_1
      ·rw [if_pos c5] at H
       have c5b0 : decide (0 ≤ x4_1) = true := decide_eq_true c5
       clear c5
       by_cases c6 : x4_1 < (l0.length : Int)
       ·rw [if_pos c6] at H
        have c6b0 : decide (x4_1 < (l0.length : Int)) = true := decide_eq_true c6
        clear c6
        replace H := Option.bind_eq_some_iff.mp H
        obtain ⟨⟨t235, t236, t237, t238⟩, A70, H⟩ := H
        replace H : (if (rd_T42 l0 x4_1).f1 = true then ((chain_Delete.f kj1 x3_1 0 9 x4_1).bind fun bt241 => (if ((bt241.2 == 0) != ((x3_1.length : Int) == 1)) = true then (cellarerlaw05_ChainOff.j2 kj1 l0 x3_1 x4_1 bt241.1 bt241.2 true) else (if bt241.2 = 0 then (cellarerlaw05_ChainOff.j2 kj1 l0 x3_1 x4_1 bt241.1 bt241.2 ((bt241.1.length : Int) != 0)) else (cellarerlaw05_ChainOff.j2 kj1 l0 x3_1 x4_1 bt241.1 bt241.2 false)))) else ((chain_Put.f x3_1 0 t235 t236 t237 t238).bind fun bt245 => (if ((bt245.2 == 0) != (decide ((t236.size : Int) ≤ 2000))) = true then (cellarerlaw05_ChainOff.j3 kj1 l0 x3_1 x4_1 bt245.1 bt245.2 true) else (if bt245.2 = 0 then (if (bt245.1.length : Int) = 1 then (if 0 < (bt245.1.length : Int) then (cellarerlaw05_ChainOff.j3 kj1 l0 x3_1 x4_1 bt245.1 bt245.2 (!(((rd_T25 bt245.1 0).f0) == t235) || (!((((rd_T25 bt245.1 0).f1).toList) == t236.toList) || (!(((rd_T25 bt245.1 0).f2) == t237) || (!(((rd_T25 bt245.1 0).f3) == t238)))))) else (none)) else (cellarerlaw05_ChainOff.j3 kj1 l0 x3_1 x4_1 bt245.1 bt245.2 true)) else (cellarerlaw05_ChainOff.j3 kj1 l0 x3_1 x4_1 bt245.1 bt245.2 false))))) = some r := H
        have A7 := Aside0.mk A70
        clear A70
        have HC8 := Aside0.mk H
        clear H
        have p234 : 0 ≤ (x4_1 : Int) := of_decide_eq_true (by first | (with_reducible assumption) | assumption)
        have q234 : x4_1 < (l0.length : Int) := of_decide_eq_true (by first | (with_reducible assumption) | assumption)
        obtain ⟨ad234, e234, hx234_0, hx234_1, hx234_2⟩ := at_T42 HR0.out x4_1 p234 q234
        cases e234
        replace hx234_0 := (HB.out.cell (World.block_lt_of_cell? w _ hx234_0)).trans hx234_0
        replace hx234_1 := (HB.out.cell (World.block_lt_of_cell? w _ hx234_1)).trans hx234_1
        replace hx234_2 := (HB.out.cell (World.block_lt_of_cell? w _ hx234_2)).trans hx234_2
        replace p234 := eq_true p234
        replace q234 := eq_true q234
        go_upto_if 31 with (first | (go_at_call 11; (with_reducible refine (cellarerlaw05_One.calls 0 ((rd_T42 l0 x4_1).f2) false x4_1 t235 t236 t237 t238 _ A7.out).mono ?_); rintro e w9 ⟨rfl, hb⟩; have n0_ := Aside0.mk (Kd.R_below (by (with_reducible repeat (first | apply Kd.R_alloc | apply Kd.R_drewN | apply Kd.R_drew)); exact HO_3.out) hb); have n1_ := Aside0.mk (below_step (by repeat (first | (with_reducible first | exact HB.out | apply below_alloc | apply pw_below_drewN | apply below_drew1) | exact HB.out)) hb); clear HO_3; clear HB; have HO_3 := n0_; have HB := n1_; clear n0_ n1_; (try clear hb); (try clear hb2); (try clear hk); (try clear hi)) | ((with_reducible refine gate_dst (N := 5) rfl ?_); (try (refine gate_guard (by rfl) ?_; dsimp only)); refine box_event ?hg (N := 5) ?hd (cs := #[.int .u64 0, .string (⟨#[]⟩ : ByteArray), .bool false, .int .i64 0]) (t := 25) ?hr ?_; (case hd => rfl); (case hg => rfl); (case hr => first | (go_simp; done) | (go_simp; rfl)); intro gb239 hg w10 hbox hb; have n0_ := Aside0.mk (Kd.R_below (Kd.R_elderB (by (with_reducible repeat (first | apply Kd.R_alloc | apply Kd.R_drewN | apply Kd.R_drew)); exact HO_3.out) gb239 (Nat.le_of_eq hg.symm)) hb); have n1_ := Aside0.mk (below_step (by repeat (first | (with_reducible first | exact HB.out | apply below_alloc | apply pw_below_drewN | apply below_drew1) | exact HB.out)) hb); have n2_ := Aside0.mk (hbox); have n3_ := Aside0.mk ((by rw [hg]; exact (below_size (by repeat (first | (with_reducible first | exact HB.out | apply below_alloc | apply pw_below_drewN | apply below_drew1) | exact HB.out))) : w.heap.size ≤ gb239)); have n4_ := Aside0.mk ((by rw [hg]; exact (below_size (by repeat (first | (with_reducible first | exact HB.out | apply below_alloc | apply pw_below_drewN | apply below_drew1) | exact HB.out))) : w.heap.size ≤ gb239)); clear HO_3; clear HB; have HO_3 := n0_; have HB := n1_; have BK239 := n2_; have GW239 := n3_; have GE239 := n4_; clear n0_ n1_ n2_ n3_ n4_; clear hb hbox hg; have hcz11_0 : w10.cell? ⟨gb239, 0, none⟩ = some (.int .u64 0) := (blk_cell BK239.out 0).trans rfl; have hcz11_1 : w10.cell? ⟨gb239, 1, none⟩ = some (.string (⟨#[]⟩ : ByteArray)) := (blk_cell BK239.out 1).trans rfl; have hcz11_2 : w10.cell? ⟨gb239, 2, none⟩ = some (.bool false) := (blk_cell BK239.out 2).trans rfl; have hcz11_3 : w10.cell? ⟨gb239, 3, none⟩ = some (.int .i64 0) := (blk_cell BK239.out 3).trans rfl; have hfz11_0 := blk_frozen BK239.out 0; have hfz11_1 := blk_frozen BK239.out 1; have hfz11_2 := blk_frozen BK239.out 2; have hfz11_3 := blk_frozen BK239.out 3; have p240 : 0 ≤ (x4_1 : Int) := of_decide_eq_true (by first | (with_reducible assumption) | assumption); have q240 : x4_1 < (l0.length : Int) := of_decide_eq_true (by first | (with_reducible assumption) | assumption); obtain ⟨ad240, e240, hx240_0, hx240_1, hx240_2⟩ := at_T42 HR0.out x4_1 p240 q240; obtain rfl : ad234 = ad240 := (by injection e240); have hn240_0 : ad234.block ≠ gb239 := Nat.ne_of_lt (Nat.lt_of_lt_of_le (by have := World.block_lt_of_cell? _ _ hx240_0; first | rwa [add_block] at this | exact this) GW239.out); have hn240_1 : ad234.block ≠ gb239 := Nat.ne_of_lt (Nat.lt_of_lt_of_le (by have := World.block_lt_of_cell? _ _ hx240_0; first | rwa [add_block] at this | exact this) GW239.out); have hn240_2 : ad234.block ≠ gb239 := Nat.ne_of_lt (Nat.lt_of_lt_of_le (by have := World.block_lt_of_cell? _ _ hx240_0; first | rwa [add_block] at this | exact this) GW239.out); have hn240_3 : ad234.block ≠ gb239 := Nat.ne_of_lt (Nat.lt_of_lt_of_le (by have := World.block_lt_of_cell? _ _ hx240_0; first | rwa [add_block] at this | exact this) GW239.out); replace hx240_0 := (HB.out.cell (World.block_lt_of_cell? w _ hx240_0)).trans hx240_0; replace hx240_1 := (HB.out.cell (World.block_lt_of_cell? w _ hx240_1)).trans hx240_1; replace hx240_2 := (HB.out.cell (World.block_lt_of_cell? w _ hx240_2)).trans hx240_2; replace hx240_0 := (cell_far (p := ⟨gb239, 0, none⟩) (by first | (rw [add_block]; exact hn240_0) | (show (Addr.add _ _).block ≠ _; rw [add_block]; exact hn240_0) | exact hn240_0) (.int .u64 t235)).trans hx240_0; replace hx240_1 := (cell_far (p := ⟨gb239, 0, none⟩) (by first | (rw [add_block]; exact hn240_0) | (show (Addr.add _ _).block ≠ _; rw [add_block]; exact hn240_0) | exact hn240_0) (.int .u64 t235)).trans hx240_1; replace hx240_2 := (cell_far (p := ⟨gb239, 0, none⟩) (by first | (rw [add_block]; exact hn240_0) | (show (Addr.add _ _).block ≠ _; rw [add_block]; exact hn240_0) | exact hn240_0) (.int .u64 t235)).trans hx240_2; replace hx240_0 := (cell_far (p := ⟨gb239, 1, none⟩) (by first | (rw [add_block]; exact hn240_1) | (show (Addr.add _ _).block ≠ _; rw [add_block]; exact hn240_1) | exact hn240_1) (.string t236)).trans hx240_0; replace hx240_1 := (cell_far (p := ⟨gb239, 1, none⟩) (by first | (rw [add_block]; exact hn240_1) | (show (Addr.add _ _).block ≠ _; rw [add_block]; exact hn240_1) | exact hn240_1) (.string t236)).trans hx240_1; replace hx240_2 := (cell_far (p := ⟨gb239, 1, none⟩) (by first | (rw [add_block]; exact hn240_1) | (show (Addr.add _ _).block ≠ _; rw [add_block]; exact hn240_1) | exact hn240_1) (.string t236)).trans hx240_2; replace hx240_0 := (cell_far (p := ⟨gb239, 2, none⟩) (by first | (rw [add_block]; exact hn240_2) | (show (Addr.add _ _).block ≠ _; rw [add_block]; exact hn240_2) | exact hn240_2) (.bool t237)).trans hx240_0; replace hx240_1 := (cell_far (p := ⟨gb239, 2, none⟩) (by first | (rw [add_block]; exact hn240_2) | (show (Addr.add _ _).block ≠ _; rw [add_block]; exact hn240_2) | exact hn240_2) (.bool t237)).trans hx240_1; replace hx240_2 := (cell_far (p := ⟨gb239, 2, none⟩) (by first | (rw [add_block]; exact hn240_2) | (show (Addr.add _ _).block ≠ _; rw [add_block]; exact hn240_2) | exact hn240_2) (.bool t237)).trans hx240_2; replace hx240_0 := (cell_far (p := ⟨gb239, 3, none⟩) (by first | (rw [add_block]; exact hn240_3) | (show (Addr.add _ _).block ≠ _; rw [add_block]; exact hn240_3) | exact hn240_3) (.int .i64 t238)).trans hx240_0; replace hx240_1 := (cell_far (p := ⟨gb239, 3, none⟩) (by first | (rw [add_block]; exact hn240_3) | (show (Addr.add _ _).block ≠ _; rw [add_block]; exact hn240_3) | exact hn240_3) (.int .i64 t238)).trans hx240_1; replace hx240_2 := (cell_far (p := ⟨gb239, 3, none⟩) (by first | (rw [add_block]; exact hn240_3) | (show (Addr.add _ _).block ≠ _; rw [add_block]; exact hn240_3) | exact hn240_3) (.int .i64 t238)).trans hx240_2; (try have hy240_0 := fun (n_ : Nat) => (show ((((((w10.drewN n_).setCell ⟨gb239, 0, none⟩ (.int .u64 t235)).setCell ⟨gb239, 1, none⟩ (.string t236)).setCell ⟨gb239, 2, none⟩ (.bool t237)).setCell ⟨gb239, 3, none⟩ (.int .i64 t238))).cell? _ = some _ from hx240_0)); (try have hy240_1 := fun (n_ : Nat) => (show ((((((w10.drewN n_).setCell ⟨gb239, 0, none⟩ (.int .u64 t235)).setCell ⟨gb239, 1, none⟩ (.string t236)).setCell ⟨gb239, 2, none⟩ (.bool t237)).setCell ⟨gb239, 3, none⟩ (.int .i64 t238))).cell? _ = some _ from hx240_1)); (try have hy240_2 := fun (n_ : Nat) => (show ((((((w10.drewN n_).setCell ⟨gb239, 0, none⟩ (.int .u64 t235)).setCell ⟨gb239, 1, none⟩ (.string t236)).setCell ⟨gb239, 2, none⟩ (.bool t237)).setCell ⟨gb239, 3, none⟩ (.int .i64 t238))).cell? _ = some _ from hx240_2)); clear hn240_0; clear hn240_1; clear hn240_2; clear hn240_3; replace p240 := eq_true p240; replace q240 := eq_true q240))
        repeat (go_quiet (first | (go_at_call 11; (with_reducible refine (cellarerlaw05_One.calls 0 ((rd_T42 l0 x4_1).f2) false x4_1 t235 t236 t237 t238 _ A7.out).mono ?_); rintro e w9 ⟨rfl, hb⟩; have n0_ := Aside0.mk (Kd.R_below (by (with_reducible repeat (first | apply Kd.R_alloc | apply Kd.R_drewN | apply Kd.R_drew)); exact HO_3.out) hb); have n1_ := Aside0.mk (below_step (by repeat (first | (with_reducible first | exact HB.out | apply below_alloc | apply pw_below_drewN | apply below_drew1) | exact HB.out)) hb); clear HO_3; clear HB; have HO_3 := n0_; have HB := n1_; clear n0_ n1_; (try clear hb); (try clear hb2); (try clear hk); (try clear hi)) | ((with_reducible refine gate_dst (N := 5) rfl ?_); (try (refine gate_guard (by rfl) ?_; dsimp only)); refine box_event ?hg (N := 5) ?hd (cs := #[.int .u64 0, .string (⟨#[]⟩ : ByteArray), .bool false, .int .i64 0]) (t := 25) ?hr ?_; (case hd => rfl); (case hg => rfl); (case hr => first | (go_simp; done) | (go_simp; rfl)); intro gb239 hg w10 hbox hb; have n0_ := Aside0.mk (Kd.R_below (Kd.R_elderB (by (with_reducible repeat (first | apply Kd.R_alloc | apply Kd.R_drewN | apply Kd.R_drew)); exact HO_3.out) gb239 (Nat.le_of_eq hg.symm)) hb); have n1_ := Aside0.mk (below_step (by repeat (first | (with_reducible first | exact HB.out | apply below_alloc | apply pw_below_drewN | apply below_drew1) | exact HB.out)) hb); have n2_ := Aside0.mk (hbox); have n3_ := Aside0.mk ((by rw [hg]; exact (below_size (by repeat (first | (with_reducible first | exact HB.out | apply below_alloc | apply pw_below_drewN | apply below_drew1) | exact HB.out))) : w.heap.size ≤ gb239)); have n4_ := Aside0.mk ((by rw [hg]; exact (below_size (by repeat (first | (with_reducible first | exact HB.out | apply below_alloc | apply pw_below_drewN | apply below_drew1) | exact HB.out))) : w.heap.size ≤ gb239)); clear HO_3; clear HB; have HO_3 := n0_; have HB := n1_; have BK239 := n2_; have GW239 := n3_; have GE239 := n4_; clear n0_ n1_ n2_ n3_ n4_; clear hb hbox hg; have hcz11_0 : w10.cell? ⟨gb239, 0, none⟩ = some (.int .u64 0) := (blk_cell BK239.out 0).trans rfl; have hcz11_1 : w10.cell? ⟨gb239, 1, none⟩ = some (.string (⟨#[]⟩ : ByteArray)) := (blk_cell BK239.out 1).trans rfl; have hcz11_2 : w10.cell? ⟨gb239, 2, none⟩ = some (.bool false) := (blk_cell BK239.out 2).trans rfl; have hcz11_3 : w10.cell? ⟨gb239, 3, none⟩ = some (.int .i64 0) := (blk_cell BK239.out 3).trans rfl; have hfz11_0 := blk_frozen BK239.out 0; have hfz11_1 := blk_frozen BK239.out 1; have hfz11_2 := blk_frozen BK239.out 2; have hfz11_3 := blk_frozen BK239.out 3; have p240 : 0 ≤ (x4_1 : Int) := of_decide_eq_true (by first | (with_reducible assumption) | assumption); have q240 : x4_1 < (l0.length : Int) := of_decide_eq_true (by first | (with_reducible assumption) | assumption); obtain ⟨ad240, e240, hx240_0, hx240_1, hx240_2⟩ := at_T42 HR0.out x4_1 p240 q240; obtain rfl : ad234 = ad240 := (by injection e240); have hn240_0 : ad234.block ≠ gb239 := Nat.ne_of_lt (Nat.lt_of_lt_of_le (by have := World.block_lt_of_cell? _ _ hx240_0; first | rwa [add_block] at this | exact this) GW239.out); have hn240_1 : ad234.block ≠ gb239 := Nat.ne_of_lt (Nat.lt_of_lt_of_le (by have := World.block_lt_of_cell? _ _ hx240_0; first | rwa [add_block] at this | exact this) GW239.out); have hn240_2 : ad234.block ≠ gb239 := Nat.ne_of_lt (Nat.lt_of_lt_of_le (by have := World.block_lt_of_cell? _ _ hx240_0; first | rwa [add_block] at this | exact this) GW239.out); have hn240_3 : ad234.block ≠ gb239 := Nat.ne_of_lt (Nat.lt_of_lt_of_le (by have := World.block_lt_of_cell? _ _ hx240_0; first | rwa [add_block] at this | exact this) GW239.out); replace hx240_0 := (HB.out.cell (World.block_lt_of_cell? w _ hx240_0)).trans hx240_0; replace hx240_1 := (HB.out.cell (World.block_lt_of_cell? w _ hx240_1)).trans hx240_1; replace hx240_2 := (HB.out.cell (World.block_lt_of_cell? w _ hx240_2)).trans hx240_2; replace hx240_0 := (cell_far (p := ⟨gb239, 0, none⟩) (by first | (rw [add_block]; exact hn240_0) | (show (Addr.add _ _).block ≠ _; rw [add_block]; exact hn240_0) | exact hn240_0) (.int .u64 t235)).trans hx240_0; replace hx240_1 := (cell_far (p := ⟨gb239, 0, none⟩) (by first | (rw [add_block]; exact hn240_0) | (show (Addr.add _ _).block ≠ _; rw [add_block]; exact hn240_0) | exact hn240_0) (.int .u64 t235)).trans hx240_1; replace hx240_2 := (cell_far (p := ⟨gb239, 0, none⟩) (by first | (rw [add_block]; exact hn240_0) | (show (Addr.add _ _).block ≠ _; rw [add_block]; exact hn240_0) | exact hn240_0) (.int .u64 t235)).trans hx240_2; replace hx240_0 := (cell_far (p := ⟨gb239, 1, none⟩) (by first | (rw [add_block]; exact hn240_1) | (show (Addr.add _ _).block ≠ _; rw [add_block]; exact hn240_1) | exact hn240_1) (.string t236)).trans hx240_0; replace hx240_1 := (cell_far (p := ⟨gb239, 1, none⟩) (by first | (rw [add_block]; exact hn240_1) | (show (Addr.add _ _).block ≠ _; rw [add_block]; exact hn240_1) | exact hn240_1) (.string t236)).trans hx240_1; replace hx240_2 := (cell_far (p := ⟨gb239, 1, none⟩) (by first | (rw [add_block]; exact hn240_1) | (show (Addr.add _ _).block ≠ _; rw [add_block]; exact hn240_1) | exact hn240_1) (.string t236)).trans hx240_2; replace hx240_0 := (cell_far (p := ⟨gb239, 2, none⟩) (by first | (rw [add_block]; exact hn240_2) | (show (Addr.add _ _).block ≠ _; rw [add_block]; exact hn240_2) | exact hn240_2) (.bool t237)).trans hx240_0; replace hx240_1 := (cell_far (p := ⟨gb239, 2, none⟩) (by first | (rw [add_block]; exact hn240_2) | (show (Addr.add _ _).block ≠ _; rw [add_block]; exact hn240_2) | exact hn240_2) (.bool t237)).trans hx240_1; replace hx240_2 := (cell_far (p := ⟨gb239, 2, none⟩) (by first | (rw [add_block]; exact hn240_2) | (show (Addr.add _ _).block ≠ _; rw [add_block]; exact hn240_2) | exact hn240_2) (.bool t237)).trans hx240_2; replace hx240_0 := (cell_far (p := ⟨gb239, 3, none⟩) (by first | (rw [add_block]; exact hn240_3) | (show (Addr.add _ _).block ≠ _; rw [add_block]; exact hn240_3) | exact hn240_3) (.int .i64 t238)).trans hx240_0; replace hx240_1 := (cell_far (p := ⟨gb239, 3, none⟩) (by first | (rw [add_block]; exact hn240_3) | (show (Addr.add _ _).block ≠ _; rw [add_block]; exact hn240_3) | exact hn240_3) (.int .i64 t238)).trans hx240_1; replace hx240_2 := (cell_far (p := ⟨gb239, 3, none⟩) (by first | (rw [add_block]; exact hn240_3) | (show (Addr.add _ _).block ≠ _; rw [add_block]; exact hn240_3) | exact hn240_3) (.int .i64 t238)).trans hx240_2; (try have hy240_0 := fun (n_ : Nat) => (show ((((((w10.drewN n_).setCell ⟨gb239, 0, none⟩ (.int .u64 t235)).setCell ⟨gb239, 1, none⟩ (.string t236)).setCell ⟨gb239, 2, none⟩ (.bool t237)).setCell ⟨gb239, 3, none⟩ (.int .i64 t238))).cell? _ = some _ from hx240_0)); (try have hy240_1 := fun (n_ : Nat) => (show ((((((w10.drewN n_).setCell ⟨gb239, 0, none⟩ (.int .u64 t235)).setCell ⟨gb239, 1, none⟩ (.string t236)).setCell ⟨gb239, 2, none⟩ (.bool t237)).setCell ⟨gb239, 3, none⟩ (.int .i64 t238))).cell? _ = some _ from hx240_1)); (try have hy240_2 := fun (n_ : Nat) => (show ((((((w10.drewN n_).setCell ⟨gb239, 0, none⟩ (.int .u64 t235)).setCell ⟨gb239, 1, none⟩ (.string t236)).setCell ⟨gb239, 2, none⟩ (.bool t237)).setCell ⟨gb239, 3, none⟩ (.int .i64 t238))).cell? _ = some _ from hx240_2)); clear hn240_0; clear hn240_1; clear hn240_2; clear hn240_3; replace p240 := eq_true p240; replace q240 := eq_true q240)); go_upto_if 31 with (first | (go_at_call 11; (with_reducible refine (cellarerlaw05_One.calls 0 ((rd_T42 l0 x4_1).f2) false x4_1 t235 t236 t237 t238 _ A7.out).mono ?_); rintro e w9 ⟨rfl, hb⟩; have n0_ := Aside0.mk (Kd.R_below (by (with_reducible repeat (first | apply Kd.R_alloc | apply Kd.R_drewN | apply Kd.R_drew)); exact HO_3.out) hb); have n1_ := Aside0.mk (below_step (by repeat (first | (with_reducible first | exact HB.out | apply below_alloc | apply pw_below_drewN | apply below_drew1) | exact HB.out)) hb); clear HO_3; clear HB; have HO_3 := n0_; have HB := n1_; clear n0_ n1_; (try clear hb); (try clear hb2); (try clear hk); (try clear hi)) | ((with_reducible refine gate_dst (N := 5) rfl ?_); (try (refine gate_guard (by rfl) ?_; dsimp only)); refine box_event ?hg (N := 5) ?hd (cs := #[.int .u64 0, .string (⟨#[]⟩ : ByteArray), .bool false, .int .i64 0]) (t := 25) ?hr ?_; (case hd => rfl); (case hg => rfl); (case hr => first | (go_simp; done) | (go_simp; rfl)); intro gb239 hg w10 hbox hb; have n0_ := Aside0.mk (Kd.R_below (Kd.R_elderB (by (with_reducible repeat (first | apply Kd.R_alloc | apply Kd.R_drewN | apply Kd.R_drew)); exact HO_3.out) gb239 (Nat.le_of_eq hg.symm)) hb); have n1_ := Aside0.mk (below_step (by repeat (first | (with_reducible first | exact HB.out | apply below_alloc | apply pw_below_drewN | apply below_drew1) | exact HB.out)) hb); have n2_ := Aside0.mk (hbox); have n3_ := Aside0.mk ((by rw [hg]; exact (below_size (by repeat (first | (with_reducible first | exact HB.out | apply below_alloc | apply pw_below_drewN | apply below_drew1) | exact HB.out))) : w.heap.size ≤ gb239)); have n4_ := Aside0.mk ((by rw [hg]; exact (below_size (by repeat (first | (with_reducible first | exact HB.out | apply below_alloc | apply pw_below_drewN | apply below_drew1) | exact HB.out))) : w.heap.size ≤ gb239)); clear HO_3; clear HB; have HO_3 := n0_; have HB := n1_; have BK239 := n2_; have GW239 := n3_; have GE239 := n4_; clear n0_ n1_ n2_ n3_ n4_; clear hb hbox hg; have hcz11_0 : w10.cell? ⟨gb239, 0, none⟩ = some (.int .u64 0) := (blk_cell BK239.out 0).trans rfl; have hcz11_1 : w10.cell? ⟨gb239, 1, none⟩ = some (.string (⟨#[]⟩ : ByteArray)) := (blk_cell BK239.out 1).trans rfl; have hcz11_2 : w10.cell? ⟨gb239, 2, none⟩ = some (.bool false) := (blk_cell BK239.out 2).trans rfl; have hcz11_3 : w10.cell? ⟨gb239, 3, none⟩ = some (.int .i64 0) := (blk_cell BK239.out 3).trans rfl; have hfz11_0 := blk_frozen BK239.out 0; have hfz11_1 := blk_frozen BK239.out 1; have hfz11_2 := blk_frozen BK239.out 2; have hfz11_3 := blk_frozen BK239.out 3; have p240 : 0 ≤ (x4_1 : Int) := of_decide_eq_true (by first | (with_reducible assumption) | assumption); have q240 : x4_1 < (l0.length : Int) := of_decide_eq_true (by first | (with_reducible assumption) | assumption); obtain ⟨ad240, e240, hx240_0, hx240_1, hx240_2⟩ := at_T42 HR0.out x4_1 p240 q240; obtain rfl : ad234 = ad240 := (by injection e240); have hn240_0 : ad234.block ≠ gb239 := Nat.ne_of_lt (Nat.lt_of_lt_of_le (by have := World.block_lt_of_cell? _ _ hx240_0; first | rwa [add_block] at this | exact this) GW239.out); have hn240_1 : ad234.block ≠ gb239 := Nat.ne_of_lt (Nat.lt_of_lt_of_le (by have := World.block_lt_of_cell? _ _ hx240_0; first | rwa [add_block] at this | exact this) GW239.out); have hn240_2 : ad234.block ≠ gb239 := Nat.ne_of_lt (Nat.lt_of_lt_of_le (by have := World.block_lt_of_cell? _ _ hx240_0; first | rwa [add_block] at this | exact this) GW239.out); have hn240_3 : ad234.block ≠ gb239 := Nat.ne_of_lt (Nat.lt_of_lt_of_le (by have := World.block_lt_of_cell? _ _ hx240_0; first | rwa [add_block] at this | exact this) GW239.out); replace hx240_0 := (HB.out.cell (World.block_lt_of_cell? w _ hx240_0)).trans hx240_0; replace hx240_1 := (HB.out.cell (World.block_lt_of_cell? w _ hx240_1)).trans hx240_1; replace hx240_2 := (HB.out.cell (World.block_lt_of_cell? w _ hx240_2)).trans hx240_2; replace hx240_0 := (cell_far (p := ⟨gb239, 0, none⟩) (by first | (rw [add_block]; exact hn240_0) | (show (Addr.add _ _).block ≠ _; rw [add_block]; exact hn240_0) | exact hn240_0) (.int .u64 t235)).trans hx240_0; replace hx240_1 := (cell_far (p := ⟨gb239, 0, none⟩) (by first | (rw [add_block]; exact hn240_0) | (show (Addr.add _ _).block ≠ _; rw [add_block]; exact hn240_0) | exact hn240_0) (.int .u64 t235)).trans hx240_1; replace hx240_2 := (cell_far (p := ⟨gb239, 0, none⟩) (by first | (rw [add_block]; exact hn240_0) | (show (Addr.add _ _).block ≠ _; rw [add_block]; exact hn240_0) | exact hn240_0) (.int .u64 t235)).trans hx240_2; replace hx240_0 := (cell_far (p := ⟨gb239, 1, none⟩) (by first | (rw [add_block]; exact hn240_1) | (show (Addr.add _ _).block ≠ _; rw [add_block]; exact hn240_1) | exact hn240_1) (.string t236)).trans hx240_0; replace hx240_1 := (cell_far (p := ⟨gb239, 1, none⟩) (by first | (rw [add_block]; exact hn240_1) | (show (Addr.add _ _).block ≠ _; rw [add_block]; exact hn240_1) | exact hn240_1) (.string t236)).trans hx240_1; replace hx240_2 := (cell_far (p := ⟨gb239, 1, none⟩) (by first | (rw [add_block]; exact hn240_1) | (show (Addr.add _ _).block ≠ _; rw [add_block]; exact hn240_1) | exact hn240_1) (.string t236)).trans hx240_2; replace hx240_0 := (cell_far (p := ⟨gb239, 2, none⟩) (by first | (rw [add_block]; exact hn240_2) | (show (Addr.add _ _).block ≠ _; rw [add_block]; exact hn240_2) | exact hn240_2) (.bool t237)).trans hx240_0; replace hx240_1 := (cell_far (p := ⟨gb239, 2, none⟩) (by first | (rw [add_block]; exact hn240_2) | (show (Addr.add _ _).block ≠ _; rw [add_block]; exact hn240_2) | exact hn240_2) (.bool t237)).trans hx240_1; replace hx240_2 := (cell_far (p := ⟨gb239, 2, none⟩) (by first | (rw [add_block]; exact hn240_2) | (show (Addr.add _ _).block ≠ _; rw [add_block]; exact hn240_2) | exact hn240_2) (.bool t237)).trans hx240_2; replace hx240_0 := (cell_far (p := ⟨gb239, 3, none⟩) (by first | (rw [add_block]; exact hn240_3) | (show (Addr.add _ _).block ≠ _; rw [add_block]; exact hn240_3) | exact hn240_3) (.int .i64 t238)).trans hx240_0; replace hx240_1 := (cell_far (p := ⟨gb239, 3, none⟩) (by first | (rw [add_block]; exact hn240_3) | (show (Addr.add _ _).block ≠ _; rw [add_block]; exact hn240_3) | exact hn240_3) (.int .i64 t238)).trans hx240_1; replace hx240_2 := (cell_far (p := ⟨gb239, 3, none⟩) (by first | (rw [add_block]; exact hn240_3) | (show (Addr.add _ _).block ≠ _; rw [add_block]; exact hn240_3) | exact hn240_3) (.int .i64 t238)).trans hx240_2; (try have hy240_0 := fun (n_ : Nat) => (show ((((((w10.drewN n_).setCell ⟨gb239, 0, none⟩ (.int .u64 t235)).setCell ⟨gb239, 1, none⟩ (.string t236)).setCell ⟨gb239, 2, none⟩ (.bool t237)).setCell ⟨gb239, 3, none⟩ (.int .i64 t238))).cell? _ = some _ from hx240_0)); (try have hy240_1 := fun (n_ : Nat) => (show ((((((w10.drewN n_).setCell ⟨gb239, 0, none⟩ (.int .u64 t235)).setCell ⟨gb239, 1, none⟩ (.string t236)).setCell ⟨gb239, 2, none⟩ (.bool t237)).setCell ⟨gb239, 3, none⟩ (.int .i64 t238))).cell? _ = some _ from hx240_1)); (try have hy240_2 := fun (n_ : Nat) => (show ((((((w10.drewN n_).setCell ⟨gb239, 0, none⟩ (.int .u64 t235)).setCell ⟨gb239, 1, none⟩ (.string t236)).setCell ⟨gb239, 2, none⟩ (.bool t237)).setCell ⟨gb239, 3, none⟩ (.int .i64 t238))).cell? _ = some _ from hx240_2)); clear hn240_0; clear hn240_1; clear hn240_2; clear hn240_3; replace p240 := eq_true p240; replace q240 := eq_true q240)))
        (try simp only [Act.put, List.setIfInBounds_toArray, List.set_cons_zero, List.set_cons_succ])
        go_cut [6, 7] (fun v6 v7 wc => ∃ (kq : Nat) (x6_7 : List (S25)) (x7_7 : Int), v7 = .int .i64 x7_7 ∧ Aside0 (cellarerlaw05_ChainOff.j4 kq l0 x3_1 x4_1 x6_7 x7_7 = some r) ∧ Aside0 (kq ≤ kj1) ∧ Aside0 (Kd.R k25 25 wc w.heap.size (fun k_ => k_ ≠ gb239) u3 x3_1) ∧ Aside0 (Kd.R k25 25 wc w.heap.size (fun k_ => k_ ≠ gb239) v6 x6_7) ∧ Aside0 (wc.heap[gb239]? = some (.cells #[.int .u64 t235, .string t236, .bool t237, .int .i64 t238] 25 (0, 0))) ∧ Aside0 (Below w.heap.size w wc))
        case first =>
         have H := HC8.out
         clear HC8
         obtain ⟨bq12, hbq12⟩ : ∃ b_ : Bool, b_ = ((rd_T42 l0 x4_1).f1) := ⟨_, rfl⟩
         replace H : (if bq12 = true then ((chain_Delete.f kj1 x3_1 0 9 x4_1).bind fun bt241 => (if ((bt241.2 == 0) != ((x3_1.length : Int) == 1)) = true then (cellarerlaw05_ChainOff.j2 kj1 l0 x3_1 x4_1 bt241.1 bt241.2 true) else (if bt241.2 = 0 then (cellarerlaw05_ChainOff.j2 kj1 l0 x3_1 x4_1 bt241.1 bt241.2 ((bt241.1.length : Int) != 0)) else (cellarerlaw05_ChainOff.j2 kj1 l0 x3_1 x4_1 bt241.1 bt241.2 false)))) else ((chain_Put.f x3_1 0 t235 t236 t237 t238).bind fun bt245 => (if ((bt245.2 == 0) != (decide ((t236.size : Int) ≤ 2000))) = true then (cellarerlaw05_ChainOff.j3 kj1 l0 x3_1 x4_1 bt245.1 bt245.2 true) else (if bt245.2 = 0 then (if (bt245.1.length : Int) = 1 then (if 0 < (bt245.1.length : Int) then (cellarerlaw05_ChainOff.j3 kj1 l0 x3_1 x4_1 bt245.1 bt245.2 (!(((rd_T25 bt245.1 0).f0) == t235) || (!((((rd_T25 bt245.1 0).f1).toList) == t236.toList) || (!(((rd_T25 bt245.1 0).f2) == t237) || (!(((rd_T25 bt245.1 0).f3) == t238)))))) else (none)) else (cellarerlaw05_ChainOff.j3 kj1 l0 x3_1 x4_1 bt245.1 bt245.2 true)) else (cellarerlaw05_ChainOff.j3 kj1 l0 x3_1 x4_1 bt245.1 bt245.2 false))))) = some r := by rw [← hbq12] at H; exact H
         have Nbq12 := Aside0.mk hbq12
         clear hbq12
         (try rw [← Nbq12.out])
         by_cases c13 : bq12 = true
         ·subst c13
          have H1 : ((chain_Delete.f kj1 x3_1 0 9 x4_1).bind fun bt241 => (if ((bt241.2 == 0) != ((x3_1.length : Int) == 1)) = true then (cellarerlaw05_ChainOff.j2 kj1 l0 x3_1 x4_1 bt241.1 bt241.2 true) else (if bt241.2 = 0 then (cellarerlaw05_ChainOff.j2 kj1 l0 x3_1 x4_1 bt241.1 bt241.2 ((bt241.1.length : Int) != 0)) else (cellarerlaw05_ChainOff.j2 kj1 l0 x3_1 x4_1 bt241.1 bt241.2 false)))) = some r := by rw [if_pos rfl] at H; exact H
          clear H
          have H := H1
          clear H1
          replace H := Option.bind_eq_some_iff.mp H
          obtain ⟨⟨t241, t242⟩, A140, H⟩ := H
          replace H : (if ((t242 == 0) != ((x3_1.length : Int) == 1)) = true then (cellarerlaw05_ChainOff.j2 kj1 l0 x3_1 x4_1 t241 t242 true) else (if t242 = 0 then (cellarerlaw05_ChainOff.j2 kj1 l0 x3_1 x4_1 t241 t242 ((t241.length : Int) != 0)) else (cellarerlaw05_ChainOff.j2 kj1 l0 x3_1 x4_1 t241 t242 false))) = some r := H
          have A14 := Aside0.mk A140
          clear A140
          have HC15 := Aside0.mk H
          clear H
          obtain ⟨Ao16, co16, eo16⟩ := Kd.R_slice HO_3.out
          subst eo16
          go_upto_region 9 with (first | (go_at_call 14; (with_reducible refine (chain_Delete.calls kj1 _ _ x3_1 0 9 x4_1 t241 t242 _ ?side1 ?side2 A14.out).mono ?_); (case side1 => refine (Kd.R_reads' (e := 25) (base := w.heap.size) (ok := fun k_ => (True ∧ k_ ≠ gb239)) (n := x3_1.length) (c := co16) ?_).2.2; exact (by (with_reducible repeat (first | apply Kd.R_alloc | apply Kd.R_drewN | apply Kd.R_drew)); exact (Kd.R_mono (Kd.R_far (p := ⟨gb239, 3, none⟩) (Kd.R_far (p := ⟨gb239, 2, none⟩) (Kd.R_far (p := ⟨gb239, 1, none⟩) (Kd.R_far (p := ⟨gb239, 0, none⟩) (Kd.R_mono HO_3.out (fun k_ hk => (⟨hk, hk.2⟩ : _ ∧ k_ ≠ gb239))) (fun _ hk => hk.2) (.int .u64 t235)) (fun _ hk => hk.2) (.string t236)) (fun _ hk => hk.2) (.bool t237)) (fun _ hk => hk.2) (.int .i64 t238)) (fun _ h_ => h_.1)))); (case side2 => exact (Kd.R_reads' HO_3.out).2.1); rintro e w17 ⟨v243, rfl, ho0, hb⟩; have n0_ := Aside0.mk (Kd.R_elder' (by (with_reducible repeat (first | apply Kd.R_alloc | apply Kd.R_drewN | apply Kd.R_drew)); exact (Kd.R_mono (Kd.R_far (p := ⟨gb239, 3, none⟩) (Kd.R_far (p := ⟨gb239, 2, none⟩) (Kd.R_far (p := ⟨gb239, 1, none⟩) (Kd.R_far (p := ⟨gb239, 0, none⟩) (Kd.R_mono HO_3.out (fun k_ hk => (⟨hk, hk.2⟩ : _ ∧ k_ ≠ gb239))) (fun _ hk => hk.2) (.int .u64 t235)) (fun _ hk => hk.2) (.string t236)) (fun _ hk => hk.2) (.bool t237)) (fun _ hk => hk.2) (.int .i64 t238)) (fun _ h_ => h_.1))) (Kd.R_base ho0) hb); have n1_ := Aside0.mk (Kd.R_lower (Kd.R_newB (Kd.R_new' ho0 (Kd.R_lt (by (with_reducible repeat (first | apply Kd.R_alloc | apply Kd.R_drewN | apply Kd.R_drew)); exact (Kd.R_mono (Kd.R_far (p := ⟨gb239, 3, none⟩) (Kd.R_far (p := ⟨gb239, 2, none⟩) (Kd.R_far (p := ⟨gb239, 1, none⟩) (Kd.R_far (p := ⟨gb239, 0, none⟩) (Kd.R_mono HO_3.out (fun k_ hk => (⟨hk, hk.2⟩ : _ ∧ k_ ≠ gb239))) (fun _ hk => hk.2) (.int .u64 t235)) (fun _ hk => hk.2) (.string t236)) (fun _ hk => hk.2) (.bool t237)) (fun _ hk => hk.2) (.int .i64 t238)) (fun _ h_ => h_.1))))) (g := gb239) (o := .cells #[.int .u64 t235, .string t236, .bool t237, .int .i64 t238] 25 (0, 0)) (by (with_reducible repeat (first | refine blk_drewN ?_ _ | refine blk_drew ?_ | refine blk_alloc ?_ _)); refine blk_put (cs := #[.int .u64 t235, .string t236, .bool t237, .int .i64 0]) ?_ 3 _ rfl; (with_reducible repeat (first | refine blk_drewN ?_ _ | refine blk_drew ?_ | refine blk_alloc ?_ _)); refine blk_put (cs := #[.int .u64 t235, .string t236, .bool false, .int .i64 0]) ?_ 2 _ rfl; (with_reducible repeat (first | refine blk_drewN ?_ _ | refine blk_drew ?_ | refine blk_alloc ?_ _)); refine blk_put (cs := #[.int .u64 t235, .string (⟨#[]⟩ : ByteArray), .bool false, .int .i64 0]) ?_ 1 _ rfl; (with_reducible repeat (first | refine blk_drewN ?_ _ | refine blk_drew ?_ | refine blk_alloc ?_ _)); refine blk_put (cs := #[.int .u64 0, .string (⟨#[]⟩ : ByteArray), .bool false, .int .i64 0]) ?_ 0 _ rfl; (with_reducible repeat (first | refine blk_drewN ?_ _ | refine blk_drew ?_ | refine blk_alloc ?_ _)); exact BK239.out)) (below_size (by repeat (first | (with_reducible first | exact HB.out | apply below_alloc | apply pw_below_drewN | apply below_drew1 | refine below_set ?_ GE239.out) | exact HB.out)))); have n2_ := Aside0.mk (blk_below (g := gb239) (o := .cells #[.int .u64 t235, .string t236, .bool t237, .int .i64 t238] 25 (0, 0)) (by (with_reducible repeat (first | refine blk_drewN ?_ _ | refine blk_drew ?_ | refine blk_alloc ?_ _)); refine blk_put (cs := #[.int .u64 t235, .string t236, .bool t237, .int .i64 0]) ?_ 3 _ rfl; (with_reducible repeat (first | refine blk_drewN ?_ _ | refine blk_drew ?_ | refine blk_alloc ?_ _)); refine blk_put (cs := #[.int .u64 t235, .string t236, .bool false, .int .i64 0]) ?_ 2 _ rfl; (with_reducible repeat (first | refine blk_drewN ?_ _ | refine blk_drew ?_ | refine blk_alloc ?_ _)); refine blk_put (cs := #[.int .u64 t235, .string (⟨#[]⟩ : ByteArray), .bool false, .int .i64 0]) ?_ 1 _ rfl; (with_reducible repeat (first | refine blk_drewN ?_ _ | refine blk_drew ?_ | refine blk_alloc ?_ _)); refine blk_put (cs := #[.int .u64 0, .string (⟨#[]⟩ : ByteArray), .bool false, .int .i64 0]) ?_ 0 _ rfl; (with_reducible repeat (first | refine blk_drewN ?_ _ | refine blk_drew ?_ | refine blk_alloc ?_ _)); exact BK239.out) hb); have n3_ := Aside0.mk (below_step (by repeat (first | (with_reducible first | exact HB.out | apply below_alloc | apply pw_below_drewN | apply below_drew1 | refine below_set ?_ GE239.out) | exact HB.out)) hb); clear HO_3; clear BK239; clear HB; have HO_3 := n0_; have HO244 := n1_; have BK239 := n2_; have HB := n3_; clear n0_ n1_ n2_ n3_; (try clear hb); (try clear hb2); (try clear hk); (try clear hi); (try clear ho0)))
          repeat (go_quiet (first | (go_at_call 14; (with_reducible refine (chain_Delete.calls kj1 _ _ x3_1 0 9 x4_1 t241 t242 _ ?side1 ?side2 A14.out).mono ?_); (case side1 => refine (Kd.R_reads' (e := 25) (base := w.heap.size) (ok := fun k_ => (True ∧ k_ ≠ gb239)) (n := x3_1.length) (c := co16) ?_).2.2; exact (by (with_reducible repeat (first | apply Kd.R_alloc | apply Kd.R_drewN | apply Kd.R_drew)); exact (Kd.R_mono (Kd.R_far (p := ⟨gb239, 3, none⟩) (Kd.R_far (p := ⟨gb239, 2, none⟩) (Kd.R_far (p := ⟨gb239, 1, none⟩) (Kd.R_far (p := ⟨gb239, 0, none⟩) (Kd.R_mono HO_3.out (fun k_ hk => (⟨hk, hk.2⟩ : _ ∧ k_ ≠ gb239))) (fun _ hk => hk.2) (.int .u64 t235)) (fun _ hk => hk.2) (.string t236)) (fun _ hk => hk.2) (.bool t237)) (fun _ hk => hk.2) (.int .i64 t238)) (fun _ h_ => h_.1)))); (case side2 => exact (Kd.R_reads' HO_3.out).2.1); rintro e w17 ⟨v243, rfl, ho0, hb⟩; have n0_ := Aside0.mk (Kd.R_elder' (by (with_reducible repeat (first | apply Kd.R_alloc | apply Kd.R_drewN | apply Kd.R_drew)); exact (Kd.R_mono (Kd.R_far (p := ⟨gb239, 3, none⟩) (Kd.R_far (p := ⟨gb239, 2, none⟩) (Kd.R_far (p := ⟨gb239, 1, none⟩) (Kd.R_far (p := ⟨gb239, 0, none⟩) (Kd.R_mono HO_3.out (fun k_ hk => (⟨hk, hk.2⟩ : _ ∧ k_ ≠ gb239))) (fun _ hk => hk.2) (.int .u64 t235)) (fun _ hk => hk.2) (.string t236)) (fun _ hk => hk.2) (.bool t237)) (fun _ hk => hk.2) (.int .i64 t238)) (fun _ h_ => h_.1))) (Kd.R_base ho0) hb); have n1_ := Aside0.mk (Kd.R_lower (Kd.R_newB (Kd.R_new' ho0 (Kd.R_lt (by (with_reducible repeat (first | apply Kd.R_alloc | apply Kd.R_drewN | apply Kd.R_drew)); exact (Kd.R_mono (Kd.R_far (p := ⟨gb239, 3, none⟩) (Kd.R_far (p := ⟨gb239, 2, none⟩) (Kd.R_far (p := ⟨gb239, 1, none⟩) (Kd.R_far (p := ⟨gb239, 0, none⟩) (Kd.R_mono HO_3.out (fun k_ hk => (⟨hk, hk.2⟩ : _ ∧ k_ ≠ gb239))) (fun _ hk => hk.2) (.int .u64 t235)) (fun _ hk => hk.2) (.string t236)) (fun _ hk => hk.2) (.bool t237)) (fun _ hk => hk.2) (.int .i64 t238)) (fun _ h_ => h_.1))))) (g := gb239) (o := .cells #[.int .u64 t235, .string t236, .bool t237, .int .i64 t238] 25 (0, 0)) (by (with_reducible repeat (first | refine blk_drewN ?_ _ | refine blk_drew ?_ | refine blk_alloc ?_ _)); refine blk_put (cs := #[.int .u64 t235, .string t236, .bool t237, .int .i64 0]) ?_ 3 _ rfl; (with_reducible repeat (first | refine blk_drewN ?_ _ | refine blk_drew ?_ | refine blk_alloc ?_ _)); refine blk_put (cs := #[.int .u64 t235, .string t236, .bool false, .int .i64 0]) ?_ 2 _ rfl; (with_reducible repeat (first | refine blk_drewN ?_ _ | refine blk_drew ?_ | refine blk_alloc ?_ _)); refine blk_put (cs := #[.int .u64 t235, .string (⟨#[]⟩ : ByteArray), .bool false, .int .i64 0]) ?_ 1 _ rfl; (with_reducible repeat (first | refine blk_drewN ?_ _ | refine blk_drew ?_ | refine blk_alloc ?_ _)); refine blk_put (cs := #[.int .u64 0, .string (⟨#[]⟩ : ByteArray), .bool false, .int .i64 0]) ?_ 0 _ rfl; (with_reducible repeat (first | refine blk_drewN ?_ _ | refine blk_drew ?_ | refine blk_alloc ?_ _)); exact BK239.out)) (below_size (by repeat (first | (with_reducible first | exact HB.out | apply below_alloc | apply pw_below_drewN | apply below_drew1 | refine below_set ?_ GE239.out) | exact HB.out)))); have n2_ := Aside0.mk (blk_below (g := gb239) (o := .cells #[.int .u64 t235, .string t236, .bool t237, .int .i64 t238] 25 (0, 0)) (by (with_reducible repeat (first | refine blk_drewN ?_ _ | refine blk_drew ?_ | refine blk_alloc ?_ _)); refine blk_put (cs := #[.int .u64 t235, .string t236, .bool t237, .int .i64 0]) ?_ 3 _ rfl; (with_reducible repeat (first | refine blk_drewN ?_ _ | refine blk_drew ?_ | refine blk_alloc ?_ _)); refine blk_put (cs := #[.int .u64 t235, .string t236, .bool false, .int .i64 0]) ?_ 2 _ rfl; (with_reducible repeat (first | refine blk_drewN ?_ _ | refine blk_drew ?_ | refine blk_alloc ?_ _)); refine blk_put (cs := #[.int .u64 t235, .string (⟨#[]⟩ : ByteArray), .bool false, .int .i64 0]) ?_ 1 _ rfl; (with_reducible repeat (first | refine blk_drewN ?_ _ | refine blk_drew ?_ | refine blk_alloc ?_ _)); refine blk_put (cs := #[.int .u64 0, .string (⟨#[]⟩ : ByteArray), .bool false, .int .i64 0]) ?_ 0 _ rfl; (with_reducible repeat (first | refine blk_drewN ?_ _ | refine blk_drew ?_ | refine blk_alloc ?_ _)); exact BK239.out) hb); have n3_ := Aside0.mk (below_step (by repeat (first | (with_reducible first | exact HB.out | apply below_alloc | apply pw_below_drewN | apply below_drew1 | refine below_set ?_ GE239.out) | exact HB.out)) hb); clear HO_3; clear BK239; clear HB; have HO_3 := n0_; have HO244 := n1_; have BK239 := n2_; have HB := n3_; clear n0_ n1_ n2_ n3_; (try clear hb); (try clear hb2); (try clear hk); (try clear hi); (try clear ho0))); go_upto_region 9 with (first | (go_at_call 14; (with_reducible refine (chain_Delete.calls kj1 _ _ x3_1 0 9 x4_1 t241 t242 _ ?side1 ?side2 A14.out).mono ?_); (case side1 => refine (Kd.R_reads' (e := 25) (base := w.heap.size) (ok := fun k_ => (True ∧ k_ ≠ gb239)) (n := x3_1.length) (c := co16) ?_).2.2; exact (by (with_reducible repeat (first | apply Kd.R_alloc | apply Kd.R_drewN | apply Kd.R_drew)); exact (Kd.R_mono (Kd.R_far (p := ⟨gb239, 3, none⟩) (Kd.R_far (p := ⟨gb239, 2, none⟩) (Kd.R_far (p := ⟨gb239, 1, none⟩) (Kd.R_far (p := ⟨gb239, 0, none⟩) (Kd.R_mono HO_3.out (fun k_ hk => (⟨hk, hk.2⟩ : _ ∧ k_ ≠ gb239))) (fun _ hk => hk.2) (.int .u64 t235)) (fun _ hk => hk.2) (.string t236)) (fun _ hk => hk.2) (.bool t237)) (fun _ hk => hk.2) (.int .i64 t238)) (fun _ h_ => h_.1)))); (case side2 => exact (Kd.R_reads' HO_3.out).2.1); rintro e w17 ⟨v243, rfl, ho0, hb⟩; have n0_ := Aside0.mk (Kd.R_elder' (by (with_reducible repeat (first | apply Kd.R_alloc | apply Kd.R_drewN | apply Kd.R_drew)); exact (Kd.R_mono (Kd.R_far (p := ⟨gb239, 3, none⟩) (Kd.R_far (p := ⟨gb239, 2, none⟩) (Kd.R_far (p := ⟨gb239, 1, none⟩) (Kd.R_far (p := ⟨gb239, 0, none⟩) (Kd.R_mono HO_3.out (fun k_ hk => (⟨hk, hk.2⟩ : _ ∧ k_ ≠ gb239))) (fun _ hk => hk.2) (.int .u64 t235)) (fun _ hk => hk.2) (.string t236)) (fun _ hk => hk.2) (.bool t237)) (fun _ hk => hk.2) (.int .i64 t238)) (fun _ h_ => h_.1))) (Kd.R_base ho0) hb); have n1_ := Aside0.mk (Kd.R_lower (Kd.R_newB (Kd.R_new' ho0 (Kd.R_lt (by (with_reducible repeat (first | apply Kd.R_alloc | apply Kd.R_drewN | apply Kd.R_drew)); exact (Kd.R_mono (Kd.R_far (p := ⟨gb239, 3, none⟩) (Kd.R_far (p := ⟨gb239, 2, none⟩) (Kd.R_far (p := ⟨gb239, 1, none⟩) (Kd.R_far (p := ⟨gb239, 0, none⟩) (Kd.R_mono HO_3.out (fun k_ hk => (⟨hk, hk.2⟩ : _ ∧ k_ ≠ gb239))) (fun _ hk => hk.2) (.int .u64 t235)) (fun _ hk => hk.2) (.string t236)) (fun _ hk => hk.2) (.bool t237)) (fun _ hk => hk.2) (.int .i64 t238)) (fun _ h_ => h_.1))))) (g := gb239) (o := .cells #[.int .u64 t235, .string t236, .bool t237, .int .i64 t238] 25 (0, 0)) (by (with_reducible repeat (first | refine blk_drewN ?_ _ | refine blk_drew ?_ | refine blk_alloc ?_ _)); refine blk_put (cs := #[.int .u64 t235, .string t236, .bool t237, .int .i64 0]) ?_ 3 _ rfl; (with_reducible repeat (first | refine blk_drewN ?_ _ | refine blk_drew ?_ | refine blk_alloc ?_ _)); refine blk_put (cs := #[.int .u64 t235, .string t236, .bool false, .int .i64 0]) ?_ 2 _ rfl; (with_reducible repeat (first | refine blk_drewN ?_ _ | refine blk_drew ?_ | refine blk_alloc ?_ _)); refine blk_put (cs := #[.int .u64 t235, .string (⟨#[]⟩ : ByteArray), .bool false, .int .i64 0]) ?_ 1 _ rfl; (with_reducible repeat (first | refine blk_drewN ?_ _ | refine blk_drew ?_ | refine blk_alloc ?_ _)); refine blk_put (cs := #[.int .u64 0, .string (⟨#[]⟩ : ByteArray), .bool false, .int .i64 0]) ?_ 0 _ rfl; (with_reducible repeat (first | refine blk_drewN ?_ _ | refine blk_drew ?_ | refine blk_alloc ?_ _)); exact BK239.out)) (below_size (by repeat (first | (with_reducible first | exact HB.out | apply below_alloc | apply pw_below_drewN | apply below_drew1 | refine below_set ?_ GE239.out) | exact HB.out)))); have n2_ := Aside0.mk (blk_below (g := gb239) (o := .cells #[.int .u64 t235, .string t236, .bool t237, .int .i64 t238] 25 (0, 0)) (by (with_reducible repeat (first | refine blk_drewN ?_ _ | refine blk_drew ?_ | refine blk_alloc ?_ _)); refine blk_put (cs := #[.int .u64 t235, .string t236, .bool t237, .int .i64 0]) ?_ 3 _ rfl; (with_reducible repeat (first | refine blk_drewN ?_ _ | refine blk_drew ?_ | refine blk_alloc ?_ _)); refine blk_put (cs := #[.int .u64 t235, .string t236, .bool false, .int .i64 0]) ?_ 2 _ rfl; (with_reducible repeat (first | refine blk_drewN ?_ _ | refine blk_drew ?_ | refine blk_alloc ?_ _)); refine blk_put (cs := #[.int .u64 t235, .string (⟨#[]⟩ : ByteArray), .bool false, .int .i64 0]) ?_ 1 _ rfl; (with_reducible repeat (first | refine blk_drewN ?_ _ | refine blk_drew ?_ | refine blk_alloc ?_ _)); refine blk_put (cs := #[.int .u64 0, .string (⟨#[]⟩ : ByteArray), .bool false, .int .i64 0]) ?_ 0 _ rfl; (with_reducible repeat (first | refine blk_drewN ?_ _ | refine blk_drew ?_ | refine blk_alloc ?_ _)); exact BK239.out) hb); have n3_ := Aside0.mk (below_step (by repeat (first | (with_reducible first | exact HB.out | apply below_alloc | apply pw_below_drewN | apply below_drew1 | refine below_set ?_ GE239.out) | exact HB.out)) hb); clear HO_3; clear BK239; clear HB; have HO_3 := n0_; have HO244 := n1_; have BK239 := n2_; have HB := n3_; clear n0_ n1_ n2_ n3_; (try clear hb); (try clear hb2); (try clear hk); (try clear hi); (try clear ho0))))
          (try simp only [Act.put, List.setIfInBounds_toArray, List.set_cons_zero, List.set_cons_succ])
          go_cut [52] (fun v52 wc => ∃ (kq : Nat) (x52_14 : Bool), v52 = .bool x52_14 ∧ Aside0 (cellarerlaw05_ChainOff.j2 kq l0 x3_1 x4_1 t241 t242 x52_14 = some r) ∧ Aside0 (kq ≤ kj1) ∧ Aside0 (Kd.R k25 25 wc w.heap.size (fun k_ => some k_ ≠ (v243 : Value).ownBlock ∧ k_ ≠ gb239) (.slice Ao16 x3_1.length co16) x3_1) ∧ Aside0 (Kd.R k25 25 wc w.heap.size (fun k_ => some k_ ≠ ((.slice Ao16 x3_1.length co16) : Value).ownBlock ∧ k_ ≠ gb239) v243 t241) ∧ Aside0 (wc.heap[gb239]? = some (.cells #[.int .u64 t235, .string t236, .bool t237, .int .i64 t238] 25 (0, 0))) ∧ Aside0 (Below w.heap.size w wc))
          case first =>
           have H := HC15.out
           clear HC15
           by_cases c18 : ((t242 == 0) != ((x3_1.length : Int) == 1)) = true
           ·rw [if_pos c18] at H
            have c18b0 : ((t242 == 0) != ((x3_1.length : Int) == 1)) = true := c18
            (try (have c18b1 : decide ((t242 == 0) = ((x3_1.length : Int) == 1)) = false := by simpa using c18))
            (try (have c18b2 : ((t242 == 0) == ((x3_1.length : Int) == 1)) = false := by simpa using c18))
            (try (have c18b3 : ¬ ((t242 == 0) = ((x3_1.length : Int) == 1)) := by simpa using c18))
            clear c18
            (first | rw [c18b0] | rw [c18b1] | (simp only [i64_w, i32_w]; rw [c18b0]) | skip)
            have H' := Aside0.mk H
            clear H
            go_wp2
            repeat (go_quiet (fail); try go_wp2)
            go_meet
            case rel => exact ⟨_, (true), (by first | rfl | (simp; done) | (simp [*]; done)), H', ⟨by have := HK1.out; have := HJ1.out; first | omega | exact Nat.le_refl _⟩, ⟨by (with_reducible repeat (first | apply Kd.R_alloc | apply Kd.R_drewN | apply Kd.R_drew)); exact Kd.R_mono HO_3.out (fun _ hk => ⟨hk.2, hk.1.2⟩)⟩, ⟨by (with_reducible repeat (first | apply Kd.R_alloc | apply Kd.R_drewN | apply Kd.R_drew)); exact Kd.R_mono HO244.out (fun _ hk => ⟨hk.1.2, hk.2⟩)⟩, ⟨by (with_reducible repeat (first | refine blk_drewN ?_ _ | refine blk_drew ?_ | refine blk_alloc ?_ _)); exact BK239.out⟩, ⟨by repeat (first | (with_reducible first | exact HB.out | apply below_alloc | apply pw_below_drewN | apply below_drew1 | refine below_set ?_ GE239.out) | exact HB.out)⟩⟩
           ·rw [if_neg c18] at H
            have c18b0 : ((t242 == 0) != ((x3_1.length : Int) == 1)) = false := by simpa using c18
            (try (have c18b1 : decide ((t242 == 0) = ((x3_1.length : Int) == 1)) = true := by simpa using c18))
            (try (have c18b2 : ((t242 == 0) == ((x3_1.length : Int) == 1)) = true := by simpa using c18))
            clear c18
            (first | rw [c18b0] | rw [c18b1] | (simp only [i64_w, i32_w]; rw [c18b0]) | skip)
            by_cases c19 : t242 = 0
            ·rw [if_pos c19] at H
             have c19b0 : (t242 == 0) = true := beq_iff_eq.mpr c19
             have c19b1 : (t242 != 0) = false := bne_eq_false_iff_eq.mpr c19
             (try (have hqt_ : ((x3_1.length : Int) == 1) = true := by (have hx_ := c18b0; rw [c19b0] at hx_; simpa using hx_)))
             (try (have hqf_ : ((x3_1.length : Int) == 1) = false := by (have hx_ := c18b0; rw [c19b0] at hx_; simpa using hx_)))
             clear c19
             have H' := Aside0.mk H
             clear H
             obtain ⟨Ao20, co20, eo20⟩ := Kd.R_slice HO244.out
             subst eo20
             go_wp2
             repeat (go_quiet (fail); try go_wp2)
             go_meet
             case rel => exact ⟨_, (((t241.length : Int) != 0)), (by first | rfl | (simp; done) | (simp [*]; done)), H', ⟨by have := HK1.out; have := HJ1.out; first | omega | exact Nat.le_refl _⟩, ⟨by (with_reducible repeat (first | apply Kd.R_alloc | apply Kd.R_drewN | apply Kd.R_drew)); exact Kd.R_mono HO_3.out (fun _ hk => ⟨hk.2, hk.1.2⟩)⟩, ⟨by (with_reducible repeat (first | apply Kd.R_alloc | apply Kd.R_drewN | apply Kd.R_drew)); exact Kd.R_mono HO244.out (fun _ hk => ⟨hk.1.2, hk.2⟩)⟩, ⟨by (with_reducible repeat (first | refine blk_drewN ?_ _ | refine blk_drew ?_ | refine blk_alloc ?_ _)); exact BK239.out⟩, ⟨by repeat (first | (with_reducible first | exact HB.out | apply below_alloc | apply pw_below_drewN | apply below_drew1 | refine below_set ?_ GE239.out) | exact HB.out)⟩⟩
            ·rw [if_neg c19] at H
             have c19b0 : (t242 == 0) = false := beq_eq_false_iff_ne.mpr c19
             have c19b1 : (t242 != 0) = true := bne_iff_ne.mpr c19
             (try (have hqt_ : ((x3_1.length : Int) == 1) = true := by (have hx_ := c18b0; rw [c19b0] at hx_; simpa using hx_)))
             (try (have hqf_ : ((x3_1.length : Int) == 1) = false := by (have hx_ := c18b0; rw [c19b0] at hx_; simpa using hx_)))
             have H' := Aside0.mk H
             clear H
             go_wp2
             repeat (go_quiet (fail); try go_wp2)
             go_meet
             case rel => exact ⟨_, (false), (by first | rfl | (simp; done) | (simp [*]; done)), H', ⟨by have := HK1.out; have := HJ1.out; first | omega | exact Nat.le_refl _⟩, ⟨by (with_reducible repeat (first | apply Kd.R_alloc | apply Kd.R_drewN | apply Kd.R_drew)); exact Kd.R_mono HO_3.out (fun _ hk => ⟨hk.2, hk.1.2⟩)⟩, ⟨by (with_reducible repeat (first | apply Kd.R_alloc | apply Kd.R_drewN | apply Kd.R_drew)); exact Kd.R_mono HO244.out (fun _ hk => ⟨hk.1.2, hk.2⟩)⟩, ⟨by (with_reducible repeat (first | refine blk_drewN ?_ _ | refine blk_drew ?_ | refine blk_alloc ?_ _)); exact BK239.out⟩, ⟨by repeat (first | (with_reducible first | exact HB.out | apply below_alloc | apply pw_below_drewN | apply below_drew1 | refine below_set ?_ GE239.out) | exact HB.out)⟩⟩
          case rest =>
           clear HC15
           try clear c1
           try clear q1
           try clear p2
           try clear q2
           try clear hx2
           try clear c3
           try clear c3b0
           try clear c4
           try clear c5
           try clear c5b0
           try clear c6
           try clear c6b0
           try clear q12
           try clear c13
           try clear c18
           try clear c18b0
           try clear c18b1
           try clear c18b2
           try clear c19
           try clear c19b0
           try clear c19b1
           try clear hcz11_0
           try clear hcz11_1
           try clear hcz11_2
           try clear hcz11_3
           try clear hfz11_0
           try clear hfz11_1
           try clear hfz11_2
           try clear hfz11_3
           try clear hx234_0
           try clear hx234_1
           try clear hx234_2
           try clear hx240_0
           try clear hx240_1
           try clear hx240_2
           try clear p2
           try clear p234
           try clear p240
           try clear q234
           try clear q240
           obtain ⟨kq, x52_14, rfl, HA, HJ14, HO_3, HO_6, BK239, HB⟩ := hcut
           cases kq with
           | zero => exact absurd HA.out (by simp [cellarerlaw05_ChainOff.j2])
           | succ kj14 =>
            have H := HA.out
            clear HA
            simp only [cellarerlaw05_ChainOff.j2] at H
            by_cases c21 : x52_14 = true
            ·subst c21
             have H1 : (some false) = some r := by rw [if_pos rfl] at H; exact H
             clear H
             have H := H1
             clear H1
             obtain rfl := Option.some.inj H
             go_wp2
             repeat (go_quiet (fail); try go_wp2)
             go_ret
             exact ⟨by first | rfl | (simp [errW_none, errW_some] <;> rfl) | (simp [*, errW_none, errW_some] <;> rfl), by repeat (first | (with_reducible first | exact HB.out | apply below_alloc | apply pw_below_drewN | apply below_drew1 | refine below_set ?_ GE239.out) | exact HB.out)⟩
            ·replace c21 := Bool.eq_false_iff.mpr c21
             subst c21
             have H1 : (cellarerlaw05_ChainOff.j4 kj14 l0 x3_1 x4_1 t241 t242) = some r := by rw [if_neg (show ¬ (false = true) by decide)] at H; exact H
             clear H
             have H := H1
             clear H1
             have H' := Aside0.mk H
             clear H
             go_wp2
             repeat (go_quiet (fail); try go_wp2)
             go_meet
             case rel => exact ⟨_, (t241), (t242), (by first | rfl | (simp; done) | (simp [*]; done)), H', ⟨by have := HK1.out; have := HJ1.out; have := HJ14.out; first | omega | exact Nat.le_refl _⟩, ⟨by (with_reducible repeat (first | apply Kd.R_alloc | apply Kd.R_drewN | apply Kd.R_drew)); first | exact HO_3.out | exact Kd.R_mono HO_3.out (fun _ hk => hk.1) | exact Kd.R_mono HO_3.out (fun _ hk => hk.2)⟩, ⟨by (with_reducible repeat (first | apply Kd.R_alloc | apply Kd.R_drewN | apply Kd.R_drew)); first | exact HO_6.out | exact Kd.R_mono HO_6.out (fun _ hk => hk.1) | exact Kd.R_mono HO_6.out (fun _ hk => hk.2)⟩, ⟨by (with_reducible repeat (first | refine blk_drewN ?_ _ | refine blk_drew ?_ | refine blk_alloc ?_ _)); exact BK239.out⟩, ⟨by repeat (first | (with_reducible first | exact HB.out | apply below_alloc | apply pw_below_drewN | apply below_drew1 | refine below_set ?_ GE239.out) | exact HB.out)⟩⟩
         ·replace c13 := Bool.eq_false_iff.mpr c13
          subst c13
          have H1 : ((chain_Put.f x3_1 0 t235 t236 t237 t238).bind fun bt245 => (if ((bt245.2 == 0) != (decide ((t236.size : Int) ≤ 2000))) = true then (cellarerlaw05_ChainOff.j3 kj1 l0 x3_1 x4_1 bt245.1 bt245.2 true) else (if bt245.2 = 0 then (if (bt245.1.length : Int) = 1 then (if 0 < (bt245.1.length : Int) then (cellarerlaw05_ChainOff.j3 kj1 l0 x3_1 x4_1 bt245.1 bt245.2 (!(((rd_T25 bt245.1 0).f0) == t235) || (!((((rd_T25 bt245.1 0).f1).toList) == t236.toList) || (!(((rd_T25 bt245.1 0).f2) == t237) || (!(((rd_T25 bt245.1 0).f3) == t238)))))) else (none)) else (cellarerlaw05_ChainOff.j3 kj1 l0 x3_1 x4_1 bt245.1 bt245.2 true)) else (cellarerlaw05_ChainOff.j3 kj1 l0 x3_1 x4_1 bt245.1 bt245.2 false)))) = some r := by rw [if_neg (show ¬ (false = true) by decide)] at H; exact H
          clear H
          have H := H1
          clear H1
          replace H := Option.bind_eq_some_iff.mp H
          obtain ⟨⟨t245, t248⟩, A220, H⟩ := H
          replace H : (if ((t248 == 0) != (decide ((t236.size : Int) ≤ 2000))) = true then (cellarerlaw05_ChainOff.j3 kj1 l0 x3_1 x4_1 t245 t248 true) else (if t248 = 0 then (if (t245.length : Int) = 1 then (if 0 < (t245.length : Int) then (cellarerlaw05_ChainOff.j3 kj1 l0 x3_1 x4_1 t245 t248 (!(((rd_T25 t245 0).f0) == t235) || (!((((rd_T25 t245 0).f1).toList) == t236.toList) || (!(((rd_T25 t245 0).f2) == t237) || (!(((rd_T25 t245 0).f3) == t238)))))) else (none)) else (cellarerlaw05_ChainOff.j3 kj1 l0 x3_1 x4_1 t245 t248 true)) else (cellarerlaw05_ChainOff.j3 kj1 l0 x3_1 x4_1 t245 t248 false))) = some r := H
          have A22 := Aside0.mk A220
          clear A220
          have HC23 := Aside0.mk H
          clear H
          have hcz24_0 : w10.cell? ⟨gb239, 0, none⟩ = some (.int .u64 0) := (blk_cell BK239.out 0).trans rfl
          have hcz24_1 : w10.cell? ⟨gb239, 1, none⟩ = some (.string (⟨#[]⟩ : ByteArray)) := (blk_cell BK239.out 1).trans rfl
          have hcz24_2 : w10.cell? ⟨gb239, 2, none⟩ = some (.bool false) := (blk_cell BK239.out 2).trans rfl
          have hcz24_3 : w10.cell? ⟨gb239, 3, none⟩ = some (.int .i64 0) := (blk_cell BK239.out 3).trans rfl
          have hfz24_0 := blk_frozen BK239.out 0
          have hfz24_1 := blk_frozen BK239.out 1
          have hfz24_2 := blk_frozen BK239.out 2
          have hfz24_3 := blk_frozen BK239.out 3
          obtain ⟨Ao25, co25, eo25⟩ := Kd.R_slice HO_3.out
          subst eo25
          go_upto_region 12 with (first | (go_at_call 12; (with_reducible refine (chain_Put.calls _ _ x3_1 0 t235 t236 t237 t238 t245 t248 _ ?side1 ?side2 A22.out).mono ?_); (case side1 => refine (Kd.R_reads' (e := 25) (base := w.heap.size) (ok := fun k_ => (True ∧ k_ ≠ gb239)) (n := x3_1.length) (c := co25) ?_).2.2; exact (by (with_reducible repeat (first | apply Kd.R_alloc | apply Kd.R_drewN | apply Kd.R_drew)); exact (Kd.R_mono (Kd.R_far (p := ⟨gb239, 3, none⟩) (Kd.R_far (p := ⟨gb239, 2, none⟩) (Kd.R_far (p := ⟨gb239, 1, none⟩) (Kd.R_far (p := ⟨gb239, 0, none⟩) (Kd.R_mono HO_3.out (fun k_ hk => (⟨hk, hk.2⟩ : _ ∧ k_ ≠ gb239))) (fun _ hk => hk.2) (.int .u64 t235)) (fun _ hk => hk.2) (.string t236)) (fun _ hk => hk.2) (.bool t237)) (fun _ hk => hk.2) (.int .i64 t238)) (fun _ h_ => h_.1)))); (case side2 => exact (Kd.R_reads' HO_3.out).2.1); rintro e w26 ⟨v246, rfl, ho0, hb⟩; have n0_ := Aside0.mk (Kd.R_elder' (by (with_reducible repeat (first | apply Kd.R_alloc | apply Kd.R_drewN | apply Kd.R_drew)); exact (Kd.R_mono (Kd.R_far (p := ⟨gb239, 3, none⟩) (Kd.R_far (p := ⟨gb239, 2, none⟩) (Kd.R_far (p := ⟨gb239, 1, none⟩) (Kd.R_far (p := ⟨gb239, 0, none⟩) (Kd.R_mono HO_3.out (fun k_ hk => (⟨hk, hk.2⟩ : _ ∧ k_ ≠ gb239))) (fun _ hk => hk.2) (.int .u64 t235)) (fun _ hk => hk.2) (.string t236)) (fun _ hk => hk.2) (.bool t237)) (fun _ hk => hk.2) (.int .i64 t238)) (fun _ h_ => h_.1))) (Kd.R_base ho0) hb); have n1_ := Aside0.mk (Kd.R_lower (Kd.R_newB (Kd.R_new' ho0 (Kd.R_lt (by (with_reducible repeat (first | apply Kd.R_alloc | apply Kd.R_drewN | apply Kd.R_drew)); exact (Kd.R_mono (Kd.R_far (p := ⟨gb239, 3, none⟩) (Kd.R_far (p := ⟨gb239, 2, none⟩) (Kd.R_far (p := ⟨gb239, 1, none⟩) (Kd.R_far (p := ⟨gb239, 0, none⟩) (Kd.R_mono HO_3.out (fun k_ hk => (⟨hk, hk.2⟩ : _ ∧ k_ ≠ gb239))) (fun _ hk => hk.2) (.int .u64 t235)) (fun _ hk => hk.2) (.string t236)) (fun _ hk => hk.2) (.bool t237)) (fun _ hk => hk.2) (.int .i64 t238)) (fun _ h_ => h_.1))))) (g := gb239) (o := .cells #[.int .u64 t235, .string t236, .bool t237, .int .i64 t238] 25 (0, 0)) (by (with_reducible repeat (first | refine blk_drewN ?_ _ | refine blk_drew ?_ | refine blk_alloc ?_ _)); refine blk_put (cs := #[.int .u64 t235, .string t236, .bool t237, .int .i64 0]) ?_ 3 _ rfl; (with_reducible repeat (first | refine blk_drewN ?_ _ | refine blk_drew ?_ | refine blk_alloc ?_ _)); refine blk_put (cs := #[.int .u64 t235, .string t236, .bool false, .int .i64 0]) ?_ 2 _ rfl; (with_reducible repeat (first | refine blk_drewN ?_ _ | refine blk_drew ?_ | refine blk_alloc ?_ _)); refine blk_put (cs := #[.int .u64 t235, .string (⟨#[]⟩ : ByteArray), .bool false, .int .i64 0]) ?_ 1 _ rfl; (with_reducible repeat (first | refine blk_drewN ?_ _ | refine blk_drew ?_ | refine blk_alloc ?_ _)); refine blk_put (cs := #[.int .u64 0, .string (⟨#[]⟩ : ByteArray), .bool false, .int .i64 0]) ?_ 0 _ rfl; (with_reducible repeat (first | refine blk_drewN ?_ _ | refine blk_drew ?_ | refine blk_alloc ?_ _)); exact BK239.out)) (below_size (by repeat (first | (with_reducible first | exact HB.out | apply below_alloc | apply pw_below_drewN | apply below_drew1 | refine below_set ?_ GE239.out) | exact HB.out)))); have n2_ := Aside0.mk (blk_below (g := gb239) (o := .cells #[.int .u64 t235, .string t236, .bool t237, .int .i64 t238] 25 (0, 0)) (by (with_reducible repeat (first | refine blk_drewN ?_ _ | refine blk_drew ?_ | refine blk_alloc ?_ _)); refine blk_put (cs := #[.int .u64 t235, .string t236, .bool t237, .int .i64 0]) ?_ 3 _ rfl; (with_reducible repeat (first | refine blk_drewN ?_ _ | refine blk_drew ?_ | refine blk_alloc ?_ _)); refine blk_put (cs := #[.int .u64 t235, .string t236, .bool false, .int .i64 0]) ?_ 2 _ rfl; (with_reducible repeat (first | refine blk_drewN ?_ _ | refine blk_drew ?_ | refine blk_alloc ?_ _)); refine blk_put (cs := #[.int .u64 t235, .string (⟨#[]⟩ : ByteArray), .bool false, .int .i64 0]) ?_ 1 _ rfl; (with_reducible repeat (first | refine blk_drewN ?_ _ | refine blk_drew ?_ | refine blk_alloc ?_ _)); refine blk_put (cs := #[.int .u64 0, .string (⟨#[]⟩ : ByteArray), .bool false, .int .i64 0]) ?_ 0 _ rfl; (with_reducible repeat (first | refine blk_drewN ?_ _ | refine blk_drew ?_ | refine blk_alloc ?_ _)); exact BK239.out) hb); have n3_ := Aside0.mk (below_step (by repeat (first | (with_reducible first | exact HB.out | apply below_alloc | apply pw_below_drewN | apply below_drew1 | refine below_set ?_ GE239.out) | exact HB.out)) hb); clear HO_3; clear BK239; clear HB; have HO_3 := n0_; have HO247 := n1_; have BK239 := n2_; have HB := n3_; clear n0_ n1_ n2_ n3_; (try clear hb); (try clear hb2); (try clear hk); (try clear hi); (try clear ho0)))
          repeat (go_quiet (first | (go_at_call 12; (with_reducible refine (chain_Put.calls _ _ x3_1 0 t235 t236 t237 t238 t245 t248 _ ?side1 ?side2 A22.out).mono ?_); (case side1 => refine (Kd.R_reads' (e := 25) (base := w.heap.size) (ok := fun k_ => (True ∧ k_ ≠ gb239)) (n := x3_1.length) (c := co25) ?_).2.2; exact (by (with_reducible repeat (first | apply Kd.R_alloc | apply Kd.R_drewN | apply Kd.R_drew)); exact (Kd.R_mono (Kd.R_far (p := ⟨gb239, 3, none⟩) (Kd.R_far (p := ⟨gb239, 2, none⟩) (Kd.R_far (p := ⟨gb239, 1, none⟩) (Kd.R_far (p := ⟨gb239, 0, none⟩) (Kd.R_mono HO_3.out (fun k_ hk => (⟨hk, hk.2⟩ : _ ∧ k_ ≠ gb239))) (fun _ hk => hk.2) (.int .u64 t235)) (fun _ hk => hk.2) (.string t236)) (fun _ hk => hk.2) (.bool t237)) (fun _ hk => hk.2) (.int .i64 t238)) (fun _ h_ => h_.1)))); (case side2 => exact (Kd.R_reads' HO_3.out).2.1); rintro e w26 ⟨v246, rfl, ho0, hb⟩; have n0_ := Aside0.mk (Kd.R_elder' (by (with_reducible repeat (first | apply Kd.R_alloc | apply Kd.R_drewN | apply Kd.R_drew)); exact (Kd.R_mono (Kd.R_far (p := ⟨gb239, 3, none⟩) (Kd.R_far (p := ⟨gb239, 2, none⟩) (Kd.R_far (p := ⟨gb239, 1, none⟩) (Kd.R_far (p := ⟨gb239, 0, none⟩) (Kd.R_mono HO_3.out (fun k_ hk => (⟨hk, hk.2⟩ : _ ∧ k_ ≠ gb239))) (fun _ hk => hk.2) (.int .u64 t235)) (fun _ hk => hk.2) (.string t236)) (fun _ hk => hk.2) (.bool t237)) (fun _ hk => hk.2) (.int .i64 t238)) (fun _ h_ => h_.1))) (Kd.R_base ho0) hb); have n1_ := Aside0.mk (Kd.R_lower (Kd.R_newB (Kd.R_new' ho0 (Kd.R_lt (by (with_reducible repeat (first | apply Kd.R_alloc | apply Kd.R_drewN | apply Kd.R_drew)); exact (Kd.R_mono (Kd.R_far (p := ⟨gb239, 3, none⟩) (Kd.R_far (p := ⟨gb239, 2, none⟩) (Kd.R_far (p := ⟨gb239, 1, none⟩) (Kd.R_far (p := ⟨gb239, 0, none⟩) (Kd.R_mono HO_3.out (fun k_ hk => (⟨hk, hk.2⟩ : _ ∧ k_ ≠ gb239))) (fun _ hk => hk.2) (.int .u64 t235)) (fun _ hk => hk.2) (.string t236)) (fun _ hk => hk.2) (.bool t237)) (fun _ hk => hk.2) (.int .i64 t238)) (fun _ h_ => h_.1))))) (g := gb239) (o := .cells #[.int .u64 t235, .string t236, .bool t237, .int .i64 t238] 25 (0, 0)) (by (with_reducible repeat (first | refine blk_drewN ?_ _ | refine blk_drew ?_ | refine blk_alloc ?_ _)); refine blk_put (cs := #[.int .u64 t235, .string t236, .bool t237, .int .i64 0]) ?_ 3 _ rfl; (with_reducible repeat (first | refine blk_drewN ?_ _ | refine blk_drew ?_ | refine blk_alloc ?_ _)); refine blk_put (cs := #[.int .u64 t235, .string t236, .bool false, .int .i64 0]) ?_ 2 _ rfl; (with_reducible repeat (first | refine blk_drewN ?_ _ | refine blk_drew ?_ | refine blk_alloc ?_ _)); refine blk_put (cs := #[.int .u64 t235, .string (⟨#[]⟩ : ByteArray), .bool false, .int .i64 0]) ?_ 1 _ rfl; (with_reducible repeat (first | refine blk_drewN ?_ _ | refine blk_drew ?_ | refine blk_alloc ?_ _)); refine blk_put (cs := #[.int .u64 0, .string (⟨#[]⟩ : ByteArray), .bool false, .int .i64 0]) ?_ 0 _ rfl; (with_reducible repeat (first | refine blk_drewN ?_ _ | refine blk_drew ?_ | refine blk_alloc ?_ _)); exact BK239.out)) (below_size (by repeat (first | (with_reducible first | exact HB.out | apply below_alloc | apply pw_below_drewN | apply below_drew1 | refine below_set ?_ GE239.out) | exact HB.out)))); have n2_ := Aside0.mk (blk_below (g := gb239) (o := .cells #[.int .u64 t235, .string t236, .bool t237, .int .i64 t238] 25 (0, 0)) (by (with_reducible repeat (first | refine blk_drewN ?_ _ | refine blk_drew ?_ | refine blk_alloc ?_ _)); refine blk_put (cs := #[.int .u64 t235, .string t236, .bool t237, .int .i64 0]) ?_ 3 _ rfl; (with_reducible repeat (first | refine blk_drewN ?_ _ | refine blk_drew ?_ | refine blk_alloc ?_ _)); refine blk_put (cs := #[.int .u64 t235, .string t236, .bool false, .int .i64 0]) ?_ 2 _ rfl; (with_reducible repeat (first | refine blk_drewN ?_ _ | refine blk_drew ?_ | refine blk_alloc ?_ _)); refine blk_put (cs := #[.int .u64 t235, .string (⟨#[]⟩ : ByteArray), .bool false, .int .i64 0]) ?_ 1 _ rfl; (with_reducible repeat (first | refine blk_drewN ?_ _ | refine blk_drew ?_ | refine blk_alloc ?_ _)); refine blk_put (cs := #[.int .u64 0, .string (⟨#[]⟩ : ByteArray), .bool false, .int .i64 0]) ?_ 0 _ rfl; (with_reducible repeat (first | refine blk_drewN ?_ _ | refine blk_drew ?_ | refine blk_alloc ?_ _)); exact BK239.out) hb); have n3_ := Aside0.mk (below_step (by repeat (first | (with_reducible first | exact HB.out | apply below_alloc | apply pw_below_drewN | apply below_drew1 | refine below_set ?_ GE239.out) | exact HB.out)) hb); clear HO_3; clear BK239; clear HB; have HO_3 := n0_; have HO247 := n1_; have BK239 := n2_; have HB := n3_; clear n0_ n1_ n2_ n3_; (try clear hb); (try clear hb2); (try clear hk); (try clear hi); (try clear ho0))); go_upto_region 12 with (first | (go_at_call 12; (with_reducible refine (chain_Put.calls _ _ x3_1 0 t235 t236 t237 t238 t245 t248 _ ?side1 ?side2 A22.out).mono ?_); (case side1 => refine (Kd.R_reads' (e := 25) (base := w.heap.size) (ok := fun k_ => (True ∧ k_ ≠ gb239)) (n := x3_1.length) (c := co25) ?_).2.2; exact (by (with_reducible repeat (first | apply Kd.R_alloc | apply Kd.R_drewN | apply Kd.R_drew)); exact (Kd.R_mono (Kd.R_far (p := ⟨gb239, 3, none⟩) (Kd.R_far (p := ⟨gb239, 2, none⟩) (Kd.R_far (p := ⟨gb239, 1, none⟩) (Kd.R_far (p := ⟨gb239, 0, none⟩) (Kd.R_mono HO_3.out (fun k_ hk => (⟨hk, hk.2⟩ : _ ∧ k_ ≠ gb239))) (fun _ hk => hk.2) (.int .u64 t235)) (fun _ hk => hk.2) (.string t236)) (fun _ hk => hk.2) (.bool t237)) (fun _ hk => hk.2) (.int .i64 t238)) (fun _ h_ => h_.1)))); (case side2 => exact (Kd.R_reads' HO_3.out).2.1); rintro e w26 ⟨v246, rfl, ho0, hb⟩; have n0_ := Aside0.mk (Kd.R_elder' (by (with_reducible repeat (first | apply Kd.R_alloc | apply Kd.R_drewN | apply Kd.R_drew)); exact (Kd.R_mono (Kd.R_far (p := ⟨gb239, 3, none⟩) (Kd.R_far (p := ⟨gb239, 2, none⟩) (Kd.R_far (p := ⟨gb239, 1, none⟩) (Kd.R_far (p := ⟨gb239, 0, none⟩) (Kd.R_mono HO_3.out (fun k_ hk => (⟨hk, hk.2⟩ : _ ∧ k_ ≠ gb239))) (fun _ hk => hk.2) (.int .u64 t235)) (fun _ hk => hk.2) (.string t236)) (fun _ hk => hk.2) (.bool t237)) (fun _ hk => hk.2) (.int .i64 t238)) (fun _ h_ => h_.1))) (Kd.R_base ho0) hb); have n1_ := Aside0.mk (Kd.R_lower (Kd.R_newB (Kd.R_new' ho0 (Kd.R_lt (by (with_reducible repeat (first | apply Kd.R_alloc | apply Kd.R_drewN | apply Kd.R_drew)); exact (Kd.R_mono (Kd.R_far (p := ⟨gb239, 3, none⟩) (Kd.R_far (p := ⟨gb239, 2, none⟩) (Kd.R_far (p := ⟨gb239, 1, none⟩) (Kd.R_far (p := ⟨gb239, 0, none⟩) (Kd.R_mono HO_3.out (fun k_ hk => (⟨hk, hk.2⟩ : _ ∧ k_ ≠ gb239))) (fun _ hk => hk.2) (.int .u64 t235)) (fun _ hk => hk.2) (.string t236)) (fun _ hk => hk.2) (.bool t237)) (fun _ hk => hk.2) (.int .i64 t238)) (fun _ h_ => h_.1))))) (g := gb239) (o := .cells #[.int .u64 t235, .string t236, .bool t237, .int .i64 t238] 25 (0, 0)) (by (with_reducible repeat (first | refine blk_drewN ?_ _ | refine blk_drew ?_ | refine blk_alloc ?_ _)); refine blk_put (cs := #[.int .u64 t235, .string t236, .bool t237, .int .i64 0]) ?_ 3 _ rfl; (with_reducible repeat (first | refine blk_drewN ?_ _ | refine blk_drew ?_ | refine blk_alloc ?_ _)); refine blk_put (cs := #[.int .u64 t235, .string t236, .bool false, .int .i64 0]) ?_ 2 _ rfl; (with_reducible repeat (first | refine blk_drewN ?_ _ | refine blk_drew ?_ | refine blk_alloc ?_ _)); refine blk_put (cs := #[.int .u64 t235, .string (⟨#[]⟩ : ByteArray), .bool false, .int .i64 0]) ?_ 1 _ rfl; (with_reducible repeat (first | refine blk_drewN ?_ _ | refine blk_drew ?_ | refine blk_alloc ?_ _)); refine blk_put (cs := #[.int .u64 0, .string (⟨#[]⟩ : ByteArray), .bool false, .int .i64 0]) ?_ 0 _ rfl; (with_reducible repeat (first | refine blk_drewN ?_ _ | refine blk_drew ?_ | refine blk_alloc ?_ _)); exact BK239.out)) (below_size (by repeat (first | (with_reducible first | exact HB.out | apply below_alloc | apply pw_below_drewN | apply below_drew1 | refine below_set ?_ GE239.out) | exact HB.out)))); have n2_ := Aside0.mk (blk_below (g := gb239) (o := .cells #[.int .u64 t235, .string t236, .bool t237, .int .i64 t238] 25 (0, 0)) (by (with_reducible repeat (first | refine blk_drewN ?_ _ | refine blk_drew ?_ | refine blk_alloc ?_ _)); refine blk_put (cs := #[.int .u64 t235, .string t236, .bool t237, .int .i64 0]) ?_ 3 _ rfl; (with_reducible repeat (first | refine blk_drewN ?_ _ | refine blk_drew ?_ | refine blk_alloc ?_ _)); refine blk_put (cs := #[.int .u64 t235, .string t236, .bool false, .int .i64 0]) ?_ 2 _ rfl; (with_reducible repeat (first | refine blk_drewN ?_ _ | refine blk_drew ?_ | refine blk_alloc ?_ _)); refine blk_put (cs := #[.int .u64 t235, .string (⟨#[]⟩ : ByteArray), .bool false, .int .i64 0]) ?_ 1 _ rfl; (with_reducible repeat (first | refine blk_drewN ?_ _ | refine blk_drew ?_ | refine blk_alloc ?_ _)); refine blk_put (cs := #[.int .u64 0, .string (⟨#[]⟩ : ByteArray), .bool false, .int .i64 0]) ?_ 0 _ rfl; (with_reducible repeat (first | refine blk_drewN ?_ _ | refine blk_drew ?_ | refine blk_alloc ?_ _)); exact BK239.out) hb); have n3_ := Aside0.mk (below_step (by repeat (first | (with_reducible first | exact HB.out | apply below_alloc | apply pw_below_drewN | apply below_drew1 | refine below_set ?_ GE239.out) | exact HB.out)) hb); clear HO_3; clear BK239; clear HB; have HO_3 := n0_; have HO247 := n1_; have BK239 := n2_; have HB := n3_; clear n0_ n1_ n2_ n3_; (try clear hb); (try clear hb2); (try clear hk); (try clear hi); (try clear ho0))))
          (try simp only [Act.put, List.setIfInBounds_toArray, List.set_cons_zero, List.set_cons_succ])
          go_cut [81] (fun v81 wc => ∃ (kq : Nat) (x81_22 : Bool), v81 = .bool x81_22 ∧ Aside0 (cellarerlaw05_ChainOff.j3 kq l0 x3_1 x4_1 t245 t248 x81_22 = some r) ∧ Aside0 (kq ≤ kj1) ∧ Aside0 (Kd.R k25 25 wc w.heap.size (fun k_ => some k_ ≠ (v246 : Value).ownBlock ∧ k_ ≠ gb239) (.slice Ao25 x3_1.length co25) x3_1) ∧ Aside0 (Kd.R k25 25 wc w.heap.size (fun k_ => some k_ ≠ ((.slice Ao25 x3_1.length co25) : Value).ownBlock ∧ k_ ≠ gb239) v246 t245) ∧ Aside0 (wc.heap[gb239]? = some (.cells #[.int .u64 t235, .string t236, .bool t237, .int .i64 t238] 25 (0, 0))) ∧ Aside0 (Below w.heap.size w wc))
          case first =>
           have H := HC23.out
           clear HC23
           by_cases c27 : ((t248 == 0) != (decide ((t236.size : Int) ≤ 2000))) = true
           ·rw [if_pos c27] at H
            have c27b0 : ((t248 == 0) != (decide ((t236.size : Int) ≤ 2000))) = true := c27
            (try (have c27b1 : decide ((t248 == 0) = (decide ((t236.size : Int) ≤ 2000))) = false := by simpa using c27))
            (try (have c27b2 : ((t248 == 0) == (decide ((t236.size : Int) ≤ 2000))) = false := by simpa using c27))
            (try (have c27b3 : ¬ ((t248 == 0) = (decide ((t236.size : Int) ≤ 2000))) := by simpa using c27))
            clear c27
            (first | rw [c27b0] | rw [c27b1] | (simp only [i64_w, i32_w]; rw [c27b0]) | skip)
            have H' := Aside0.mk H
            clear H
            have hcz28_0 : w26.cell? ⟨gb239, 0, none⟩ = some (.int .u64 t235) := (blk_cell BK239.out 0).trans rfl
            have hcz28_1 : w26.cell? ⟨gb239, 1, none⟩ = some (.string t236) := (blk_cell BK239.out 1).trans rfl
            have hcz28_2 : w26.cell? ⟨gb239, 2, none⟩ = some (.bool t237) := (blk_cell BK239.out 2).trans rfl
            have hcz28_3 : w26.cell? ⟨gb239, 3, none⟩ = some (.int .i64 t238) := (blk_cell BK239.out 3).trans rfl
            have hfz28_0 := blk_frozen BK239.out 0
            have hfz28_1 := blk_frozen BK239.out 1
            have hfz28_2 := blk_frozen BK239.out 2
            have hfz28_3 := blk_frozen BK239.out 3
            go_wp2
            repeat (go_quiet (fail); try go_wp2)
            go_meet
            case rel => exact ⟨_, (true), (by first | rfl | (simp; done) | (simp [*]; done)), H', ⟨by have := HK1.out; have := HJ1.out; first | omega | exact Nat.le_refl _⟩, ⟨by (with_reducible repeat (first | apply Kd.R_alloc | apply Kd.R_drewN | apply Kd.R_drew)); exact Kd.R_mono HO_3.out (fun _ hk => ⟨hk.2, hk.1.2⟩)⟩, ⟨by (with_reducible repeat (first | apply Kd.R_alloc | apply Kd.R_drewN | apply Kd.R_drew)); exact Kd.R_mono HO247.out (fun _ hk => ⟨hk.1.2, hk.2⟩)⟩, ⟨by (with_reducible repeat (first | refine blk_drewN ?_ _ | refine blk_drew ?_ | refine blk_alloc ?_ _)); exact BK239.out⟩, ⟨by repeat (first | (with_reducible first | exact HB.out | apply below_alloc | apply pw_below_drewN | apply below_drew1 | refine below_set ?_ GE239.out) | exact HB.out)⟩⟩
           ·rw [if_neg c27] at H
            have c27b0 : ((t248 == 0) != (decide ((t236.size : Int) ≤ 2000))) = false := by simpa using c27
            (try (have c27b1 : decide ((t248 == 0) = (decide ((t236.size : Int) ≤ 2000))) = true := by simpa using c27))
            (try (have c27b2 : ((t248 == 0) == (decide ((t236.size : Int) ≤ 2000))) = true := by simpa using c27))
            clear c27
            (first | rw [c27b0] | rw [c27b1] | (simp only [i64_w, i32_w]; rw [c27b0]) | skip)
            by_cases c29 : t248 = 0
            ·rw [if_pos c29] at H
             have c29b0 : (t248 == 0) = true := beq_iff_eq.mpr c29
             have c29b1 : (t248 != 0) = false := bne_eq_false_iff_eq.mpr c29
             (try (have hqt_ : (decide ((t236.size : Int) ≤ 2000)) = true := by (have hx_ := c27b0; rw [c29b0] at hx_; simpa using hx_)))
             (try (have hqf_ : (decide ((t236.size : Int) ≤ 2000)) = false := by (have hx_ := c27b0; rw [c29b0] at hx_; simpa using hx_)))
             clear c29
             by_cases c30 : (t245.length : Int) = 1
             ·rw [if_pos c30] at H
              have c30b0 : ((t245.length : Int) == 1) = true := beq_iff_eq.mpr c30
              have c30b1 : ((t245.length : Int) != 1) = false := bne_eq_false_iff_eq.mpr c30
              clear c30
              by_cases c31 : 0 < (t245.length : Int)
              ·rw [if_pos c31] at H
               have c31b0 : decide (0 < (t245.length : Int)) = true := decide_eq_true c31
               have c31b1 : decide (0 < t245.length) = true := decide_eq_true (by omega)
               clear c31
               have H' := Aside0.mk H
               clear H
               have hcz32_0 : w26.cell? ⟨gb239, 0, none⟩ = some (.int .u64 t235) := (blk_cell BK239.out 0).trans rfl
               have hcz32_1 : w26.cell? ⟨gb239, 1, none⟩ = some (.string t236) := (blk_cell BK239.out 1).trans rfl
               have hcz32_2 : w26.cell? ⟨gb239, 2, none⟩ = some (.bool t237) := (blk_cell BK239.out 2).trans rfl
               have hcz32_3 : w26.cell? ⟨gb239, 3, none⟩ = some (.int .i64 t238) := (blk_cell BK239.out 3).trans rfl
               have hfz32_0 := blk_frozen BK239.out 0
               have hfz32_1 := blk_frozen BK239.out 1
               have hfz32_2 := blk_frozen BK239.out 2
               have hfz32_3 := blk_frozen BK239.out 3
               obtain ⟨Ao33, co33, eo33⟩ := Kd.R_slice HO247.out
               subst eo33
               have p249 : 0 ≤ (0 : Int) := (by omega)
               have q249 : 0 < (t245.length : Int) := of_decide_eq_true (by first | (with_reducible assumption) | assumption)
               obtain ⟨ad249, e249, hx249_0, hx249_1, hx249_2, hx249_3⟩ := at_T25 (Kd.R_reads' HO247.out).2.2 0 p249 q249
               (try rw [← Nbq12.out] at hx249_2)
               cases e249
               have qi249 : (0 < t245.length) = True := eq_true (by omega)
               (try rw [show ((0 : Int)).toNat = 0 from rfl] at hx249_0)
               (try rw [show 0 * 4 = 0 from rfl] at hx249_0)
               (try rw [Addr.add_zero'] at hx249_0)
               (try rw [show ((0 : Int)).toNat = 0 from rfl] at hx249_1)
               (try rw [show 0 * 4 = 0 from rfl] at hx249_1)
               (try rw [Addr.add_zero'] at hx249_1)
               (try rw [show ((0 : Int)).toNat = 0 from rfl] at hx249_2)
               (try rw [show 0 * 4 = 0 from rfl] at hx249_2)
               (try rw [Addr.add_zero'] at hx249_2)
               (try rw [show ((0 : Int)).toNat = 0 from rfl] at hx249_3)
               (try rw [show 0 * 4 = 0 from rfl] at hx249_3)
               (try rw [Addr.add_zero'] at hx249_3)
               replace p249 := eq_true p249
               replace q249 := eq_true q249
               go_wp2
               repeat (go_quiet (fail); try go_wp2)
               go_meet
               case rel => exact ⟨_, ((!(((rd_T25 t245 0).f0) == t235) || (!((((rd_T25 t245 0).f1).toList) == t236.toList) || (!(((rd_T25 t245 0).f2) == t237) || (!(((rd_T25 t245 0).f3) == t238)))))), (by first | rfl | (simp; done) | (simp [*]; done)), H', ⟨by have := HK1.out; have := HJ1.out; first | omega | exact Nat.le_refl _⟩, ⟨by (with_reducible repeat (first | apply Kd.R_alloc | apply Kd.R_drewN | apply Kd.R_drew)); exact Kd.R_mono HO_3.out (fun _ hk => ⟨hk.2, hk.1.2⟩)⟩, ⟨by (with_reducible repeat (first | apply Kd.R_alloc | apply Kd.R_drewN | apply Kd.R_drew)); exact Kd.R_mono HO247.out (fun _ hk => ⟨hk.1.2, hk.2⟩)⟩, ⟨by (with_reducible repeat (first | refine blk_drewN ?_ _ | refine blk_drew ?_ | refine blk_alloc ?_ _)); exact BK239.out⟩, ⟨by repeat (first | (with_reducible first | exact HB.out | apply below_alloc | apply pw_below_drewN | apply below_drew1 | refine below_set ?_ GE239.out) | exact HB.out)⟩⟩
              ·rw [if_neg c31] at H
               exact absurd H (by simp)
             ·rw [if_neg c30] at H
              have c30b0 : ((t245.length : Int) == 1) = false := beq_eq_false_iff_ne.mpr c30
              have c30b1 : ((t245.length : Int) != 1) = true := bne_iff_ne.mpr c30
              have H' := Aside0.mk H
              clear H
              have hcz34_0 : w26.cell? ⟨gb239, 0, none⟩ = some (.int .u64 t235) := (blk_cell BK239.out 0).trans rfl
              have hcz34_1 : w26.cell? ⟨gb239, 1, none⟩ = some (.string t236) := (blk_cell BK239.out 1).trans rfl
              have hcz34_2 : w26.cell? ⟨gb239, 2, none⟩ = some (.bool t237) := (blk_cell BK239.out 2).trans rfl
              have hcz34_3 : w26.cell? ⟨gb239, 3, none⟩ = some (.int .i64 t238) := (blk_cell BK239.out 3).trans rfl
              have hfz34_0 := blk_frozen BK239.out 0
              have hfz34_1 := blk_frozen BK239.out 1
              have hfz34_2 := blk_frozen BK239.out 2
              have hfz34_3 := blk_frozen BK239.out 3
              obtain ⟨Ao35, co35, eo35⟩ := Kd.R_slice HO247.out
              subst eo35
              go_wp2
              repeat (go_quiet (fail); try go_wp2)
              go_meet
              case rel => exact ⟨_, (true), (by first | rfl | (simp; done) | (simp [*]; done)), H', ⟨by have := HK1.out; have := HJ1.out; first | omega | exact Nat.le_refl _⟩, ⟨by (with_reducible repeat (first | apply Kd.R_alloc | apply Kd.R_drewN | apply Kd.R_drew)); exact Kd.R_mono HO_3.out (fun _ hk => ⟨hk.2, hk.1.2⟩)⟩, ⟨by (with_reducible repeat (first | apply Kd.R_alloc | apply Kd.R_drewN | apply Kd.R_drew)); exact Kd.R_mono HO247.out (fun _ hk => ⟨hk.1.2, hk.2⟩)⟩, ⟨by (with_reducible repeat (first | refine blk_drewN ?_ _ | refine blk_drew ?_ | refine blk_alloc ?_ _)); exact BK239.out⟩, ⟨by repeat (first | (with_reducible first | exact HB.out | apply below_alloc | apply pw_below_drewN | apply below_drew1 | refine below_set ?_ GE239.out) | exact HB.out)⟩⟩
            ·rw [if_neg c29] at H
             have c29b0 : (t248 == 0) = false := beq_eq_false_iff_ne.mpr c29
             have c29b1 : (t248 != 0) = true := bne_iff_ne.mpr c29
             (try (have hqt_ : (decide ((t236.size : Int) ≤ 2000)) = true := by (have hx_ := c27b0; rw [c29b0] at hx_; simpa using hx_)))
             (try (have hqf_ : (decide ((t236.size : Int) ≤ 2000)) = false := by (have hx_ := c27b0; rw [c29b0] at hx_; simpa using hx_)))
             have H' := Aside0.mk H
             clear H
             have hcz36_0 : w26.cell? ⟨gb239, 0, none⟩ = some (.int .u64 t235) := (blk_cell BK239.out 0).trans rfl
             have hcz36_1 : w26.cell? ⟨gb239, 1, none⟩ = some (.string t236) := (blk_cell BK239.out 1).trans rfl
             have hcz36_2 : w26.cell? ⟨gb239, 2, none⟩ = some (.bool t237) := (blk_cell BK239.out 2).trans rfl
             have hcz36_3 : w26.cell? ⟨gb239, 3, none⟩ = some (.int .i64 t238) := (blk_cell BK239.out 3).trans rfl
             have hfz36_0 := blk_frozen BK239.out 0
             have hfz36_1 := blk_frozen BK239.out 1
             have hfz36_2 := blk_frozen BK239.out 2
             have hfz36_3 := blk_frozen BK239.out 3
             go_wp2
             repeat (go_quiet (fail); try go_wp2)
             go_meet
             case rel => exact ⟨_, (false), (by first | rfl | (simp; done) | (simp [*]; done)), H', ⟨by have := HK1.out; have := HJ1.out; first | omega | exact Nat.le_refl _⟩, ⟨by (with_reducible repeat (first | apply Kd.R_alloc | apply Kd.R_drewN | apply Kd.R_drew)); exact Kd.R_mono HO_3.out (fun _ hk => ⟨hk.2, hk.1.2⟩)⟩, ⟨by (with_reducible repeat (first | apply Kd.R_alloc | apply Kd.R_drewN | apply Kd.R_drew)); exact Kd.R_mono HO247.out (fun _ hk => ⟨hk.1.2, hk.2⟩)⟩, ⟨by (with_reducible repeat (first | refine blk_drewN ?_ _ | refine blk_drew ?_ | refine blk_alloc ?_ _)); exact BK239.out⟩, ⟨by repeat (first | (with_reducible first | exact HB.out | apply below_alloc | apply pw_below_drewN | apply below_drew1 | refine below_set ?_ GE239.out) | exact HB.out)⟩⟩
          case rest =>
           clear HC23
           try clear c1
           try clear q1
           try clear c2
           try clear p2
           try clear q2
           try clear hx2
           try clear qi2
           try clear c3
           try clear c3b0
           try clear c4
           try clear c5
           try clear c5b0
           try clear c6
           try clear c6b0
           try clear q12
           try clear c13
           try clear c18
           try clear c18b0
           try clear c18b1
           try clear c18b2
           try clear c19
           try clear c19b0
           try clear c19b1
           try clear c21
           try clear p23
           try clear q23
           try clear hx23
           try clear p24
           try clear q24
           try clear hx24
           try clear qi24
           try clear c27
           try clear c27b0
           try clear c27b1
           try clear c27b2
           try clear c29
           try clear c29b0
           try clear c29b1
           try clear c30
           try clear c30b0
           try clear c30b1
           try clear c31
           try clear c31b0
           try clear c31b1
           try clear hcz11_0
           try clear hcz11_1
           try clear hcz11_2
           try clear hcz11_3
           try clear hcz24_0
           try clear hcz24_1
           try clear hcz24_2
           try clear hcz24_3
           try clear hcz28_0
           try clear hcz28_1
           try clear hcz28_2
           try clear hcz28_3
           try clear hcz32_0
           try clear hcz32_1
           try clear hcz32_2
           try clear hcz32_3
           try clear hcz34_0
           try clear hcz34_1
           try clear hcz34_2
           try clear hcz34_3
           try clear hcz36_0
           try clear hcz36_1
           try clear hcz36_2
           try clear hcz36_3
           try clear hfz11_0
           try clear hfz11_1
           try clear hfz11_2
           try clear hfz11_3
           try clear hfz24_0
           try clear hfz24_1
           try clear hfz24_2
           try clear hfz24_3
           try clear hfz28_0
           try clear hfz28_1
           try clear hfz28_2
           try clear hfz28_3
           try clear hfz32_0
           try clear hfz32_1
           try clear hfz32_2
           try clear hfz32_3
           try clear hfz34_0
           try clear hfz34_1
           try clear hfz34_2
           try clear hfz34_3
           try clear hfz36_0
           try clear hfz36_1
           try clear hfz36_2
           try clear hfz36_3
           try clear hx234_0
           try clear hx234_1
           try clear hx234_2
           try clear hx240_0
           try clear hx240_1
           try clear hx240_2
           try clear hx249_0
           try clear hx249_1
           try clear hx249_2
           try clear hx249_3
           try clear p2
           try clear p234
           try clear p240
           try clear p249
           try clear q1
           try clear q12
           try clear q2
           try clear q234
           try clear q240
           try clear q249
           obtain ⟨kq, x81_22, rfl, HA, HJ22, HO_3, HO_6, BK239, HB⟩ := hcut
           cases kq with
           | zero => exact absurd HA.out (by simp [cellarerlaw05_ChainOff.j3])
           | succ kj22 =>
            have H := HA.out
            clear HA
            simp only [cellarerlaw05_ChainOff.j3] at H
            by_cases c37 : x81_22 = true
            ·subst c37
             have H1 : (some false) = some r := by rw [if_pos rfl] at H; exact H
             clear H
             have H := H1
             clear H1
             obtain rfl := Option.some.inj H
             go_wp2
             repeat (go_quiet (fail); try go_wp2)
             go_ret
             exact ⟨by first | rfl | (simp [errW_none, errW_some] <;> rfl) | (simp [*, errW_none, errW_some] <;> rfl), by repeat (first | (with_reducible first | exact HB.out | apply below_alloc | apply pw_below_drewN | apply below_drew1 | refine below_set ?_ GE239.out) | exact HB.out)⟩
            ·replace c37 := Bool.eq_false_iff.mpr c37
             subst c37
             have H1 : (cellarerlaw05_ChainOff.j4 kj22 l0 x3_1 x4_1 t245 t248) = some r := by rw [if_neg (show ¬ (false = true) by decide)] at H; exact H
             clear H
             have H := H1
             clear H1
             have H' := Aside0.mk H
             clear H
             go_wp2
             repeat (go_quiet (fail); try go_wp2)
             go_meet
             case rel => exact ⟨_, (t245), (t248), (by first | rfl | (simp; done) | (simp [*]; done)), H', ⟨by have := HK1.out; have := HJ1.out; have := HJ22.out; first | omega | exact Nat.le_refl _⟩, ⟨by (with_reducible repeat (first | apply Kd.R_alloc | apply Kd.R_drewN | apply Kd.R_drew)); first | exact HO_3.out | exact Kd.R_mono HO_3.out (fun _ hk => hk.1) | exact Kd.R_mono HO_3.out (fun _ hk => hk.2)⟩, ⟨by (with_reducible repeat (first | apply Kd.R_alloc | apply Kd.R_drewN | apply Kd.R_drew)); first | exact HO_6.out | exact Kd.R_mono HO_6.out (fun _ hk => hk.1) | exact Kd.R_mono HO_6.out (fun _ hk => hk.2)⟩, ⟨by (with_reducible repeat (first | refine blk_drewN ?_ _ | refine blk_drew ?_ | refine blk_alloc ?_ _)); exact BK239.out⟩, ⟨by repeat (first | (with_reducible first | exact HB.out | apply below_alloc | apply pw_below_drewN | apply below_drew1 | refine below_set ?_ GE239.out) | exact HB.out)⟩⟩
        case rest =>
         clear HC8
         try clear c1
         try clear q1
         try clear c2
         try clear p2
         try clear q2
         try clear hx2
         try clear qi2
         try clear c3
         try clear c3b0
         try clear c4
         try clear c5
         try clear c5b0
         try clear c6
         try clear c6b0
         try clear q12
         try clear c13
         try clear c18
         try clear c18b0
         try clear c18b1
         try clear c18b2
         try clear c19
         try clear c19b0
         try clear c19b1
         try clear c21
         try clear p23
         try clear q23
         try clear hx23
         try clear p24
         try clear q24
         try clear hx24
         try clear qi24
         try clear c27
         try clear c27b0
         try clear c27b1
         try clear c27b2
         try clear c29
         try clear c29b0
         try clear c29b1
         try clear c30
         try clear c30b0
         try clear c30b1
         try clear c31
         try clear c31b0
         try clear c31b1
         try clear c37
         try clear hcz11_0
         try clear hcz11_1
         try clear hcz11_2
         try clear hcz11_3
         try clear hcz24_0
         try clear hcz24_1
         try clear hcz24_2
         try clear hcz24_3
         try clear hcz28_0
         try clear hcz28_1
         try clear hcz28_2
         try clear hcz28_3
         try clear hcz32_0
         try clear hcz32_1
         try clear hcz32_2
         try clear hcz32_3
         try clear hcz34_0
         try clear hcz34_1
         try clear hcz34_2
         try clear hcz34_3
         try clear hcz36_0
         try clear hcz36_1
         try clear hcz36_2
         try clear hcz36_3
         try clear hfz11_0
         try clear hfz11_1
         try clear hfz11_2
         try clear hfz11_3
         try clear hfz24_0
         try clear hfz24_1
         try clear hfz24_2
         try clear hfz24_3
         try clear hfz28_0
         try clear hfz28_1
         try clear hfz28_2
         try clear hfz28_3
         try clear hfz32_0
         try clear hfz32_1
         try clear hfz32_2
         try clear hfz32_3
         try clear hfz34_0
         try clear hfz34_1
         try clear hfz34_2
         try clear hfz34_3
         try clear hfz36_0
         try clear hfz36_1
         try clear hfz36_2
         try clear hfz36_3
         try clear hx234_0
         try clear hx234_1
         try clear hx234_2
         try clear hx240_0
         try clear hx240_1
         try clear hx240_2
         try clear hx249_0
         try clear hx249_1
         try clear hx249_2
         try clear hx249_3
         try clear p2
         try clear p23
         try clear p234
         try clear p24
         try clear p240
         try clear p249
         try clear q1
         try clear q12
         try clear q2
         try clear q23
         try clear q234
         try clear q24
         try clear q240
         try clear q249
         obtain ⟨kq, x6_7, x7_7, rfl, HA, HJ7, HO_3, HO_6, BK239, HB⟩ := hcut
         cases kq with
         | zero => exact absurd HA.out (by simp [cellarerlaw05_ChainOff.j4])
         | succ kj7 =>
          have H := HA.out
          clear HA
          simp only [cellarerlaw05_ChainOff.j4] at H
          by_cases c38 : x7_7 = 0
          ·rw [if_pos c38] at H
           have c38b0 : (x7_7 == 0) = true := beq_iff_eq.mpr c38
           have c38b1 : (x7_7 != 0) = false := bne_eq_false_iff_eq.mpr c38
           clear c38
           have H' := Aside0.mk H
           clear H
           go_wp2
           repeat (go_quiet (fail); try go_wp2)
           go_roundg kj7
           case measure => have := HK1.out; have := HJ1.out; have := HJ7.out; omega
           case rel => exact ⟨(x6_7), (wrap64 (x4_1 + 1)), (by first | rfl | (simp; done) | (simp [*]; done)), H', ⟨by have := HK1.out; have := HJ1.out; have := HJ7.out; omega⟩, ⟨by (with_reducible repeat (first | apply Kd.R_alloc | apply Kd.R_drewN | apply Kd.R_drew)); exact Kd.R_mono HO_6.out (fun _ hk => trivial)⟩, ⟨by repeat (first | (with_reducible first | exact HB.out | apply below_alloc | apply pw_below_drewN | apply below_drew1 | refine below_set ?_ GE239.out) | exact HB.out)⟩⟩
          ·rw [if_neg c38] at H
           have c38b0 : (x7_7 == 0) = false := beq_eq_false_iff_ne.mpr c38
           have c38b1 : (x7_7 != 0) = true := bne_iff_ne.mpr c38
           have H' := Aside0.mk H
           clear H
           go_wp2
           repeat (go_quiet (fail); try go_wp2)
           go_roundg kj7
           case measure => have := HK1.out; have := HJ1.out; have := HJ7.out; omega
           case rel => exact ⟨(x3_1), (wrap64 (x4_1 + 1)), (by first | rfl | (simp; done) | (simp [*]; done)), H', ⟨by have := HK1.out; have := HJ1.out; have := HJ7.out; omega⟩, ⟨by (with_reducible repeat (first | apply Kd.R_alloc | apply Kd.R_drewN | apply Kd.R_drew)); exact Kd.R_mono HO_3.out (fun _ hk => trivial)⟩, ⟨by repeat (first | (with_reducible first | exact HB.out | apply below_alloc | apply pw_below_drewN | apply below_drew1 | refine below_set ?_ GE239.out) | exact HB.out)⟩⟩
       ·rw [if_neg c6] at H
        exact absurd H (by simp)
      ·rw [if_neg c5] at H
       exact absurd H (by simp)
     ·replace c4 := Bool.eq_false_iff.mpr c4
      subst c4
      have H1 : ((cellarerlaw05_awake.f).bind fun t233 => (some t233)) = some r := by rw [if_neg (show ¬ (false = true) by decide)] at H; exact H
      clear H
      have H := H1
      clear H1
      replace H := Option.bind_eq_some_iff.mp H
      obtain ⟨t233, A390, H⟩ := H
      replace H : (some t233) = some r := H
      have A39 := Aside0.mk A390
      clear A390
      obtain rfl := Option.some.inj H
      go_wp2_with (first | (go_at_call 19; (with_reducible refine (cellarerlaw05_awake.calls  t233 _ A39.out).mono ?_); rintro e w40 ⟨rfl, hb⟩; have n0_ := Aside0.mk (Kd.R_below (by (with_reducible repeat (first | apply Kd.R_alloc | apply Kd.R_drewN | apply Kd.R_drew)); exact HO_3.out) hb); have n1_ := Aside0.mk (below_step (by repeat (first | (with_reducible first | exact HB.out | apply below_alloc | apply pw_below_drewN | apply below_drew1) | exact HB.out)) hb); clear HO_3; clear HB; have HO_3 := n0_; have HB := n1_; clear n0_ n1_; (try clear hb); (try clear hb2); (try clear hk); (try clear hi)))
      repeat (go_quiet (first | (go_at_call 19; (with_reducible refine (cellarerlaw05_awake.calls  t233 _ A39.out).mono ?_); rintro e w40 ⟨rfl, hb⟩; have n0_ := Aside0.mk (Kd.R_below (by (with_reducible repeat (first | apply Kd.R_alloc | apply Kd.R_drewN | apply Kd.R_drew)); exact HO_3.out) hb); have n1_ := Aside0.mk (below_step (by repeat (first | (with_reducible first | exact HB.out | apply below_alloc | apply pw_below_drewN | apply below_drew1) | exact HB.out)) hb); clear HO_3; clear HB; have HO_3 := n0_; have HB := n1_; clear n0_ n1_; (try clear hb); (try clear hb2); (try clear hk); (try clear hi))); try go_wp2_with (first | (go_at_call 19; (with_reducible refine (cellarerlaw05_awake.calls  t233 _ A39.out).mono ?_); rintro e w40 ⟨rfl, hb⟩; have n0_ := Aside0.mk (Kd.R_below (by (with_reducible repeat (first | apply Kd.R_alloc | apply Kd.R_drewN | apply Kd.R_drew)); exact HO_3.out) hb); have n1_ := Aside0.mk (below_step (by repeat (first | (with_reducible first | exact HB.out | apply below_alloc | apply pw_below_drewN | apply below_drew1) | exact HB.out)) hb); clear HO_3; clear HB; have HO_3 := n0_; have HB := n1_; clear n0_ n1_; (try clear hb); (try clear hb2); (try clear hk); (try clear hi))))
      go_ret
      exact ⟨by first | rfl | (simp [errW_none, errW_some] <;> rfl) | (simp [*, errW_none, errW_some] <;> rfl), by repeat (first | (with_reducible first | exact HB.out | apply below_alloc | apply pw_below_drewN | apply below_drew1) | exact HB.out)⟩

/-- THE ONE PURE STATEMENT of cellarerlaw05_ChainOff. -/
-- GIVEN cellarerlaw05_ChainOff.Pure
def cellarerlaw05_ChainOff.Pure : Prop := ∀ (l0 : List (S42)), (l0.length ≤ maxLen ∧ ∀ y1_ ∈ l0, okS42 y1_) → ∃ k, cellarerlaw05_ChainOff.f k l0 = some true

end Go.Proofs.Ytldmidoemcdaaaa.P
