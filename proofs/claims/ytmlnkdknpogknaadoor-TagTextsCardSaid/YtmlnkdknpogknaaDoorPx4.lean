/- Printed by a program of this session (wip/tools/gprint.py, over the kit's print) out of the translation: functions and their contracts. -/
import Derived.Test.YtmlnkdknpogknaaDoorPx0
import Derived.Test.YtmlnkdknpogknaaDoorPx1
import Derived.Test.YtmlnkdknpogknaaDoorPx2
import Derived.Test.YtmlnkdknpogknaaDoorPx3
import Derived.Test.YtmlnkdknpogknaaDoorPxOpens
namespace Go.Proofs.YtmlnkdknpogknaaDoor.P
open Go.RowKit Go.Proofs.YtmlnkdknpogknaaDoorW.PrintWords Go.Proofs.YtmlnkdknpogknaaDoorW.PrintLast Go.Proofs.YtmlnkdknpogknaaDoorW.PrintMore
attribute [local go_sem] max2_int min2_int max_two min_two max_three min_three max_four min_four   -- for this text's walks alone
set_option linter.unusedVariables false
set_option linter.unusedSimpArgs false

/-! ### cellarerlaw04_TagTexts: function 4 -/
mutual
def cellarerlaw04_TagTexts.j0 : Nat → List Int → ByteArray → Option (Bool)
  | 0, _, _ => none
  | k + 1, x0, x1 => (cellarerlaw02_Few.f k x1).bind fun t157 => ((tag_Parse.f k t157).bind fun bt158 => ((cellarerref04_Parse.f k t157).bind fun bt160 => ((tag_Read.f k t157).bind fun bt162 => ((cellarerref04_Read.f k t157).bind fun bt165 => (if bt158.1 = bt160.1 then (if ((bt158.2 == 0) != bt160.2) = true then (cellarerlaw04_TagTexts.j1 k x0 true) else (if bt160.2 = true then (if bt162.1 = bt165.1 then (if bt162.2.1 = bt165.2.1 then (if ((bt162.2.2 == 0) != bt165.2.2) = true then (cellarerlaw04_TagTexts.j1 k x0 true) else (if bt165.2.2 = true then (cellarerlaw04_TagTexts.j1 k x0 false) else (cellarerlaw04_TagTexts.j1 k x0 (bt162.2.2 != 2)))) else (cellarerlaw04_TagTexts.j1 k x0 true)) else (cellarerlaw04_TagTexts.j1 k x0 true)) else (if bt158.2 = 2 then (if bt162.1 = bt165.1 then (if bt162.2.1 = bt165.2.1 then (if ((bt162.2.2 == 0) != bt165.2.2) = true then (cellarerlaw04_TagTexts.j1 k x0 true) else (if bt165.2.2 = true then (cellarerlaw04_TagTexts.j1 k x0 false) else (cellarerlaw04_TagTexts.j1 k x0 (bt162.2.2 != 2)))) else (cellarerlaw04_TagTexts.j1 k x0 true)) else (cellarerlaw04_TagTexts.j1 k x0 true)) else (cellarerlaw04_TagTexts.j1 k x0 true)))) else (cellarerlaw04_TagTexts.j1 k x0 true))))))
def cellarerlaw04_TagTexts.j1 : Nat → List Int → Bool → Option (Bool)
  | 0, _, _ => none
  | k + 1, x0, x92 => if x92 = true then (some false) else ((tag_Many.f k x0).bind fun bt168 => (if (x0.length : Int) = 0 then (cellarerlaw04_TagTexts.j2 k x0 bt168.1 bt168.2 true) else (cellarerlaw04_TagTexts.j2 k x0 bt168.1 bt168.2 (decide ((x0.length : Int) > 100)))))
def cellarerlaw04_TagTexts.j2 : Nat → List Int → ByteArray → Int → Bool → Option (Bool)
  | 0, _, _, _, _ => none
  | k + 1, x0, x15, x16, x105 => if x105 = true then (if x15.toList = ([] : List UInt8) then (if x16 = 1 then ((cellarerlaw04_awake.f).bind fun t170 => (some t170)) else (some false)) else (some false)) else (if 0 < (x0.length : Int) then ((tag_Text.f (rd x0 0)).bind fun t172 => ((tag_Parse.f k t172).bind fun bt173 => ((tag_Read.f k x15).bind fun bt175 => ((cellarerref04_Text.f k (rd x0 0)).bind fun t179 => (if t172.toList = t179.toList then (if bt173.1 = (rd x0 0) then (if bt173.2 = 0 then ((cellarerref04_Many.f k x0).bind fun t181 => (if x15.toList = t181.toList then (if x16 = 0 then (if bt175.2.1 = (x0.length : Int) then (if bt175.2.2 = 0 then ((cellarerlaw04_awake.f).bind fun t182 => (some t182)) else (some false)) else (some false)) else (some false)) else (some false))) else (some false)) else (some false)) else (some false)))))) else (none))
end
def cellarerlaw04_TagTexts.f (k : Nat) (l0 : List Int) (a1 : ByteArray) : Option (Bool) := if (l0.length : Int) > 101 then (if 101 ≤ (l0.length : Int) then (cellarerlaw04_TagTexts.j0 k (l0.take 101) a1) else (none)) else (cellarerlaw04_TagTexts.j0 k l0 a1)
theorem cellarerlaw04_TagTexts.mono_l : ∀ k, (∀ y0 y1, LeO (cellarerlaw04_TagTexts.j0 k y0 y1) (cellarerlaw04_TagTexts.j0 (k + 1) y0 y1)) ∧ (∀ y0 y1, LeO (cellarerlaw04_TagTexts.j1 k y0 y1) (cellarerlaw04_TagTexts.j1 (k + 1) y0 y1)) ∧ (∀ y0 y1 y2 y3, LeO (cellarerlaw04_TagTexts.j2 k y0 y1 y2 y3) (cellarerlaw04_TagTexts.j2 (k + 1) y0 y1 y2 y3))
  | 0 => ⟨fun _ _ r h => by simp [cellarerlaw04_TagTexts.j0] at h, fun _ _ r h => by simp [cellarerlaw04_TagTexts.j1] at h, fun _ _ _ _ r h => by simp [cellarerlaw04_TagTexts.j2] at h⟩
  | k + 1 => by
    obtain ⟨ih0, ih1, ih2⟩ := cellarerlaw04_TagTexts.mono_l k
    refine ⟨?_, ?_, ?_⟩
    · intro y0 y1
      unfold cellarerlaw04_TagTexts.j0
      repeat' first
      | (with_reducible exact ih0 _ _)
      | (with_reducible exact ih1 _ _)
      | (with_reducible exact ih2 _ _ _ _)
      | (with_reducible exact cellarerlaw02_Few.mono _ _)
      | (with_reducible exact cellarerref04_Many.mono _ _)
      | (with_reducible exact cellarerref04_Parse.mono _ _)
      | (with_reducible exact cellarerref04_Read.mono _ _)
      | (with_reducible exact cellarerref04_Text.mono _ _)
      | (with_reducible exact tag_Many.mono _ _)
      | (with_reducible exact tag_Parse.mono _ _)
      | (with_reducible exact tag_Read.mono _ _)
      | (with_reducible exact LeO.refl _)
      | (with_reducible exact LeO.none _)
      | (with_reducible refine LeO.ite ?_ ?_)
      | (with_reducible refine LeO.bind ?_ (fun _ => ?_))
      | exact ih0 _ _
      | exact ih1 _ _
      | exact ih2 _ _ _ _
      | exact cellarerlaw02_Few.mono _ _
      | exact cellarerref04_Many.mono _ _
      | exact cellarerref04_Parse.mono _ _
      | exact cellarerref04_Read.mono _ _
      | exact cellarerref04_Text.mono _ _
      | exact tag_Many.mono _ _
      | exact tag_Parse.mono _ _
      | exact tag_Read.mono _ _
      | exact LeO.none _
      | refine LeO.ite ?_ ?_
      | refine LeO.bind ?_ (fun _ => ?_)
    · intro y0 y1
      unfold cellarerlaw04_TagTexts.j1
      repeat' first
      | (with_reducible exact ih0 _ _)
      | (with_reducible exact ih1 _ _)
      | (with_reducible exact ih2 _ _ _ _)
      | (with_reducible exact cellarerlaw02_Few.mono _ _)
      | (with_reducible exact cellarerref04_Many.mono _ _)
      | (with_reducible exact cellarerref04_Parse.mono _ _)
      | (with_reducible exact cellarerref04_Read.mono _ _)
      | (with_reducible exact cellarerref04_Text.mono _ _)
      | (with_reducible exact tag_Many.mono _ _)
      | (with_reducible exact tag_Parse.mono _ _)
      | (with_reducible exact tag_Read.mono _ _)
      | (with_reducible exact LeO.refl _)
      | (with_reducible exact LeO.none _)
      | (with_reducible refine LeO.ite ?_ ?_)
      | (with_reducible refine LeO.bind ?_ (fun _ => ?_))
      | exact ih0 _ _
      | exact ih1 _ _
      | exact ih2 _ _ _ _
      | exact cellarerlaw02_Few.mono _ _
      | exact cellarerref04_Many.mono _ _
      | exact cellarerref04_Parse.mono _ _
      | exact cellarerref04_Read.mono _ _
      | exact cellarerref04_Text.mono _ _
      | exact tag_Many.mono _ _
      | exact tag_Parse.mono _ _
      | exact tag_Read.mono _ _
      | exact LeO.none _
      | refine LeO.ite ?_ ?_
      | refine LeO.bind ?_ (fun _ => ?_)
    · intro y0 y1 y2 y3
      unfold cellarerlaw04_TagTexts.j2
      repeat' first
      | (with_reducible exact ih0 _ _)
      | (with_reducible exact ih1 _ _)
      | (with_reducible exact ih2 _ _ _ _)
      | (with_reducible exact cellarerlaw02_Few.mono _ _)
      | (with_reducible exact cellarerref04_Many.mono _ _)
      | (with_reducible exact cellarerref04_Parse.mono _ _)
      | (with_reducible exact cellarerref04_Read.mono _ _)
      | (with_reducible exact cellarerref04_Text.mono _ _)
      | (with_reducible exact tag_Many.mono _ _)
      | (with_reducible exact tag_Parse.mono _ _)
      | (with_reducible exact tag_Read.mono _ _)
      | (with_reducible exact LeO.refl _)
      | (with_reducible exact LeO.none _)
      | (with_reducible refine LeO.ite ?_ ?_)
      | (with_reducible refine LeO.bind ?_ (fun _ => ?_))
      | exact ih0 _ _
      | exact ih1 _ _
      | exact ih2 _ _ _ _
      | exact cellarerlaw02_Few.mono _ _
      | exact cellarerref04_Many.mono _ _
      | exact cellarerref04_Parse.mono _ _
      | exact cellarerref04_Read.mono _ _
      | exact cellarerref04_Text.mono _ _
      | exact tag_Many.mono _ _
      | exact tag_Parse.mono _ _
      | exact tag_Read.mono _ _
      | exact LeO.none _
      | refine LeO.ite ?_ ?_
      | refine LeO.bind ?_ (fun _ => ?_)
theorem cellarerlaw04_TagTexts.mono : ∀ a0 a1 k, LeO (cellarerlaw04_TagTexts.f k a0 a1) (cellarerlaw04_TagTexts.f (k + 1) a0 a1) := by
  intro a0 a1 k
  obtain ⟨ih0, ih1, ih2⟩ := cellarerlaw04_TagTexts.mono_l k
  unfold cellarerlaw04_TagTexts.f
  repeat' first
      | (with_reducible exact ih0 _ _)
      | (with_reducible exact ih1 _ _)
      | (with_reducible exact ih2 _ _ _ _)
      | (with_reducible exact cellarerlaw02_Few.mono _ _)
      | (with_reducible exact cellarerref04_Many.mono _ _)
      | (with_reducible exact cellarerref04_Parse.mono _ _)
      | (with_reducible exact cellarerref04_Read.mono _ _)
      | (with_reducible exact cellarerref04_Text.mono _ _)
      | (with_reducible exact tag_Many.mono _ _)
      | (with_reducible exact tag_Parse.mono _ _)
      | (with_reducible exact tag_Read.mono _ _)
      | (with_reducible exact LeO.refl _)
      | (with_reducible exact LeO.none _)
      | (with_reducible refine LeO.ite ?_ ?_)
      | (with_reducible refine LeO.bind ?_ (fun _ => ?_))
      | exact ih0 _ _
      | exact ih1 _ _
      | exact ih2 _ _ _ _
      | exact cellarerlaw02_Few.mono _ _
      | exact cellarerref04_Many.mono _ _
      | exact cellarerref04_Parse.mono _ _
      | exact cellarerref04_Read.mono _ _
      | exact cellarerref04_Text.mono _ _
      | exact tag_Many.mono _ _
      | exact tag_Parse.mono _ _
      | exact tag_Read.mono _ _
      | exact LeO.none _
      | refine LeO.ite ?_ ?_
      | refine LeO.bind ?_ (fun _ => ?_)
set_option maxHeartbeats 8000000 in
set_option maxRecDepth 100000 in
theorem cellarerlaw04_TagTexts.calls (k : Nat) (P0_ : Nat → Prop) (A0 : Option Addr) (c0 : Nat) (l0 : List Int) (a1 : ByteArray) (r : Bool) (w : World) (HLD : Aside0 (Go.Proofs.YtmlnkdknpogknaaDoor.Laid.LD w)) (hs0 : Kd.V (Kd.int .u32) 22 w w.heap.size (fun k_ => P0_ k_) (.slice A0 l0.length c0) l0) (h : cellarerlaw04_TagTexts.f k l0 a1 = some r) :
    Calls Tryd.prog 4 #[.slice A0 l0.length c0, .string a1] w fun e w' => e = .returned (.bool r) ∧ Below w.heap.size w w' := by
  have HO0 := Aside0.mk (show Kd.V (Kd.int .u32) 22 w w.heap.size (fun k_ => (P0_ k_ ∨ w.heap.size ≤ k_)) (.slice A0 l0.length c0) l0 from Kd.V_mono hs0 (fun k_ hk => .inl hk))
  have HB := Aside0.mk (Below.refl w.heap.size w)
  have H : (if (l0.length : Int) > 101 then (if 101 ≤ (l0.length : Int) then (cellarerlaw04_TagTexts.j0 k (l0.take 101) a1) else (none)) else (cellarerlaw04_TagTexts.j0 k l0 a1)) = some r := h
  clear h
  have HC3 := Aside0.mk H
  clear H
  go_enter Tryd.func4, Tryd.ntmps4
  go_upto_if 25 with (fail)
  go_cut [0] (fun v0 wc => ∃ (kq : Nat) (x0_2 : List Int), Aside0 (cellarerlaw04_TagTexts.j0 kq x0_2 a1 = some r) ∧ Aside0 (kq ≤ k) ∧ Aside0 (Kd.V (Kd.int .u32) 22 wc w.heap.size (fun k_ => (P0_ k_ ∨ w.heap.size ≤ k_)) v0 x0_2) ∧ Aside0 (Below w.heap.size w wc))
  case first =>
    have H := HC3.out
    clear HC3
    by_cases c4 : (l0.length : Int) > 101
    · rw [if_pos c4] at H
      have c4b0 : decide (101 < (l0.length : Int)) = true := decide_eq_true c4
      have c4b1 : decide (101 < l0.length) = true := decide_eq_true (by omega)
      clear c4
      (first | rw [c4b0] | rw [c4b1] | (simp only [i64_w, i32_w]; rw [c4b0]) | skip)
      by_cases c5 : 101 ≤ (l0.length : Int)
      · rw [if_pos c5] at H
        have c5b0 := eq_true c5
        have c5b1 : decide (101 ≤ (l0.length : Int)) = true := decide_eq_true c5
        clear c5
        obtain ⟨y152, hy152⟩ : ∃ y_ : List Int, y_ = (l0.take 101) := ⟨_, rfl⟩
        replace H : (cellarerlaw04_TagTexts.j0 k y152 a1) = some r := by first | (rw [hy152]; with_reducible exact H) | (have H2_ := (Option.bind_some _ _).symm.trans H; rw [hy152]; with_reducible exact H2_) | (have H2_ := (Option.bind_some _ _).symm.trans H; with_reducible exact H2_) | with_reducible exact H | (rw [hy152]; exact H) | exact H
        have Ny152 := Aside0.mk hy152
        clear hy152
        have H' := Aside0.mk H
        clear H
        have q6 : (101 : Int) ≤ ((l0.length : Int) : Int) := of_decide_eq_true (by first | (with_reducible assumption) | assumption)
        obtain ⟨i06, hi06, _, hsz6, _⟩ := info_parts info22
        have hroom6 : l0.length ≤ c0 := (Kd.V_reads' HO0.out).2.1
        have hC6 : Kd.F (Kd.int .u32) _ _ A0 l0.length l0 := (Kd.V_at (base := w.heap.size) HO0.out).2.2
        have hcut6 := cut_to (P := Tryd.prog) 31 22 .i64 Tryd.underlying31 hi06 A0 l0.length c0 101 (by omega) q6 hroom6
        have hr6 := Kd.F_take (m := 101) hC6 (by omega)
        have hy6 : y152.length = (101 : Int).toNat := (by rw [Ny152.out, List.length_take]; omega)
        rw [← Ny152.out] at hr6
        rw [← hy6] at hcut6
        have HO156 := Aside0.mk (show Kd.V (Kd.int .u32) 22 _ w.heap.size _ (.slice A0 y152.length c0) y152 from Kd.V_mk (by omega) hr6)
        have HC156 := Aside0.mk (show y152.length ≤ c0 from by omega)
        clear hr6 hC6 hroom6 hi06 hsz6
        have KY6 := Aside0.mk hy6
        clear hy6
        replace q6 := eq_true q6
        go_wp2
        go_meet
        case rel => exact ⟨_, (y152), H', ⟨by first | omega | exact Nat.le_refl _⟩, ⟨by (with_reducible repeat (first | apply Kd.V_alloc | apply Kd.V_drewN | apply Kd.V_drew)); exact HO156.out⟩, ⟨by repeat (first | (with_reducible first | exact HB.out | apply below_alloc | apply pw_below_drewN | apply below_drew1) | exact HB.out)⟩⟩
      · rw [if_neg c5] at H
        exact absurd H (by simp)
    · rw [if_neg c4] at H
      have c4b0 : decide (101 < (l0.length : Int)) = false := decide_eq_false c4
      have c4b1 : decide (101 < l0.length) = false := decide_eq_false (by omega)
      clear c4
      (first | rw [c4b0] | rw [c4b1] | (simp only [i64_w, i32_w]; rw [c4b0]) | skip)
      have H' := Aside0.mk H
      clear H
      go_wp2
      go_meet
      case rel => exact ⟨_, (l0), H', ⟨by first | omega | exact Nat.le_refl _⟩, ⟨by (with_reducible repeat (first | apply Kd.V_alloc | apply Kd.V_drewN | apply Kd.V_drew)); exact HO0.out⟩, ⟨by repeat (first | (with_reducible first | exact HB.out | apply below_alloc | apply pw_below_drewN | apply below_drew1) | exact HB.out)⟩⟩
  case rest =>
    clear HC3
    try clear p2
    try clear c4
    try clear c4b0
    try clear c4b1
    try clear c5
    try clear c5b0
    try clear c5b1
    try clear q6
    try clear q6
    obtain ⟨kq, x0_2, HA, HJ2, HO_0, HB⟩ := hcut
    cases kq with
    | zero => exact absurd HA.out (by simp [cellarerlaw04_TagTexts.j0])
    | succ kj2 =>
      have H := HA.out
      clear HA
      simp only [cellarerlaw04_TagTexts.j0] at H
      replace H := Option.bind_eq_some_iff.mp H
      obtain ⟨t157, A70, H⟩ := H
      replace H : ((tag_Parse.f kj2 t157).bind fun bt158 => ((cellarerref04_Parse.f kj2 t157).bind fun bt160 => ((tag_Read.f kj2 t157).bind fun bt162 => ((cellarerref04_Read.f kj2 t157).bind fun bt165 => (if bt158.1 = bt160.1 then (if ((bt158.2 == 0) != bt160.2) = true then (cellarerlaw04_TagTexts.j1 kj2 x0_2 true) else (if bt160.2 = true then (if bt162.1 = bt165.1 then (if bt162.2.1 = bt165.2.1 then (if ((bt162.2.2 == 0) != bt165.2.2) = true then (cellarerlaw04_TagTexts.j1 kj2 x0_2 true) else (if bt165.2.2 = true then (cellarerlaw04_TagTexts.j1 kj2 x0_2 false) else (cellarerlaw04_TagTexts.j1 kj2 x0_2 (bt162.2.2 != 2)))) else (cellarerlaw04_TagTexts.j1 kj2 x0_2 true)) else (cellarerlaw04_TagTexts.j1 kj2 x0_2 true)) else (if bt158.2 = 2 then (if bt162.1 = bt165.1 then (if bt162.2.1 = bt165.2.1 then (if ((bt162.2.2 == 0) != bt165.2.2) = true then (cellarerlaw04_TagTexts.j1 kj2 x0_2 true) else (if bt165.2.2 = true then (cellarerlaw04_TagTexts.j1 kj2 x0_2 false) else (cellarerlaw04_TagTexts.j1 kj2 x0_2 (bt162.2.2 != 2)))) else (cellarerlaw04_TagTexts.j1 kj2 x0_2 true)) else (cellarerlaw04_TagTexts.j1 kj2 x0_2 true)) else (cellarerlaw04_TagTexts.j1 kj2 x0_2 true)))) else (cellarerlaw04_TagTexts.j1 kj2 x0_2 true)))))) = some r := H
      have A7 := Aside0.mk A70
      clear A70
      replace H := Option.bind_eq_some_iff.mp H
      obtain ⟨⟨t158, t159⟩, A80, H⟩ := H
      replace H : ((cellarerref04_Parse.f kj2 t157).bind fun bt160 => ((tag_Read.f kj2 t157).bind fun bt162 => ((cellarerref04_Read.f kj2 t157).bind fun bt165 => (if t158 = bt160.1 then (if ((t159 == 0) != bt160.2) = true then (cellarerlaw04_TagTexts.j1 kj2 x0_2 true) else (if bt160.2 = true then (if bt162.1 = bt165.1 then (if bt162.2.1 = bt165.2.1 then (if ((bt162.2.2 == 0) != bt165.2.2) = true then (cellarerlaw04_TagTexts.j1 kj2 x0_2 true) else (if bt165.2.2 = true then (cellarerlaw04_TagTexts.j1 kj2 x0_2 false) else (cellarerlaw04_TagTexts.j1 kj2 x0_2 (bt162.2.2 != 2)))) else (cellarerlaw04_TagTexts.j1 kj2 x0_2 true)) else (cellarerlaw04_TagTexts.j1 kj2 x0_2 true)) else (if t159 = 2 then (if bt162.1 = bt165.1 then (if bt162.2.1 = bt165.2.1 then (if ((bt162.2.2 == 0) != bt165.2.2) = true then (cellarerlaw04_TagTexts.j1 kj2 x0_2 true) else (if bt165.2.2 = true then (cellarerlaw04_TagTexts.j1 kj2 x0_2 false) else (cellarerlaw04_TagTexts.j1 kj2 x0_2 (bt162.2.2 != 2)))) else (cellarerlaw04_TagTexts.j1 kj2 x0_2 true)) else (cellarerlaw04_TagTexts.j1 kj2 x0_2 true)) else (cellarerlaw04_TagTexts.j1 kj2 x0_2 true)))) else (cellarerlaw04_TagTexts.j1 kj2 x0_2 true))))) = some r := H
      have A8 := Aside0.mk A80
      clear A80
      replace H := Option.bind_eq_some_iff.mp H
      obtain ⟨⟨t160, t161⟩, A90, H⟩ := H
      replace H : ((tag_Read.f kj2 t157).bind fun bt162 => ((cellarerref04_Read.f kj2 t157).bind fun bt165 => (if t158 = t160 then (if ((t159 == 0) != t161) = true then (cellarerlaw04_TagTexts.j1 kj2 x0_2 true) else (if t161 = true then (if bt162.1 = bt165.1 then (if bt162.2.1 = bt165.2.1 then (if ((bt162.2.2 == 0) != bt165.2.2) = true then (cellarerlaw04_TagTexts.j1 kj2 x0_2 true) else (if bt165.2.2 = true then (cellarerlaw04_TagTexts.j1 kj2 x0_2 false) else (cellarerlaw04_TagTexts.j1 kj2 x0_2 (bt162.2.2 != 2)))) else (cellarerlaw04_TagTexts.j1 kj2 x0_2 true)) else (cellarerlaw04_TagTexts.j1 kj2 x0_2 true)) else (if t159 = 2 then (if bt162.1 = bt165.1 then (if bt162.2.1 = bt165.2.1 then (if ((bt162.2.2 == 0) != bt165.2.2) = true then (cellarerlaw04_TagTexts.j1 kj2 x0_2 true) else (if bt165.2.2 = true then (cellarerlaw04_TagTexts.j1 kj2 x0_2 false) else (cellarerlaw04_TagTexts.j1 kj2 x0_2 (bt162.2.2 != 2)))) else (cellarerlaw04_TagTexts.j1 kj2 x0_2 true)) else (cellarerlaw04_TagTexts.j1 kj2 x0_2 true)) else (cellarerlaw04_TagTexts.j1 kj2 x0_2 true)))) else (cellarerlaw04_TagTexts.j1 kj2 x0_2 true)))) = some r := H
      have A9 := Aside0.mk A90
      clear A90
      replace H := Option.bind_eq_some_iff.mp H
      obtain ⟨⟨t162, t163, t164⟩, A100, H⟩ := H
      replace H : ((cellarerref04_Read.f kj2 t157).bind fun bt165 => (if t158 = t160 then (if ((t159 == 0) != t161) = true then (cellarerlaw04_TagTexts.j1 kj2 x0_2 true) else (if t161 = true then (if t162 = bt165.1 then (if t163 = bt165.2.1 then (if ((t164 == 0) != bt165.2.2) = true then (cellarerlaw04_TagTexts.j1 kj2 x0_2 true) else (if bt165.2.2 = true then (cellarerlaw04_TagTexts.j1 kj2 x0_2 false) else (cellarerlaw04_TagTexts.j1 kj2 x0_2 (t164 != 2)))) else (cellarerlaw04_TagTexts.j1 kj2 x0_2 true)) else (cellarerlaw04_TagTexts.j1 kj2 x0_2 true)) else (if t159 = 2 then (if t162 = bt165.1 then (if t163 = bt165.2.1 then (if ((t164 == 0) != bt165.2.2) = true then (cellarerlaw04_TagTexts.j1 kj2 x0_2 true) else (if bt165.2.2 = true then (cellarerlaw04_TagTexts.j1 kj2 x0_2 false) else (cellarerlaw04_TagTexts.j1 kj2 x0_2 (t164 != 2)))) else (cellarerlaw04_TagTexts.j1 kj2 x0_2 true)) else (cellarerlaw04_TagTexts.j1 kj2 x0_2 true)) else (cellarerlaw04_TagTexts.j1 kj2 x0_2 true)))) else (cellarerlaw04_TagTexts.j1 kj2 x0_2 true))) = some r := H
      have A10 := Aside0.mk A100
      clear A100
      replace H := Option.bind_eq_some_iff.mp H
      obtain ⟨⟨t165, t166, t167⟩, A110, H⟩ := H
      replace H : (if t158 = t160 then (if ((t159 == 0) != t161) = true then (cellarerlaw04_TagTexts.j1 kj2 x0_2 true) else (if t161 = true then (if t162 = t165 then (if t163 = t166 then (if ((t164 == 0) != t167) = true then (cellarerlaw04_TagTexts.j1 kj2 x0_2 true) else (if t167 = true then (cellarerlaw04_TagTexts.j1 kj2 x0_2 false) else (cellarerlaw04_TagTexts.j1 kj2 x0_2 (t164 != 2)))) else (cellarerlaw04_TagTexts.j1 kj2 x0_2 true)) else (cellarerlaw04_TagTexts.j1 kj2 x0_2 true)) else (if t159 = 2 then (if t162 = t165 then (if t163 = t166 then (if ((t164 == 0) != t167) = true then (cellarerlaw04_TagTexts.j1 kj2 x0_2 true) else (if t167 = true then (cellarerlaw04_TagTexts.j1 kj2 x0_2 false) else (cellarerlaw04_TagTexts.j1 kj2 x0_2 (t164 != 2)))) else (cellarerlaw04_TagTexts.j1 kj2 x0_2 true)) else (cellarerlaw04_TagTexts.j1 kj2 x0_2 true)) else (cellarerlaw04_TagTexts.j1 kj2 x0_2 true)))) else (cellarerlaw04_TagTexts.j1 kj2 x0_2 true)) = some r := H
      have A11 := Aside0.mk A110
      clear A110
      have HC12 := Aside0.mk H
      clear H
      go_upto_region 8 with (first | ((with_reducible refine gate_callee (f := 10) rfl ?_); refine goesL_ (some 29) rfl rfl Tryd.func10 (by kernel_rfl) rfl #[.string a1] rfl (by (try simp only [List.map_toArray, List.map_cons, List.map_nil]); first | done | rfl | (simp only [List.length_drop, List.length_take]; rfl)) ?_; (with_reducible refine (cellarerlaw02_Few.calls kj2 a1 t157 _ A7.out).mono ?_); rintro e w13 ⟨rfl, hb⟩; refine ⟨_, rfl, ?_⟩; have n0_ := Aside0.mk (Kd.V_below (by (with_reducible repeat (first | apply Kd.V_alloc | apply Kd.V_drewN | apply Kd.V_drew)); exact HO_0.out) hb); have n1_ := Aside0.mk (below_step (by repeat (first | (with_reducible first | exact HB.out | apply below_alloc | apply pw_below_drewN | apply below_drew1) | exact HB.out)) hb); clear HO_0; clear HB; have HO_0 := n0_; have HB := n1_; clear n0_ n1_; (try clear hb); (try clear hb2); (try clear hk); (try clear hi)) | ((with_reducible refine gate_callee (f := 7) rfl ?_); refine goesL_ (some 32) rfl rfl Tryd.func7 (by kernel_rfl) rfl #[.string t157] rfl (by (try simp only [List.map_toArray, List.map_cons, List.map_nil]); first | done | rfl | (simp only [List.length_drop, List.length_take]; rfl)) ?_; (with_reducible refine (tag_Parse.calls kj2 t157 t158 t159 _ A8.out).mono ?_); rintro e w14 ⟨rfl, hb⟩; refine ⟨_, rfl, ?_⟩; have n0_ := Aside0.mk (Kd.V_below (by (with_reducible repeat (first | apply Kd.V_alloc | apply Kd.V_drewN | apply Kd.V_drew)); exact HO_0.out) hb); have n1_ := Aside0.mk (below_step (by repeat (first | (with_reducible first | exact HB.out | apply below_alloc | apply pw_below_drewN | apply below_drew1) | exact HB.out)) hb); clear HO_0; clear HB; have HO_0 := n0_; have HB := n1_; clear n0_ n1_; (try clear hb); (try clear hb2); (try clear hk); (try clear hi)) | ((with_reducible refine gate_callee (f := 11) rfl ?_); refine goesL_ (some 37) rfl rfl Tryd.func11 (by kernel_rfl) rfl #[.string t157] rfl (by (try simp only [List.map_toArray, List.map_cons, List.map_nil]); first | done | rfl | (simp only [List.length_drop, List.length_take]; rfl)) ?_; (with_reducible refine (cellarerref04_Parse.calls kj2 t157 t160 t161 _ A9.out).mono ?_); rintro e w15 ⟨rfl, hb⟩; refine ⟨_, rfl, ?_⟩; have n0_ := Aside0.mk (Kd.V_below (by (with_reducible repeat (first | apply Kd.V_alloc | apply Kd.V_drewN | apply Kd.V_drew)); exact HO_0.out) hb); have n1_ := Aside0.mk (below_step (by repeat (first | (with_reducible first | exact HB.out | apply below_alloc | apply pw_below_drewN | apply below_drew1) | exact HB.out)) hb); clear HO_0; clear HB; have HO_0 := n0_; have HB := n1_; clear n0_ n1_; (try clear hb); (try clear hb2); (try clear hk); (try clear hi)) | ((with_reducible refine gate_callee (f := 8) rfl ?_); refine goesL_ (some 42) rfl rfl Tryd.func8 (by kernel_rfl) rfl #[.string t157] rfl (by (try simp only [List.map_toArray, List.map_cons, List.map_nil]); first | done | rfl | (simp only [List.length_drop, List.length_take]; rfl)) ?_; (with_reducible refine (tag_Read.calls kj2 t157 t162 t163 t164 _ (Aside0.mk (Go.Proofs.YtmlnkdknpogknaaDoor.Laid.LD.below HLD.out (by repeat (first | (with_reducible first | exact HB.out | apply below_alloc | apply pw_below_drewN | apply below_drew1) | exact HB.out)))) A10.out).mono ?_); rintro e w16 ⟨rfl, hb⟩; refine ⟨_, rfl, ?_⟩; have n0_ := Aside0.mk (Kd.V_below (by (with_reducible repeat (first | apply Kd.V_alloc | apply Kd.V_drewN | apply Kd.V_drew)); exact HO_0.out) hb); have n1_ := Aside0.mk (below_step (by repeat (first | (with_reducible first | exact HB.out | apply below_alloc | apply pw_below_drewN | apply below_drew1) | exact HB.out)) hb); clear HO_0; clear HB; have HO_0 := n0_; have HB := n1_; clear n0_ n1_; (try clear hb); (try clear hb2); (try clear hk); (try clear hi)) | ((with_reducible refine gate_callee (f := 12) rfl ?_); refine goesL_ (some 48) rfl rfl Tryd.func12 (by kernel_rfl) rfl #[.string t157] rfl (by (try simp only [List.map_toArray, List.map_cons, List.map_nil]); first | done | rfl | (simp only [List.length_drop, List.length_take]; rfl)) ?_; (with_reducible refine (cellarerref04_Read.calls kj2 t157 t165 t166 t167 _ A11.out).mono ?_); rintro e w17 ⟨rfl, hb⟩; refine ⟨_, rfl, ?_⟩; have n0_ := Aside0.mk (Kd.V_below (by (with_reducible repeat (first | apply Kd.V_alloc | apply Kd.V_drewN | apply Kd.V_drew)); exact HO_0.out) hb); have n1_ := Aside0.mk (below_step (by repeat (first | (with_reducible first | exact HB.out | apply below_alloc | apply pw_below_drewN | apply below_drew1) | exact HB.out)) hb); clear HO_0; clear HB; have HO_0 := n0_; have HB := n1_; clear n0_ n1_; (try clear hb); (try clear hb2); (try clear hk); (try clear hi)))
      (try simp only [Act.put, List.setIfInBounds_toArray, List.set_cons_zero, List.set_cons_succ])
      go_cut [92] (fun v92 wc => ∃ (kq : Nat) (x92_11 : Bool), v92 = .bool x92_11 ∧ Aside0 (cellarerlaw04_TagTexts.j1 kq x0_2 x92_11 = some r) ∧ Aside0 (kq ≤ kj2) ∧ Aside0 (Kd.V (Kd.int .u32) 22 wc w.heap.size (fun k_ => (P0_ k_ ∨ w.heap.size ≤ k_)) u0 x0_2) ∧ Aside0 (Below w.heap.size w wc))
      case first =>
        have H := HC12.out
        clear HC12
        by_cases c18 : t158 = t160
        · rw [if_pos c18] at H
          have c18b0 : (t158 == t160) = true := beq_iff_eq.mpr c18
          have c18b1 : (t158 != t160) = false := bne_eq_false_iff_eq.mpr c18
          clear c18
          (first | rw [c18b0] | rw [c18b1] | (simp only [i64_w, i32_w]; rw [c18b0]) | skip)
          by_cases c19 : ((t159 == 0) != t161) = true
          · rw [if_pos c19] at H
            have c19b0 : ((t159 == 0) != t161) = true := c19
            (try (have c19b1 : decide ((t159 == 0) = t161) = false := by simpa using c19))
            (try (have c19b2 : ((t159 == 0) == t161) = false := by simpa using c19))
            (try (have c19b3 : ¬ ((t159 == 0) = t161) := by simpa using c19))
            clear c19
            have H' := Aside0.mk H
            clear H
            go_wp2
            go_meet
            case rel => exact ⟨_, (true), (by first | rfl | (simp; done) | (simp [*]; done)), H', ⟨by have := HJ2.out; first | omega | exact Nat.le_refl _⟩, ⟨by (with_reducible repeat (first | apply Kd.V_alloc | apply Kd.V_drewN | apply Kd.V_drew)); exact HO_0.out⟩, ⟨by repeat (first | (with_reducible first | exact HB.out | apply below_alloc | apply pw_below_drewN | apply below_drew1) | exact HB.out)⟩⟩
          · rw [if_neg c19] at H
            have c19b0 : ((t159 == 0) != t161) = false := by simpa using c19
            (try (have c19b1 : decide ((t159 == 0) = t161) = true := by simpa using c19))
            (try (have c19b2 : ((t159 == 0) == t161) = true := by simpa using c19))
            clear c19
            by_cases c20 : t161 = true
            · subst c20
              have H1 : (if t162 = t165 then (if t163 = t166 then (if ((t164 == 0) != t167) = true then (cellarerlaw04_TagTexts.j1 kj2 x0_2 true) else (if t167 = true then (cellarerlaw04_TagTexts.j1 kj2 x0_2 false) else (cellarerlaw04_TagTexts.j1 kj2 x0_2 (t164 != 2)))) else (cellarerlaw04_TagTexts.j1 kj2 x0_2 true)) else (cellarerlaw04_TagTexts.j1 kj2 x0_2 true)) = some r := by rw [if_pos rfl] at H; exact H
              clear H
              have H := H1
              clear H1
              by_cases c21 : t162 = t165
              · rw [if_pos c21] at H
                have c21b0 : (t162 == t165) = true := beq_iff_eq.mpr c21
                have c21b1 : (t162 != t165) = false := bne_eq_false_iff_eq.mpr c21
                clear c21
                by_cases c22 : t163 = t166
                · rw [if_pos c22] at H
                  have c22b0 : (t163 == t166) = true := beq_iff_eq.mpr c22
                  have c22b1 : (t163 != t166) = false := bne_eq_false_iff_eq.mpr c22
                  clear c22
                  by_cases c23 : ((t164 == 0) != t167) = true
                  · rw [if_pos c23] at H
                    have c23b0 : ((t164 == 0) != t167) = true := c23
                    (try (have c23b1 : decide ((t164 == 0) = t167) = false := by simpa using c23))
                    (try (have c23b2 : ((t164 == 0) == t167) = false := by simpa using c23))
                    (try (have c23b3 : ¬ ((t164 == 0) = t167) := by simpa using c23))
                    clear c23
                    have H' := Aside0.mk H
                    clear H
                    go_wp2
                    go_meet
                    case rel => exact ⟨_, (true), (by first | rfl | (simp; done) | (simp [*]; done)), H', ⟨by have := HJ2.out; first | omega | exact Nat.le_refl _⟩, ⟨by (with_reducible repeat (first | apply Kd.V_alloc | apply Kd.V_drewN | apply Kd.V_drew)); exact HO_0.out⟩, ⟨by repeat (first | (with_reducible first | exact HB.out | apply below_alloc | apply pw_below_drewN | apply below_drew1) | exact HB.out)⟩⟩
                  · rw [if_neg c23] at H
                    have c23b0 : ((t164 == 0) != t167) = false := by simpa using c23
                    (try (have c23b1 : decide ((t164 == 0) = t167) = true := by simpa using c23))
                    (try (have c23b2 : ((t164 == 0) == t167) = true := by simpa using c23))
                    clear c23
                    by_cases c24 : t167 = true
                    · subst c24
                      have H1 : (cellarerlaw04_TagTexts.j1 kj2 x0_2 false) = some r := by rw [if_pos rfl] at H; exact H
                      clear H
                      have H := H1
                      clear H1
                      have H' := Aside0.mk H
                      clear H
                      go_wp2
                      go_meet
                      case rel => exact ⟨_, (false), (by first | rfl | (simp; done) | (simp [*]; done)), H', ⟨by have := HJ2.out; first | omega | exact Nat.le_refl _⟩, ⟨by (with_reducible repeat (first | apply Kd.V_alloc | apply Kd.V_drewN | apply Kd.V_drew)); exact HO_0.out⟩, ⟨by repeat (first | (with_reducible first | exact HB.out | apply below_alloc | apply pw_below_drewN | apply below_drew1) | exact HB.out)⟩⟩
                    · replace c24 := Bool.eq_false_iff.mpr c24
                      subst c24
                      have H1 : (cellarerlaw04_TagTexts.j1 kj2 x0_2 (t164 != 2)) = some r := by rw [if_neg (show ¬ (false = true) by decide)] at H; exact H
                      clear H
                      have H := H1
                      clear H1
                      have H' := Aside0.mk H
                      clear H
                      go_wp2
                      go_meet
                      case rel => exact ⟨_, ((t164 != 2)), (by first | rfl | (simp; done) | (simp [*]; done)), H', ⟨by have := HJ2.out; first | omega | exact Nat.le_refl _⟩, ⟨by (with_reducible repeat (first | apply Kd.V_alloc | apply Kd.V_drewN | apply Kd.V_drew)); exact HO_0.out⟩, ⟨by repeat (first | (with_reducible first | exact HB.out | apply below_alloc | apply pw_below_drewN | apply below_drew1) | exact HB.out)⟩⟩
                · rw [if_neg c22] at H
                  have c22b0 : (t163 == t166) = false := beq_eq_false_iff_ne.mpr c22
                  have c22b1 : (t163 != t166) = true := bne_iff_ne.mpr c22
                  have H' := Aside0.mk H
                  clear H
                  go_wp2
                  go_meet
                  case rel => exact ⟨_, (true), (by first | rfl | (simp; done) | (simp [*]; done)), H', ⟨by have := HJ2.out; first | omega | exact Nat.le_refl _⟩, ⟨by (with_reducible repeat (first | apply Kd.V_alloc | apply Kd.V_drewN | apply Kd.V_drew)); exact HO_0.out⟩, ⟨by repeat (first | (with_reducible first | exact HB.out | apply below_alloc | apply pw_below_drewN | apply below_drew1) | exact HB.out)⟩⟩
              · rw [if_neg c21] at H
                have c21b0 : (t162 == t165) = false := beq_eq_false_iff_ne.mpr c21
                have c21b1 : (t162 != t165) = true := bne_iff_ne.mpr c21
                have H' := Aside0.mk H
                clear H
                go_wp2
                go_meet
                case rel => exact ⟨_, (true), (by first | rfl | (simp; done) | (simp [*]; done)), H', ⟨by have := HJ2.out; first | omega | exact Nat.le_refl _⟩, ⟨by (with_reducible repeat (first | apply Kd.V_alloc | apply Kd.V_drewN | apply Kd.V_drew)); exact HO_0.out⟩, ⟨by repeat (first | (with_reducible first | exact HB.out | apply below_alloc | apply pw_below_drewN | apply below_drew1) | exact HB.out)⟩⟩
            · replace c20 := Bool.eq_false_iff.mpr c20
              subst c20
              have H1 : (if t159 = 2 then (if t162 = t165 then (if t163 = t166 then (if ((t164 == 0) != t167) = true then (cellarerlaw04_TagTexts.j1 kj2 x0_2 true) else (if t167 = true then (cellarerlaw04_TagTexts.j1 kj2 x0_2 false) else (cellarerlaw04_TagTexts.j1 kj2 x0_2 (t164 != 2)))) else (cellarerlaw04_TagTexts.j1 kj2 x0_2 true)) else (cellarerlaw04_TagTexts.j1 kj2 x0_2 true)) else (cellarerlaw04_TagTexts.j1 kj2 x0_2 true)) = some r := by rw [if_neg (show ¬ (false = true) by decide)] at H; exact H
              clear H
              have H := H1
              clear H1
              by_cases c25 : t159 = 2
              · rw [if_pos c25] at H
                have c25b0 : (t159 == 2) = true := beq_iff_eq.mpr c25
                have c25b1 : (t159 != 2) = false := bne_eq_false_iff_eq.mpr c25
                clear c25
                by_cases c26 : t162 = t165
                · rw [if_pos c26] at H
                  have c26b0 : (t162 == t165) = true := beq_iff_eq.mpr c26
                  have c26b1 : (t162 != t165) = false := bne_eq_false_iff_eq.mpr c26
                  clear c26
                  by_cases c27 : t163 = t166
                  · rw [if_pos c27] at H
                    have c27b0 : (t163 == t166) = true := beq_iff_eq.mpr c27
                    have c27b1 : (t163 != t166) = false := bne_eq_false_iff_eq.mpr c27
                    clear c27
                    by_cases c28 : ((t164 == 0) != t167) = true
                    · rw [if_pos c28] at H
                      have c28b0 : ((t164 == 0) != t167) = true := c28
                      (try (have c28b1 : decide ((t164 == 0) = t167) = false := by simpa using c28))
                      (try (have c28b2 : ((t164 == 0) == t167) = false := by simpa using c28))
                      (try (have c28b3 : ¬ ((t164 == 0) = t167) := by simpa using c28))
                      clear c28
                      have H' := Aside0.mk H
                      clear H
                      go_wp2
                      go_meet
                      case rel => exact ⟨_, (true), (by first | rfl | (simp; done) | (simp [*]; done)), H', ⟨by have := HJ2.out; first | omega | exact Nat.le_refl _⟩, ⟨by (with_reducible repeat (first | apply Kd.V_alloc | apply Kd.V_drewN | apply Kd.V_drew)); exact HO_0.out⟩, ⟨by repeat (first | (with_reducible first | exact HB.out | apply below_alloc | apply pw_below_drewN | apply below_drew1) | exact HB.out)⟩⟩
                    · rw [if_neg c28] at H
                      have c28b0 : ((t164 == 0) != t167) = false := by simpa using c28
                      (try (have c28b1 : decide ((t164 == 0) = t167) = true := by simpa using c28))
                      (try (have c28b2 : ((t164 == 0) == t167) = true := by simpa using c28))
                      clear c28
                      by_cases c29 : t167 = true
                      · subst c29
                        have H1 : (cellarerlaw04_TagTexts.j1 kj2 x0_2 false) = some r := by rw [if_pos rfl] at H; exact H
                        clear H
                        have H := H1
                        clear H1
                        have H' := Aside0.mk H
                        clear H
                        go_wp2
                        go_meet
                        case rel => exact ⟨_, (false), (by first | rfl | (simp; done) | (simp [*]; done)), H', ⟨by have := HJ2.out; first | omega | exact Nat.le_refl _⟩, ⟨by (with_reducible repeat (first | apply Kd.V_alloc | apply Kd.V_drewN | apply Kd.V_drew)); exact HO_0.out⟩, ⟨by repeat (first | (with_reducible first | exact HB.out | apply below_alloc | apply pw_below_drewN | apply below_drew1) | exact HB.out)⟩⟩
                      · replace c29 := Bool.eq_false_iff.mpr c29
                        subst c29
                        have H1 : (cellarerlaw04_TagTexts.j1 kj2 x0_2 (t164 != 2)) = some r := by rw [if_neg (show ¬ (false = true) by decide)] at H; exact H
                        clear H
                        have H := H1
                        clear H1
                        have H' := Aside0.mk H
                        clear H
                        go_wp2
                        go_meet
                        case rel => exact ⟨_, ((t164 != 2)), (by first | rfl | (simp; done) | (simp [*]; done)), H', ⟨by have := HJ2.out; first | omega | exact Nat.le_refl _⟩, ⟨by (with_reducible repeat (first | apply Kd.V_alloc | apply Kd.V_drewN | apply Kd.V_drew)); exact HO_0.out⟩, ⟨by repeat (first | (with_reducible first | exact HB.out | apply below_alloc | apply pw_below_drewN | apply below_drew1) | exact HB.out)⟩⟩
                  · rw [if_neg c27] at H
                    have c27b0 : (t163 == t166) = false := beq_eq_false_iff_ne.mpr c27
                    have c27b1 : (t163 != t166) = true := bne_iff_ne.mpr c27
                    have H' := Aside0.mk H
                    clear H
                    go_wp2
                    go_meet
                    case rel => exact ⟨_, (true), (by first | rfl | (simp; done) | (simp [*]; done)), H', ⟨by have := HJ2.out; first | omega | exact Nat.le_refl _⟩, ⟨by (with_reducible repeat (first | apply Kd.V_alloc | apply Kd.V_drewN | apply Kd.V_drew)); exact HO_0.out⟩, ⟨by repeat (first | (with_reducible first | exact HB.out | apply below_alloc | apply pw_below_drewN | apply below_drew1) | exact HB.out)⟩⟩
                · rw [if_neg c26] at H
                  have c26b0 : (t162 == t165) = false := beq_eq_false_iff_ne.mpr c26
                  have c26b1 : (t162 != t165) = true := bne_iff_ne.mpr c26
                  have H' := Aside0.mk H
                  clear H
                  go_wp2
                  go_meet
                  case rel => exact ⟨_, (true), (by first | rfl | (simp; done) | (simp [*]; done)), H', ⟨by have := HJ2.out; first | omega | exact Nat.le_refl _⟩, ⟨by (with_reducible repeat (first | apply Kd.V_alloc | apply Kd.V_drewN | apply Kd.V_drew)); exact HO_0.out⟩, ⟨by repeat (first | (with_reducible first | exact HB.out | apply below_alloc | apply pw_below_drewN | apply below_drew1) | exact HB.out)⟩⟩
              · rw [if_neg c25] at H
                have c25b0 : (t159 == 2) = false := beq_eq_false_iff_ne.mpr c25
                have c25b1 : (t159 != 2) = true := bne_iff_ne.mpr c25
                have H' := Aside0.mk H
                clear H
                go_wp2
                go_meet
                case rel => exact ⟨_, (true), (by first | rfl | (simp; done) | (simp [*]; done)), H', ⟨by have := HJ2.out; first | omega | exact Nat.le_refl _⟩, ⟨by (with_reducible repeat (first | apply Kd.V_alloc | apply Kd.V_drewN | apply Kd.V_drew)); exact HO_0.out⟩, ⟨by repeat (first | (with_reducible first | exact HB.out | apply below_alloc | apply pw_below_drewN | apply below_drew1) | exact HB.out)⟩⟩
        · rw [if_neg c18] at H
          have c18b0 : (t158 == t160) = false := beq_eq_false_iff_ne.mpr c18
          have c18b1 : (t158 != t160) = true := bne_iff_ne.mpr c18
          (first | rw [c18b0] | rw [c18b1] | (simp only [i64_w, i32_w]; rw [c18b0]) | skip)
          have H' := Aside0.mk H
          clear H
          go_wp2
          go_meet
          case rel => exact ⟨_, (true), (by first | rfl | (simp; done) | (simp [*]; done)), H', ⟨by have := HJ2.out; first | omega | exact Nat.le_refl _⟩, ⟨by (with_reducible repeat (first | apply Kd.V_alloc | apply Kd.V_drewN | apply Kd.V_drew)); exact HO_0.out⟩, ⟨by repeat (first | (with_reducible first | exact HB.out | apply below_alloc | apply pw_below_drewN | apply below_drew1) | exact HB.out)⟩⟩
      case rest =>
        clear HC12
        try clear c1
        try clear c2
        try clear p2
        try clear c4
        try clear c4b0
        try clear c4b1
        try clear c5
        try clear c5b0
        try clear c5b1
        try clear q6
        try clear c7
        try clear c8
        try clear c10
        try clear c11
        try clear c12
        try clear c18
        try clear c18b0
        try clear c18b1
        try clear c19
        try clear c19b0
        try clear c19b1
        try clear c19b2
        try clear c20
        try clear c21
        try clear c21b0
        try clear c21b1
        try clear c22
        try clear c22b0
        try clear c22b1
        try clear c23
        try clear c23b0
        try clear c23b1
        try clear c23b2
        try clear c24
        try clear c25
        try clear c25b0
        try clear c25b1
        try clear c26
        try clear c26b0
        try clear c26b1
        try clear c27
        try clear c27b0
        try clear c27b1
        try clear c28
        try clear c28b0
        try clear c28b1
        try clear c28b2
        try clear c29
        try clear p2
        try clear q6
        obtain ⟨kq, x92_11, rfl, HA, HJ11, HO_0, HB⟩ := hcut
        cases kq with
        | zero => exact absurd HA.out (by simp [cellarerlaw04_TagTexts.j1])
        | succ kj11 =>
          have H := HA.out
          clear HA
          simp only [cellarerlaw04_TagTexts.j1] at H
          by_cases c30 : x92_11 = true
          · subst c30
            have H1 : (some false) = some r := by rw [if_pos rfl] at H; exact H
            clear H
            have H := H1
            clear H1
            obtain rfl := Option.some.inj H
            go_wp2
            go_ret
            exact ⟨by first | rfl | (simp [errW_none, errW_some] <;> rfl) | (simp [*, errW_none, errW_some] <;> rfl), by repeat (first | (with_reducible first | exact HB.out | apply below_alloc | apply pw_below_drewN | apply below_drew1) | exact HB.out)⟩
          · replace c30 := Bool.eq_false_iff.mpr c30
            subst c30
            have H1 : ((tag_Many.f kj11 x0_2).bind fun bt168 => (if (x0_2.length : Int) = 0 then (cellarerlaw04_TagTexts.j2 kj11 x0_2 bt168.1 bt168.2 true) else (cellarerlaw04_TagTexts.j2 kj11 x0_2 bt168.1 bt168.2 (decide ((x0_2.length : Int) > 100))))) = some r := by rw [if_neg (show ¬ (false = true) by decide)] at H; exact H
            clear H
            have H := H1
            clear H1
            replace H := Option.bind_eq_some_iff.mp H
            obtain ⟨⟨t168, t169⟩, A310, H⟩ := H
            replace H : (if (x0_2.length : Int) = 0 then (cellarerlaw04_TagTexts.j2 kj11 x0_2 t168 t169 true) else (cellarerlaw04_TagTexts.j2 kj11 x0_2 t168 t169 (decide ((x0_2.length : Int) > 100)))) = some r := H
            have A31 := Aside0.mk A310
            clear A310
            have HC32 := Aside0.mk H
            clear H
            obtain ⟨Ao33, co33, eo33⟩ := Kd.V_slice HO_0.out
            subst eo33
            go_upto_region 11 with (first | ((with_reducible refine gate_callee (f := 13) rfl ?_); refine goesL_ (some 95) rfl rfl Tryd.func13 (by kernel_rfl) rfl #[.slice Ao33 x0_2.length co33] rfl (by (try simp only [List.map_toArray, List.map_cons, List.map_nil]); first | done | rfl | (simp only [List.length_drop, List.length_take]; rfl)) ?_; (with_reducible refine (tag_Many.calls kj11 _ _ x0_2 t168 t169 _ (Aside0.mk (Go.Proofs.YtmlnkdknpogknaaDoor.Laid.LD.below HLD.out (by repeat (first | (with_reducible first | exact HB.out | apply below_alloc | apply pw_below_drewN | apply below_drew1) | exact HB.out)))) ?side1 ?side2 A31.out).mono ?_); (case side1 => repeat (first | exact (Kd.V_reads' HO_0.out).2.2 | (with_reducible refine Kd.C_alloc ?_ _) | (with_reducible refine Kd.C_drewN ?_ _) | (with_reducible refine Kd.C_drew ?_))); (case side2 => exact (Kd.V_reads' HO_0.out).2.1); rintro e w34 ⟨rfl, hb⟩; refine ⟨_, rfl, ?_⟩; have n0_ := Aside0.mk (Kd.V_below (by (with_reducible repeat (first | apply Kd.V_alloc | apply Kd.V_drewN | apply Kd.V_drew)); exact HO_0.out) hb); have n1_ := Aside0.mk (below_step (by repeat (first | (with_reducible first | exact HB.out | apply below_alloc | apply pw_below_drewN | apply below_drew1) | exact HB.out)) hb); clear HO_0; clear HB; have HO_0 := n0_; have HB := n1_; clear n0_ n1_; (try clear hb); (try clear hb2); (try clear hk); (try clear hi)))
            (try simp only [Act.put, List.setIfInBounds_toArray, List.set_cons_zero, List.set_cons_succ])
            go_cut [105] (fun v105 wc => ∃ (kq : Nat) (x105_31 : Bool), v105 = .bool x105_31 ∧ Aside0 (cellarerlaw04_TagTexts.j2 kq x0_2 t168 t169 x105_31 = some r) ∧ Aside0 (kq ≤ kj11) ∧ Aside0 (Kd.V (Kd.int .u32) 22 wc w.heap.size (fun k_ => (P0_ k_ ∨ w.heap.size ≤ k_)) (.slice Ao33 x0_2.length co33) x0_2) ∧ Aside0 (Below w.heap.size w wc))
            case first =>
              have H := HC32.out
              clear HC32
              by_cases c35 : (x0_2.length : Int) = 0
              · rw [if_pos c35] at H
                have c35b0 : ((x0_2.length : Int) == 0) = true := beq_iff_eq.mpr c35
                have c35b1 : ((x0_2.length : Int) != 0) = false := bne_eq_false_iff_eq.mpr c35
                clear c35
                (first | rw [c35b0] | rw [c35b1] | (simp only [i64_w, i32_w]; rw [c35b0]) | skip)
                have H' := Aside0.mk H
                clear H
                go_wp2
                go_meet
                case rel => exact ⟨_, (true), (by first | rfl | (simp; done) | (simp [*]; done)), H', ⟨by have := HJ2.out; have := HJ11.out; first | omega | exact Nat.le_refl _⟩, ⟨by (with_reducible repeat (first | apply Kd.V_alloc | apply Kd.V_drewN | apply Kd.V_drew)); exact HO_0.out⟩, ⟨by repeat (first | (with_reducible first | exact HB.out | apply below_alloc | apply pw_below_drewN | apply below_drew1) | exact HB.out)⟩⟩
              · rw [if_neg c35] at H
                have c35b0 : ((x0_2.length : Int) == 0) = false := beq_eq_false_iff_ne.mpr c35
                have c35b1 : ((x0_2.length : Int) != 0) = true := bne_iff_ne.mpr c35
                have c35b2 : ¬ (x0_2 = []) := fun h_ => c35 (by rw [h_]; rfl)
                (first | rw [c35b0] | rw [c35b1] | (simp only [i64_w, i32_w]; rw [c35b0]) | skip)
                have H' := Aside0.mk H
                clear H
                go_wp2
                go_meet
                case rel => exact ⟨_, (decide ((x0_2.length : Int) > 100)), (by first | rfl | (simp; done) | (simp [*]; done)), H', ⟨by have := HJ2.out; have := HJ11.out; first | omega | exact Nat.le_refl _⟩, ⟨by (with_reducible repeat (first | apply Kd.V_alloc | apply Kd.V_drewN | apply Kd.V_drew)); exact HO_0.out⟩, ⟨by repeat (first | (with_reducible first | exact HB.out | apply below_alloc | apply pw_below_drewN | apply below_drew1) | exact HB.out)⟩⟩
            case rest =>
              clear HC32
              try clear c1
              try clear c2
              try clear p2
              try clear c3
              try clear c4
              try clear c4b0
              try clear c4b1
              try clear c5
              try clear c5b0
              try clear c5b1
              try clear q6
              try clear c7
              try clear c8
              try clear c10
              try clear c11
              try clear c12
              try clear c13
              try clear c18
              try clear c18b0
              try clear c18b1
              try clear c19
              try clear c19b0
              try clear c19b1
              try clear c19b2
              try clear c20
              try clear c21
              try clear c21b0
              try clear c21b1
              try clear c22
              try clear c22b0
              try clear c22b1
              try clear c23
              try clear c23b0
              try clear c23b1
              try clear c23b2
              try clear c24
              try clear c25
              try clear c25b0
              try clear c25b1
              try clear c26
              try clear c26b0
              try clear c26b1
              try clear c27
              try clear c27b0
              try clear c27b1
              try clear c28
              try clear c28b0
              try clear c28b1
              try clear c28b2
              try clear c29
              try clear c30
              try clear c35
              try clear c35b0
              try clear c35b1
              try clear c35b2
              try clear p2
              try clear q6
              obtain ⟨kq, x105_31, rfl, HA, HJ31, HO_0, HB⟩ := hcut
              cases kq with
              | zero => exact absurd HA.out (by simp [cellarerlaw04_TagTexts.j2])
              | succ kj31 =>
                have H := HA.out
                clear HA
                simp only [cellarerlaw04_TagTexts.j2] at H
                by_cases c36 : x105_31 = true
                · subst c36
                  have H1 : (if t168.toList = ([] : List UInt8) then (if t169 = 1 then ((cellarerlaw04_awake.f).bind fun t170 => (some t170)) else (some false)) else (some false)) = some r := by rw [if_pos rfl] at H; exact H
                  clear H
                  have H := H1
                  clear H1
                  by_cases c37 : t168.toList = ([] : List UInt8)
                  · rw [if_pos c37] at H
                    have c37b0 : (t168.toList == ([] : List UInt8)) = true := beq_iff_eq.mpr c37
                    have c37b1 : (t168.toList != ([] : List UInt8)) = false := bne_eq_false_iff_eq.mpr c37
                    clear c37
                    by_cases c38 : t169 = 1
                    · rw [if_pos c38] at H
                      have c38b0 : (t169 == 1) = true := beq_iff_eq.mpr c38
                      have c38b1 : (t169 != 1) = false := bne_eq_false_iff_eq.mpr c38
                      clear c38
                      replace H := Option.bind_eq_some_iff.mp H
                      obtain ⟨t170, A390, H⟩ := H
                      replace H : (some t170) = some r := H
                      have A39 := Aside0.mk A390
                      clear A390
                      obtain rfl := Option.some.inj H
                      go_wp2_with (first | (go_at_call 9; (with_reducible refine (cellarerlaw04_awake.calls  t170 _ A39.out).mono ?_); rintro e w40 ⟨rfl, hb⟩; have n0_ := Aside0.mk (Kd.V_below (by (with_reducible repeat (first | apply Kd.V_alloc | apply Kd.V_drewN | apply Kd.V_drew)); exact HO_0.out) hb); have n1_ := Aside0.mk (below_step (by repeat (first | (with_reducible first | exact HB.out | apply below_alloc | apply pw_below_drewN | apply below_drew1) | exact HB.out)) hb); clear HO_0; clear HB; have HO_0 := n0_; have HB := n1_; clear n0_ n1_; (try clear hb); (try clear hb2); (try clear hk); (try clear hi)))
                      go_ret
                      exact ⟨by first | rfl | (simp [errW_none, errW_some] <;> rfl) | (simp [*, errW_none, errW_some] <;> rfl), by repeat (first | (with_reducible first | exact HB.out | apply below_alloc | apply pw_below_drewN | apply below_drew1) | exact HB.out)⟩
                    · rw [if_neg c38] at H
                      have c38b0 : (t169 == 1) = false := beq_eq_false_iff_ne.mpr c38
                      have c38b1 : (t169 != 1) = true := bne_iff_ne.mpr c38
                      obtain rfl := Option.some.inj H
                      go_wp2
                      go_ret
                      exact ⟨by first | rfl | (simp [errW_none, errW_some] <;> rfl) | (simp [*, errW_none, errW_some] <;> rfl), by repeat (first | (with_reducible first | exact HB.out | apply below_alloc | apply pw_below_drewN | apply below_drew1) | exact HB.out)⟩
                  · rw [if_neg c37] at H
                    have c37b0 : (t168.toList == ([] : List UInt8)) = false := beq_eq_false_iff_ne.mpr c37
                    have c37b1 : (t168.toList != ([] : List UInt8)) = true := bne_iff_ne.mpr c37
                    obtain rfl := Option.some.inj H
                    go_wp2
                    go_ret
                    exact ⟨by first | rfl | (simp [errW_none, errW_some] <;> rfl) | (simp [*, errW_none, errW_some] <;> rfl), by repeat (first | (with_reducible first | exact HB.out | apply below_alloc | apply pw_below_drewN | apply below_drew1) | exact HB.out)⟩
                · replace c36 := Bool.eq_false_iff.mpr c36
                  subst c36
                  have H1 : (if 0 < (x0_2.length : Int) then ((tag_Text.f (rd x0_2 0)).bind fun t172 => ((tag_Parse.f kj31 t172).bind fun bt173 => ((tag_Read.f kj31 t168).bind fun bt175 => ((cellarerref04_Text.f kj31 (rd x0_2 0)).bind fun t179 => (if t172.toList = t179.toList then (if bt173.1 = (rd x0_2 0) then (if bt173.2 = 0 then ((cellarerref04_Many.f kj31 x0_2).bind fun t181 => (if t168.toList = t181.toList then (if t169 = 0 then (if bt175.2.1 = (x0_2.length : Int) then (if bt175.2.2 = 0 then ((cellarerlaw04_awake.f).bind fun t182 => (some t182)) else (some false)) else (some false)) else (some false)) else (some false))) else (some false)) else (some false)) else (some false)))))) else (none)) = some r := by rw [if_neg (show ¬ (false = true) by decide)] at H; exact H
                  clear H
                  have H := H1
                  clear H1
                  by_cases c41 : 0 < (x0_2.length : Int)
                  · rw [if_pos c41] at H
                    have c41b0 : decide (0 < (x0_2.length : Int)) = true := decide_eq_true c41
                    have c41b1 : decide (0 < x0_2.length) = true := decide_eq_true (by omega)
                    clear c41
                    replace H := Option.bind_eq_some_iff.mp H
                    obtain ⟨t172, A420, H⟩ := H
                    replace H : ((tag_Parse.f kj31 t172).bind fun bt173 => ((tag_Read.f kj31 t168).bind fun bt175 => ((cellarerref04_Text.f kj31 (rd x0_2 0)).bind fun t179 => (if t172.toList = t179.toList then (if bt173.1 = (rd x0_2 0) then (if bt173.2 = 0 then ((cellarerref04_Many.f kj31 x0_2).bind fun t181 => (if t168.toList = t181.toList then (if t169 = 0 then (if bt175.2.1 = (x0_2.length : Int) then (if bt175.2.2 = 0 then ((cellarerlaw04_awake.f).bind fun t182 => (some t182)) else (some false)) else (some false)) else (some false)) else (some false))) else (some false)) else (some false)) else (some false))))) = some r := H
                    have A42 := Aside0.mk A420
                    clear A420
                    replace H := Option.bind_eq_some_iff.mp H
                    obtain ⟨⟨t173, t174⟩, A430, H⟩ := H
                    replace H : ((tag_Read.f kj31 t168).bind fun bt175 => ((cellarerref04_Text.f kj31 (rd x0_2 0)).bind fun t179 => (if t172.toList = t179.toList then (if t173 = (rd x0_2 0) then (if t174 = 0 then ((cellarerref04_Many.f kj31 x0_2).bind fun t181 => (if t168.toList = t181.toList then (if t169 = 0 then (if bt175.2.1 = (x0_2.length : Int) then (if bt175.2.2 = 0 then ((cellarerlaw04_awake.f).bind fun t182 => (some t182)) else (some false)) else (some false)) else (some false)) else (some false))) else (some false)) else (some false)) else (some false)))) = some r := H
                    have A43 := Aside0.mk A430
                    clear A430
                    replace H := Option.bind_eq_some_iff.mp H
                    obtain ⟨⟨t175, t176, t177⟩, A440, H⟩ := H
                    replace H : ((cellarerref04_Text.f kj31 (rd x0_2 0)).bind fun t179 => (if t172.toList = t179.toList then (if t173 = (rd x0_2 0) then (if t174 = 0 then ((cellarerref04_Many.f kj31 x0_2).bind fun t181 => (if t168.toList = t181.toList then (if t169 = 0 then (if t176 = (x0_2.length : Int) then (if t177 = 0 then ((cellarerlaw04_awake.f).bind fun t182 => (some t182)) else (some false)) else (some false)) else (some false)) else (some false))) else (some false)) else (some false)) else (some false))) = some r := H
                    have A44 := Aside0.mk A440
                    clear A440
                    replace H := Option.bind_eq_some_iff.mp H
                    obtain ⟨t179, A450, H⟩ := H
                    replace H : (if t172.toList = t179.toList then (if t173 = (rd x0_2 0) then (if t174 = 0 then ((cellarerref04_Many.f kj31 x0_2).bind fun t181 => (if t168.toList = t181.toList then (if t169 = 0 then (if t176 = (x0_2.length : Int) then (if t177 = 0 then ((cellarerlaw04_awake.f).bind fun t182 => (some t182)) else (some false)) else (some false)) else (some false)) else (some false))) else (some false)) else (some false)) else (some false)) = some r := H
                    have A45 := Aside0.mk A450
                    clear A450
                    by_cases c46 : t172.toList = t179.toList
                    · rw [if_pos c46] at H
                      have c46b0 : (t172.toList == t179.toList) = true := beq_iff_eq.mpr c46
                      have c46b1 : (t172.toList != t179.toList) = false := bne_eq_false_iff_eq.mpr c46
                      clear c46
                      by_cases c47 : t173 = (rd x0_2 0)
                      · rw [if_pos c47] at H
                        have c47b0 : (t173 == (rd x0_2 0)) = true := beq_iff_eq.mpr c47
                        have c47b1 : (t173 != (rd x0_2 0)) = false := bne_eq_false_iff_eq.mpr c47
                        clear c47
                        by_cases c48 : t174 = 0
                        · rw [if_pos c48] at H
                          have c48b0 : (t174 == 0) = true := beq_iff_eq.mpr c48
                          have c48b1 : (t174 != 0) = false := bne_eq_false_iff_eq.mpr c48
                          clear c48
                          replace H := Option.bind_eq_some_iff.mp H
                          obtain ⟨t181, A490, H⟩ := H
                          replace H : (if t168.toList = t181.toList then (if t169 = 0 then (if t176 = (x0_2.length : Int) then (if t177 = 0 then ((cellarerlaw04_awake.f).bind fun t182 => (some t182)) else (some false)) else (some false)) else (some false)) else (some false)) = some r := H
                          have A49 := Aside0.mk A490
                          clear A490
                          by_cases c50 : t168.toList = t181.toList
                          · rw [if_pos c50] at H
                            have c50b0 : (t168.toList == t181.toList) = true := beq_iff_eq.mpr c50
                            have c50b1 : (t168.toList != t181.toList) = false := bne_eq_false_iff_eq.mpr c50
                            clear c50
                            by_cases c51 : t169 = 0
                            · rw [if_pos c51] at H
                              have c51b0 : (t169 == 0) = true := beq_iff_eq.mpr c51
                              have c51b1 : (t169 != 0) = false := bne_eq_false_iff_eq.mpr c51
                              clear c51
                              by_cases c52 : t176 = (x0_2.length : Int)
                              · rw [if_pos c52] at H
                                have c52b0 : (t176 == (x0_2.length : Int)) = true := beq_iff_eq.mpr c52
                                have c52b1 : (t176 != (x0_2.length : Int)) = false := bne_eq_false_iff_eq.mpr c52
                                clear c52
                                by_cases c53 : t177 = 0
                                · rw [if_pos c53] at H
                                  have c53b0 : (t177 == 0) = true := beq_iff_eq.mpr c53
                                  have c53b1 : (t177 != 0) = false := bne_eq_false_iff_eq.mpr c53
                                  clear c53
                                  replace H := Option.bind_eq_some_iff.mp H
                                  obtain ⟨t182, A540, H⟩ := H
                                  replace H : (some t182) = some r := H
                                  have A54 := Aside0.mk A540
                                  clear A540
                                  obtain rfl := Option.some.inj H
                                  have p171 : 0 ≤ (0 : Int) := (by omega)
                                  have q171 : 0 < (x0_2.length : Int) := of_decide_eq_true (by first | (with_reducible assumption) | assumption)
                                  obtain ⟨ad171, e171, hx171_0⟩ := Kd.at_int (Kd.V_reads' HO_0.out).2.2 0 p171 q171
                                  cases e171
                                  have qi171 : (0 < x0_2.length) = True := eq_true (by omega)
                                  (try rw [show ((0 : Int)).toNat = 0 from rfl] at hx171_0)
                                  (try rw [Addr.add_zero'] at hx171_0)
                                  replace p171 := eq_true p171
                                  replace q171 := eq_true q171
                                  go_wp2_with (first | ((with_reducible refine gate_callee (f := 6) rfl ?_); refine goesL_ (some 118) rfl rfl Tryd.func6 (by kernel_rfl) rfl #[.int .u32 (rd x0_2 0)] rfl (by (try simp only [List.map_toArray, List.map_cons, List.map_nil]); first | done | rfl | (simp only [List.length_drop, List.length_take]; rfl)) ?_; (with_reducible refine (tag_Text.calls (rd x0_2 0) t172 _ A42.out).mono ?_); rintro e w55 ⟨rfl, hb⟩; refine ⟨_, rfl, ?_⟩; have n0_ := Aside0.mk (Kd.V_below (by (with_reducible repeat (first | apply Kd.V_alloc | apply Kd.V_drewN | apply Kd.V_drew)); exact HO_0.out) hb); have n1_ := Aside0.mk (below_step (by repeat (first | (with_reducible first | exact HB.out | apply below_alloc | apply pw_below_drewN | apply below_drew1) | exact HB.out)) hb); clear HO_0; clear HB; have HO_0 := n0_; have HB := n1_; clear n0_ n1_; (try clear hb); (try clear hb2); (try clear hk); (try clear hi)) | ((with_reducible refine gate_callee (f := 7) rfl ?_); refine goesL_ (some 121) rfl rfl Tryd.func7 (by kernel_rfl) rfl #[.string t172] rfl (by (try simp only [List.map_toArray, List.map_cons, List.map_nil]); first | done | rfl | (simp only [List.length_drop, List.length_take]; rfl)) ?_; (with_reducible refine (tag_Parse.calls kj31 t172 t173 t174 _ A43.out).mono ?_); rintro e w56 ⟨rfl, hb⟩; refine ⟨_, rfl, ?_⟩; have n0_ := Aside0.mk (Kd.V_below (by (with_reducible repeat (first | apply Kd.V_alloc | apply Kd.V_drewN | apply Kd.V_drew)); exact HO_0.out) hb); have n1_ := Aside0.mk (below_step (by repeat (first | (with_reducible first | exact HB.out | apply below_alloc | apply pw_below_drewN | apply below_drew1) | exact HB.out)) hb); clear HO_0; clear HB; have HO_0 := n0_; have HB := n1_; clear n0_ n1_; (try clear hb); (try clear hb2); (try clear hk); (try clear hi)) | ((with_reducible refine gate_callee (f := 8) rfl ?_); refine goesL_ (some 126) rfl rfl Tryd.func8 (by kernel_rfl) rfl #[.string t168] rfl (by (try simp only [List.map_toArray, List.map_cons, List.map_nil]); first | done | rfl | (simp only [List.length_drop, List.length_take]; rfl)) ?_; (with_reducible refine (tag_Read.calls kj31 t168 t175 t176 t177 _ (Aside0.mk (Go.Proofs.YtmlnkdknpogknaaDoor.Laid.LD.below HLD.out (by repeat (first | (with_reducible first | exact HB.out | apply below_alloc | apply pw_below_drewN | apply below_drew1) | exact HB.out)))) A44.out).mono ?_); rintro e w57 ⟨rfl, hb⟩; refine ⟨_, rfl, ?_⟩; have n0_ := Aside0.mk (Kd.V_below (by (with_reducible repeat (first | apply Kd.V_alloc | apply Kd.V_drewN | apply Kd.V_drew)); exact HO_0.out) hb); have n1_ := Aside0.mk (below_step (by repeat (first | (with_reducible first | exact HB.out | apply below_alloc | apply pw_below_drewN | apply below_drew1) | exact HB.out)) hb); clear HO_0; clear HB; have HO_0 := n0_; have HB := n1_; clear n0_ n1_; (try clear hb); (try clear hb2); (try clear hk); (try clear hi); have p178 : 0 ≤ (0 : Int) := (by omega); have q178 : 0 < (x0_2.length : Int) := of_decide_eq_true (by first | (with_reducible assumption) | assumption); obtain ⟨ad178, e178, hx178_0⟩ := Kd.at_int (Kd.V_reads' HO_0.out).2.2 0 p178 q178; obtain rfl : ad171 = ad178 := (by injection e178); have qi178 : (0 < x0_2.length) = True := eq_true (by omega); (try rw [show ((0 : Int)).toNat = 0 from rfl] at hx178_0); (try rw [Addr.add_zero'] at hx178_0); replace p178 := eq_true p178; replace q178 := eq_true q178) | ((with_reducible refine gate_callee (f := 14) rfl ?_); refine goesL_ (some 134) rfl rfl Tryd.func14 (by kernel_rfl) rfl #[.int .u32 (rd x0_2 0)] rfl (by (try simp only [List.map_toArray, List.map_cons, List.map_nil]); first | done | rfl | (simp only [List.length_drop, List.length_take]; rfl)) ?_; (with_reducible refine (cellarerref04_Text.calls kj31 (rd x0_2 0) t179 _ A45.out).mono ?_); rintro e w58 ⟨rfl, hb⟩; refine ⟨_, rfl, ?_⟩; have n0_ := Aside0.mk (Kd.V_below (by (with_reducible repeat (first | apply Kd.V_alloc | apply Kd.V_drewN | apply Kd.V_drew)); exact HO_0.out) hb); have n1_ := Aside0.mk (below_step (by repeat (first | (with_reducible first | exact HB.out | apply below_alloc | apply pw_below_drewN | apply below_drew1) | exact HB.out)) hb); clear HO_0; clear HB; have HO_0 := n0_; have HB := n1_; clear n0_ n1_; (try clear hb); (try clear hb2); (try clear hk); (try clear hi); have p180 : 0 ≤ (0 : Int) := (by omega); have q180 : 0 < (x0_2.length : Int) := of_decide_eq_true (by first | (with_reducible assumption) | assumption); obtain ⟨ad180, e180, hx180_0⟩ := Kd.at_int (Kd.V_reads' HO_0.out).2.2 0 p180 q180; obtain rfl : ad171 = ad180 := (by injection e180); have qi180 : (0 < x0_2.length) = True := eq_true (by omega); (try rw [show ((0 : Int)).toNat = 0 from rfl] at hx180_0); (try rw [Addr.add_zero'] at hx180_0); replace p180 := eq_true p180; replace q180 := eq_true q180) | (go_at_call 15; (with_reducible refine (cellarerref04_Many.calls kj31 _ _ x0_2 t181 _ ?side1 ?side2 A49.out).mono ?_); (case side1 => repeat (first | exact (Kd.V_reads' HO_0.out).2.2 | (with_reducible refine Kd.C_alloc ?_ _) | (with_reducible refine Kd.C_drewN ?_ _) | (with_reducible refine Kd.C_drew ?_))); (case side2 => exact (Kd.V_reads' HO_0.out).2.1); rintro e w59 ⟨rfl, hb⟩; have n0_ := Aside0.mk (Kd.V_below (by (with_reducible repeat (first | apply Kd.V_alloc | apply Kd.V_drewN | apply Kd.V_drew)); exact HO_0.out) hb); have n1_ := Aside0.mk (below_step (by repeat (first | (with_reducible first | exact HB.out | apply below_alloc | apply pw_below_drewN | apply below_drew1) | exact HB.out)) hb); clear HO_0; clear HB; have HO_0 := n0_; have HB := n1_; clear n0_ n1_; (try clear hb); (try clear hb2); (try clear hk); (try clear hi)) | (go_at_call 9; (with_reducible refine (cellarerlaw04_awake.calls  t182 _ A54.out).mono ?_); rintro e w60 ⟨rfl, hb⟩; have n0_ := Aside0.mk (Kd.V_below (by (with_reducible repeat (first | apply Kd.V_alloc | apply Kd.V_drewN | apply Kd.V_drew)); exact HO_0.out) hb); have n1_ := Aside0.mk (below_step (by repeat (first | (with_reducible first | exact HB.out | apply below_alloc | apply pw_below_drewN | apply below_drew1) | exact HB.out)) hb); clear HO_0; clear HB; have HO_0 := n0_; have HB := n1_; clear n0_ n1_; (try clear hb); (try clear hb2); (try clear hk); (try clear hi)))
                                  go_ret
                                  exact ⟨by first | rfl | (simp [errW_none, errW_some] <;> rfl) | (simp [*, errW_none, errW_some] <;> rfl), by repeat (first | (with_reducible first | exact HB.out | apply below_alloc | apply pw_below_drewN | apply below_drew1) | exact HB.out)⟩
                                · rw [if_neg c53] at H
                                  have c53b0 : (t177 == 0) = false := beq_eq_false_iff_ne.mpr c53
                                  have c53b1 : (t177 != 0) = true := bne_iff_ne.mpr c53
                                  obtain rfl := Option.some.inj H
                                  have p171 : 0 ≤ (0 : Int) := (by omega)
                                  have q171 : 0 < (x0_2.length : Int) := of_decide_eq_true (by first | (with_reducible assumption) | assumption)
                                  obtain ⟨ad171, e171, hx171_0⟩ := Kd.at_int (Kd.V_reads' HO_0.out).2.2 0 p171 q171
                                  cases e171
                                  have qi171 : (0 < x0_2.length) = True := eq_true (by omega)
                                  (try rw [show ((0 : Int)).toNat = 0 from rfl] at hx171_0)
                                  (try rw [Addr.add_zero'] at hx171_0)
                                  replace p171 := eq_true p171
                                  replace q171 := eq_true q171
                                  go_wp2_with (first | ((with_reducible refine gate_callee (f := 6) rfl ?_); refine goesL_ (some 118) rfl rfl Tryd.func6 (by kernel_rfl) rfl #[.int .u32 (rd x0_2 0)] rfl (by (try simp only [List.map_toArray, List.map_cons, List.map_nil]); first | done | rfl | (simp only [List.length_drop, List.length_take]; rfl)) ?_; (with_reducible refine (tag_Text.calls (rd x0_2 0) t172 _ A42.out).mono ?_); rintro e w61 ⟨rfl, hb⟩; refine ⟨_, rfl, ?_⟩; have n0_ := Aside0.mk (Kd.V_below (by (with_reducible repeat (first | apply Kd.V_alloc | apply Kd.V_drewN | apply Kd.V_drew)); exact HO_0.out) hb); have n1_ := Aside0.mk (below_step (by repeat (first | (with_reducible first | exact HB.out | apply below_alloc | apply pw_below_drewN | apply below_drew1) | exact HB.out)) hb); clear HO_0; clear HB; have HO_0 := n0_; have HB := n1_; clear n0_ n1_; (try clear hb); (try clear hb2); (try clear hk); (try clear hi)) | ((with_reducible refine gate_callee (f := 7) rfl ?_); refine goesL_ (some 121) rfl rfl Tryd.func7 (by kernel_rfl) rfl #[.string t172] rfl (by (try simp only [List.map_toArray, List.map_cons, List.map_nil]); first | done | rfl | (simp only [List.length_drop, List.length_take]; rfl)) ?_; (with_reducible refine (tag_Parse.calls kj31 t172 t173 t174 _ A43.out).mono ?_); rintro e w62 ⟨rfl, hb⟩; refine ⟨_, rfl, ?_⟩; have n0_ := Aside0.mk (Kd.V_below (by (with_reducible repeat (first | apply Kd.V_alloc | apply Kd.V_drewN | apply Kd.V_drew)); exact HO_0.out) hb); have n1_ := Aside0.mk (below_step (by repeat (first | (with_reducible first | exact HB.out | apply below_alloc | apply pw_below_drewN | apply below_drew1) | exact HB.out)) hb); clear HO_0; clear HB; have HO_0 := n0_; have HB := n1_; clear n0_ n1_; (try clear hb); (try clear hb2); (try clear hk); (try clear hi)) | ((with_reducible refine gate_callee (f := 8) rfl ?_); refine goesL_ (some 126) rfl rfl Tryd.func8 (by kernel_rfl) rfl #[.string t168] rfl (by (try simp only [List.map_toArray, List.map_cons, List.map_nil]); first | done | rfl | (simp only [List.length_drop, List.length_take]; rfl)) ?_; (with_reducible refine (tag_Read.calls kj31 t168 t175 t176 t177 _ (Aside0.mk (Go.Proofs.YtmlnkdknpogknaaDoor.Laid.LD.below HLD.out (by repeat (first | (with_reducible first | exact HB.out | apply below_alloc | apply pw_below_drewN | apply below_drew1) | exact HB.out)))) A44.out).mono ?_); rintro e w63 ⟨rfl, hb⟩; refine ⟨_, rfl, ?_⟩; have n0_ := Aside0.mk (Kd.V_below (by (with_reducible repeat (first | apply Kd.V_alloc | apply Kd.V_drewN | apply Kd.V_drew)); exact HO_0.out) hb); have n1_ := Aside0.mk (below_step (by repeat (first | (with_reducible first | exact HB.out | apply below_alloc | apply pw_below_drewN | apply below_drew1) | exact HB.out)) hb); clear HO_0; clear HB; have HO_0 := n0_; have HB := n1_; clear n0_ n1_; (try clear hb); (try clear hb2); (try clear hk); (try clear hi); have p178 : 0 ≤ (0 : Int) := (by omega); have q178 : 0 < (x0_2.length : Int) := of_decide_eq_true (by first | (with_reducible assumption) | assumption); obtain ⟨ad178, e178, hx178_0⟩ := Kd.at_int (Kd.V_reads' HO_0.out).2.2 0 p178 q178; obtain rfl : ad171 = ad178 := (by injection e178); have qi178 : (0 < x0_2.length) = True := eq_true (by omega); (try rw [show ((0 : Int)).toNat = 0 from rfl] at hx178_0); (try rw [Addr.add_zero'] at hx178_0); replace p178 := eq_true p178; replace q178 := eq_true q178) | ((with_reducible refine gate_callee (f := 14) rfl ?_); refine goesL_ (some 134) rfl rfl Tryd.func14 (by kernel_rfl) rfl #[.int .u32 (rd x0_2 0)] rfl (by (try simp only [List.map_toArray, List.map_cons, List.map_nil]); first | done | rfl | (simp only [List.length_drop, List.length_take]; rfl)) ?_; (with_reducible refine (cellarerref04_Text.calls kj31 (rd x0_2 0) t179 _ A45.out).mono ?_); rintro e w64 ⟨rfl, hb⟩; refine ⟨_, rfl, ?_⟩; have n0_ := Aside0.mk (Kd.V_below (by (with_reducible repeat (first | apply Kd.V_alloc | apply Kd.V_drewN | apply Kd.V_drew)); exact HO_0.out) hb); have n1_ := Aside0.mk (below_step (by repeat (first | (with_reducible first | exact HB.out | apply below_alloc | apply pw_below_drewN | apply below_drew1) | exact HB.out)) hb); clear HO_0; clear HB; have HO_0 := n0_; have HB := n1_; clear n0_ n1_; (try clear hb); (try clear hb2); (try clear hk); (try clear hi); have p180 : 0 ≤ (0 : Int) := (by omega); have q180 : 0 < (x0_2.length : Int) := of_decide_eq_true (by first | (with_reducible assumption) | assumption); obtain ⟨ad180, e180, hx180_0⟩ := Kd.at_int (Kd.V_reads' HO_0.out).2.2 0 p180 q180; obtain rfl : ad171 = ad180 := (by injection e180); have qi180 : (0 < x0_2.length) = True := eq_true (by omega); (try rw [show ((0 : Int)).toNat = 0 from rfl] at hx180_0); (try rw [Addr.add_zero'] at hx180_0); replace p180 := eq_true p180; replace q180 := eq_true q180) | (go_at_call 15; (with_reducible refine (cellarerref04_Many.calls kj31 _ _ x0_2 t181 _ ?side1 ?side2 A49.out).mono ?_); (case side1 => repeat (first | exact (Kd.V_reads' HO_0.out).2.2 | (with_reducible refine Kd.C_alloc ?_ _) | (with_reducible refine Kd.C_drewN ?_ _) | (with_reducible refine Kd.C_drew ?_))); (case side2 => exact (Kd.V_reads' HO_0.out).2.1); rintro e w65 ⟨rfl, hb⟩; have n0_ := Aside0.mk (Kd.V_below (by (with_reducible repeat (first | apply Kd.V_alloc | apply Kd.V_drewN | apply Kd.V_drew)); exact HO_0.out) hb); have n1_ := Aside0.mk (below_step (by repeat (first | (with_reducible first | exact HB.out | apply below_alloc | apply pw_below_drewN | apply below_drew1) | exact HB.out)) hb); clear HO_0; clear HB; have HO_0 := n0_; have HB := n1_; clear n0_ n1_; (try clear hb); (try clear hb2); (try clear hk); (try clear hi)))
                                  go_ret
                                  exact ⟨by first | rfl | (simp [errW_none, errW_some] <;> rfl) | (simp [*, errW_none, errW_some] <;> rfl), by repeat (first | (with_reducible first | exact HB.out | apply below_alloc | apply pw_below_drewN | apply below_drew1) | exact HB.out)⟩
                              · rw [if_neg c52] at H
                                have c52b0 : (t176 == (x0_2.length : Int)) = false := beq_eq_false_iff_ne.mpr c52
                                have c52b1 : (t176 != (x0_2.length : Int)) = true := bne_iff_ne.mpr c52
                                obtain rfl := Option.some.inj H
                                have p171 : 0 ≤ (0 : Int) := (by omega)
                                have q171 : 0 < (x0_2.length : Int) := of_decide_eq_true (by first | (with_reducible assumption) | assumption)
                                obtain ⟨ad171, e171, hx171_0⟩ := Kd.at_int (Kd.V_reads' HO_0.out).2.2 0 p171 q171
                                cases e171
                                have qi171 : (0 < x0_2.length) = True := eq_true (by omega)
                                (try rw [show ((0 : Int)).toNat = 0 from rfl] at hx171_0)
                                (try rw [Addr.add_zero'] at hx171_0)
                                replace p171 := eq_true p171
                                replace q171 := eq_true q171
                                go_wp2_with (first | ((with_reducible refine gate_callee (f := 6) rfl ?_); refine goesL_ (some 118) rfl rfl Tryd.func6 (by kernel_rfl) rfl #[.int .u32 (rd x0_2 0)] rfl (by (try simp only [List.map_toArray, List.map_cons, List.map_nil]); first | done | rfl | (simp only [List.length_drop, List.length_take]; rfl)) ?_; (with_reducible refine (tag_Text.calls (rd x0_2 0) t172 _ A42.out).mono ?_); rintro e w66 ⟨rfl, hb⟩; refine ⟨_, rfl, ?_⟩; have n0_ := Aside0.mk (Kd.V_below (by (with_reducible repeat (first | apply Kd.V_alloc | apply Kd.V_drewN | apply Kd.V_drew)); exact HO_0.out) hb); have n1_ := Aside0.mk (below_step (by repeat (first | (with_reducible first | exact HB.out | apply below_alloc | apply pw_below_drewN | apply below_drew1) | exact HB.out)) hb); clear HO_0; clear HB; have HO_0 := n0_; have HB := n1_; clear n0_ n1_; (try clear hb); (try clear hb2); (try clear hk); (try clear hi)) | ((with_reducible refine gate_callee (f := 7) rfl ?_); refine goesL_ (some 121) rfl rfl Tryd.func7 (by kernel_rfl) rfl #[.string t172] rfl (by (try simp only [List.map_toArray, List.map_cons, List.map_nil]); first | done | rfl | (simp only [List.length_drop, List.length_take]; rfl)) ?_; (with_reducible refine (tag_Parse.calls kj31 t172 t173 t174 _ A43.out).mono ?_); rintro e w67 ⟨rfl, hb⟩; refine ⟨_, rfl, ?_⟩; have n0_ := Aside0.mk (Kd.V_below (by (with_reducible repeat (first | apply Kd.V_alloc | apply Kd.V_drewN | apply Kd.V_drew)); exact HO_0.out) hb); have n1_ := Aside0.mk (below_step (by repeat (first | (with_reducible first | exact HB.out | apply below_alloc | apply pw_below_drewN | apply below_drew1) | exact HB.out)) hb); clear HO_0; clear HB; have HO_0 := n0_; have HB := n1_; clear n0_ n1_; (try clear hb); (try clear hb2); (try clear hk); (try clear hi)) | ((with_reducible refine gate_callee (f := 8) rfl ?_); refine goesL_ (some 126) rfl rfl Tryd.func8 (by kernel_rfl) rfl #[.string t168] rfl (by (try simp only [List.map_toArray, List.map_cons, List.map_nil]); first | done | rfl | (simp only [List.length_drop, List.length_take]; rfl)) ?_; (with_reducible refine (tag_Read.calls kj31 t168 t175 t176 t177 _ (Aside0.mk (Go.Proofs.YtmlnkdknpogknaaDoor.Laid.LD.below HLD.out (by repeat (first | (with_reducible first | exact HB.out | apply below_alloc | apply pw_below_drewN | apply below_drew1) | exact HB.out)))) A44.out).mono ?_); rintro e w68 ⟨rfl, hb⟩; refine ⟨_, rfl, ?_⟩; have n0_ := Aside0.mk (Kd.V_below (by (with_reducible repeat (first | apply Kd.V_alloc | apply Kd.V_drewN | apply Kd.V_drew)); exact HO_0.out) hb); have n1_ := Aside0.mk (below_step (by repeat (first | (with_reducible first | exact HB.out | apply below_alloc | apply pw_below_drewN | apply below_drew1) | exact HB.out)) hb); clear HO_0; clear HB; have HO_0 := n0_; have HB := n1_; clear n0_ n1_; (try clear hb); (try clear hb2); (try clear hk); (try clear hi); have p178 : 0 ≤ (0 : Int) := (by omega); have q178 : 0 < (x0_2.length : Int) := of_decide_eq_true (by first | (with_reducible assumption) | assumption); obtain ⟨ad178, e178, hx178_0⟩ := Kd.at_int (Kd.V_reads' HO_0.out).2.2 0 p178 q178; obtain rfl : ad171 = ad178 := (by injection e178); have qi178 : (0 < x0_2.length) = True := eq_true (by omega); (try rw [show ((0 : Int)).toNat = 0 from rfl] at hx178_0); (try rw [Addr.add_zero'] at hx178_0); replace p178 := eq_true p178; replace q178 := eq_true q178) | ((with_reducible refine gate_callee (f := 14) rfl ?_); refine goesL_ (some 134) rfl rfl Tryd.func14 (by kernel_rfl) rfl #[.int .u32 (rd x0_2 0)] rfl (by (try simp only [List.map_toArray, List.map_cons, List.map_nil]); first | done | rfl | (simp only [List.length_drop, List.length_take]; rfl)) ?_; (with_reducible refine (cellarerref04_Text.calls kj31 (rd x0_2 0) t179 _ A45.out).mono ?_); rintro e w69 ⟨rfl, hb⟩; refine ⟨_, rfl, ?_⟩; have n0_ := Aside0.mk (Kd.V_below (by (with_reducible repeat (first | apply Kd.V_alloc | apply Kd.V_drewN | apply Kd.V_drew)); exact HO_0.out) hb); have n1_ := Aside0.mk (below_step (by repeat (first | (with_reducible first | exact HB.out | apply below_alloc | apply pw_below_drewN | apply below_drew1) | exact HB.out)) hb); clear HO_0; clear HB; have HO_0 := n0_; have HB := n1_; clear n0_ n1_; (try clear hb); (try clear hb2); (try clear hk); (try clear hi); have p180 : 0 ≤ (0 : Int) := (by omega); have q180 : 0 < (x0_2.length : Int) := of_decide_eq_true (by first | (with_reducible assumption) | assumption); obtain ⟨ad180, e180, hx180_0⟩ := Kd.at_int (Kd.V_reads' HO_0.out).2.2 0 p180 q180; obtain rfl : ad171 = ad180 := (by injection e180); have qi180 : (0 < x0_2.length) = True := eq_true (by omega); (try rw [show ((0 : Int)).toNat = 0 from rfl] at hx180_0); (try rw [Addr.add_zero'] at hx180_0); replace p180 := eq_true p180; replace q180 := eq_true q180) | (go_at_call 15; (with_reducible refine (cellarerref04_Many.calls kj31 _ _ x0_2 t181 _ ?side1 ?side2 A49.out).mono ?_); (case side1 => repeat (first | exact (Kd.V_reads' HO_0.out).2.2 | (with_reducible refine Kd.C_alloc ?_ _) | (with_reducible refine Kd.C_drewN ?_ _) | (with_reducible refine Kd.C_drew ?_))); (case side2 => exact (Kd.V_reads' HO_0.out).2.1); rintro e w70 ⟨rfl, hb⟩; have n0_ := Aside0.mk (Kd.V_below (by (with_reducible repeat (first | apply Kd.V_alloc | apply Kd.V_drewN | apply Kd.V_drew)); exact HO_0.out) hb); have n1_ := Aside0.mk (below_step (by repeat (first | (with_reducible first | exact HB.out | apply below_alloc | apply pw_below_drewN | apply below_drew1) | exact HB.out)) hb); clear HO_0; clear HB; have HO_0 := n0_; have HB := n1_; clear n0_ n1_; (try clear hb); (try clear hb2); (try clear hk); (try clear hi)))
                                go_ret
                                exact ⟨by first | rfl | (simp [errW_none, errW_some] <;> rfl) | (simp [*, errW_none, errW_some] <;> rfl), by repeat (first | (with_reducible first | exact HB.out | apply below_alloc | apply pw_below_drewN | apply below_drew1) | exact HB.out)⟩
                            · rw [if_neg c51] at H
                              have c51b0 : (t169 == 0) = false := beq_eq_false_iff_ne.mpr c51
                              have c51b1 : (t169 != 0) = true := bne_iff_ne.mpr c51
                              obtain rfl := Option.some.inj H
                              have p171 : 0 ≤ (0 : Int) := (by omega)
                              have q171 : 0 < (x0_2.length : Int) := of_decide_eq_true (by first | (with_reducible assumption) | assumption)
                              obtain ⟨ad171, e171, hx171_0⟩ := Kd.at_int (Kd.V_reads' HO_0.out).2.2 0 p171 q171
                              cases e171
                              have qi171 : (0 < x0_2.length) = True := eq_true (by omega)
                              (try rw [show ((0 : Int)).toNat = 0 from rfl] at hx171_0)
                              (try rw [Addr.add_zero'] at hx171_0)
                              replace p171 := eq_true p171
                              replace q171 := eq_true q171
                              go_wp2_with (first | ((with_reducible refine gate_callee (f := 6) rfl ?_); refine goesL_ (some 118) rfl rfl Tryd.func6 (by kernel_rfl) rfl #[.int .u32 (rd x0_2 0)] rfl (by (try simp only [List.map_toArray, List.map_cons, List.map_nil]); first | done | rfl | (simp only [List.length_drop, List.length_take]; rfl)) ?_; (with_reducible refine (tag_Text.calls (rd x0_2 0) t172 _ A42.out).mono ?_); rintro e w71 ⟨rfl, hb⟩; refine ⟨_, rfl, ?_⟩; have n0_ := Aside0.mk (Kd.V_below (by (with_reducible repeat (first | apply Kd.V_alloc | apply Kd.V_drewN | apply Kd.V_drew)); exact HO_0.out) hb); have n1_ := Aside0.mk (below_step (by repeat (first | (with_reducible first | exact HB.out | apply below_alloc | apply pw_below_drewN | apply below_drew1) | exact HB.out)) hb); clear HO_0; clear HB; have HO_0 := n0_; have HB := n1_; clear n0_ n1_; (try clear hb); (try clear hb2); (try clear hk); (try clear hi)) | ((with_reducible refine gate_callee (f := 7) rfl ?_); refine goesL_ (some 121) rfl rfl Tryd.func7 (by kernel_rfl) rfl #[.string t172] rfl (by (try simp only [List.map_toArray, List.map_cons, List.map_nil]); first | done | rfl | (simp only [List.length_drop, List.length_take]; rfl)) ?_; (with_reducible refine (tag_Parse.calls kj31 t172 t173 t174 _ A43.out).mono ?_); rintro e w72 ⟨rfl, hb⟩; refine ⟨_, rfl, ?_⟩; have n0_ := Aside0.mk (Kd.V_below (by (with_reducible repeat (first | apply Kd.V_alloc | apply Kd.V_drewN | apply Kd.V_drew)); exact HO_0.out) hb); have n1_ := Aside0.mk (below_step (by repeat (first | (with_reducible first | exact HB.out | apply below_alloc | apply pw_below_drewN | apply below_drew1) | exact HB.out)) hb); clear HO_0; clear HB; have HO_0 := n0_; have HB := n1_; clear n0_ n1_; (try clear hb); (try clear hb2); (try clear hk); (try clear hi)) | ((with_reducible refine gate_callee (f := 8) rfl ?_); refine goesL_ (some 126) rfl rfl Tryd.func8 (by kernel_rfl) rfl #[.string t168] rfl (by (try simp only [List.map_toArray, List.map_cons, List.map_nil]); first | done | rfl | (simp only [List.length_drop, List.length_take]; rfl)) ?_; (with_reducible refine (tag_Read.calls kj31 t168 t175 t176 t177 _ (Aside0.mk (Go.Proofs.YtmlnkdknpogknaaDoor.Laid.LD.below HLD.out (by repeat (first | (with_reducible first | exact HB.out | apply below_alloc | apply pw_below_drewN | apply below_drew1) | exact HB.out)))) A44.out).mono ?_); rintro e w73 ⟨rfl, hb⟩; refine ⟨_, rfl, ?_⟩; have n0_ := Aside0.mk (Kd.V_below (by (with_reducible repeat (first | apply Kd.V_alloc | apply Kd.V_drewN | apply Kd.V_drew)); exact HO_0.out) hb); have n1_ := Aside0.mk (below_step (by repeat (first | (with_reducible first | exact HB.out | apply below_alloc | apply pw_below_drewN | apply below_drew1) | exact HB.out)) hb); clear HO_0; clear HB; have HO_0 := n0_; have HB := n1_; clear n0_ n1_; (try clear hb); (try clear hb2); (try clear hk); (try clear hi); have p178 : 0 ≤ (0 : Int) := (by omega); have q178 : 0 < (x0_2.length : Int) := of_decide_eq_true (by first | (with_reducible assumption) | assumption); obtain ⟨ad178, e178, hx178_0⟩ := Kd.at_int (Kd.V_reads' HO_0.out).2.2 0 p178 q178; obtain rfl : ad171 = ad178 := (by injection e178); have qi178 : (0 < x0_2.length) = True := eq_true (by omega); (try rw [show ((0 : Int)).toNat = 0 from rfl] at hx178_0); (try rw [Addr.add_zero'] at hx178_0); replace p178 := eq_true p178; replace q178 := eq_true q178) | ((with_reducible refine gate_callee (f := 14) rfl ?_); refine goesL_ (some 134) rfl rfl Tryd.func14 (by kernel_rfl) rfl #[.int .u32 (rd x0_2 0)] rfl (by (try simp only [List.map_toArray, List.map_cons, List.map_nil]); first | done | rfl | (simp only [List.length_drop, List.length_take]; rfl)) ?_; (with_reducible refine (cellarerref04_Text.calls kj31 (rd x0_2 0) t179 _ A45.out).mono ?_); rintro e w74 ⟨rfl, hb⟩; refine ⟨_, rfl, ?_⟩; have n0_ := Aside0.mk (Kd.V_below (by (with_reducible repeat (first | apply Kd.V_alloc | apply Kd.V_drewN | apply Kd.V_drew)); exact HO_0.out) hb); have n1_ := Aside0.mk (below_step (by repeat (first | (with_reducible first | exact HB.out | apply below_alloc | apply pw_below_drewN | apply below_drew1) | exact HB.out)) hb); clear HO_0; clear HB; have HO_0 := n0_; have HB := n1_; clear n0_ n1_; (try clear hb); (try clear hb2); (try clear hk); (try clear hi); have p180 : 0 ≤ (0 : Int) := (by omega); have q180 : 0 < (x0_2.length : Int) := of_decide_eq_true (by first | (with_reducible assumption) | assumption); obtain ⟨ad180, e180, hx180_0⟩ := Kd.at_int (Kd.V_reads' HO_0.out).2.2 0 p180 q180; obtain rfl : ad171 = ad180 := (by injection e180); have qi180 : (0 < x0_2.length) = True := eq_true (by omega); (try rw [show ((0 : Int)).toNat = 0 from rfl] at hx180_0); (try rw [Addr.add_zero'] at hx180_0); replace p180 := eq_true p180; replace q180 := eq_true q180) | (go_at_call 15; (with_reducible refine (cellarerref04_Many.calls kj31 _ _ x0_2 t181 _ ?side1 ?side2 A49.out).mono ?_); (case side1 => repeat (first | exact (Kd.V_reads' HO_0.out).2.2 | (with_reducible refine Kd.C_alloc ?_ _) | (with_reducible refine Kd.C_drewN ?_ _) | (with_reducible refine Kd.C_drew ?_))); (case side2 => exact (Kd.V_reads' HO_0.out).2.1); rintro e w75 ⟨rfl, hb⟩; have n0_ := Aside0.mk (Kd.V_below (by (with_reducible repeat (first | apply Kd.V_alloc | apply Kd.V_drewN | apply Kd.V_drew)); exact HO_0.out) hb); have n1_ := Aside0.mk (below_step (by repeat (first | (with_reducible first | exact HB.out | apply below_alloc | apply pw_below_drewN | apply below_drew1) | exact HB.out)) hb); clear HO_0; clear HB; have HO_0 := n0_; have HB := n1_; clear n0_ n1_; (try clear hb); (try clear hb2); (try clear hk); (try clear hi)))
                              go_ret
                              exact ⟨by first | rfl | (simp [errW_none, errW_some] <;> rfl) | (simp [*, errW_none, errW_some] <;> rfl), by repeat (first | (with_reducible first | exact HB.out | apply below_alloc | apply pw_below_drewN | apply below_drew1) | exact HB.out)⟩
                          · rw [if_neg c50] at H
                            have c50b0 : (t168.toList == t181.toList) = false := beq_eq_false_iff_ne.mpr c50
                            have c50b1 : (t168.toList != t181.toList) = true := bne_iff_ne.mpr c50
                            obtain rfl := Option.some.inj H
                            have p171 : 0 ≤ (0 : Int) := (by omega)
                            have q171 : 0 < (x0_2.length : Int) := of_decide_eq_true (by first | (with_reducible assumption) | assumption)
                            obtain ⟨ad171, e171, hx171_0⟩ := Kd.at_int (Kd.V_reads' HO_0.out).2.2 0 p171 q171
                            cases e171
                            have qi171 : (0 < x0_2.length) = True := eq_true (by omega)
                            (try rw [show ((0 : Int)).toNat = 0 from rfl] at hx171_0)
                            (try rw [Addr.add_zero'] at hx171_0)
                            replace p171 := eq_true p171
                            replace q171 := eq_true q171
                            go_wp2_with (first | ((with_reducible refine gate_callee (f := 6) rfl ?_); refine goesL_ (some 118) rfl rfl Tryd.func6 (by kernel_rfl) rfl #[.int .u32 (rd x0_2 0)] rfl (by (try simp only [List.map_toArray, List.map_cons, List.map_nil]); first | done | rfl | (simp only [List.length_drop, List.length_take]; rfl)) ?_; (with_reducible refine (tag_Text.calls (rd x0_2 0) t172 _ A42.out).mono ?_); rintro e w76 ⟨rfl, hb⟩; refine ⟨_, rfl, ?_⟩; have n0_ := Aside0.mk (Kd.V_below (by (with_reducible repeat (first | apply Kd.V_alloc | apply Kd.V_drewN | apply Kd.V_drew)); exact HO_0.out) hb); have n1_ := Aside0.mk (below_step (by repeat (first | (with_reducible first | exact HB.out | apply below_alloc | apply pw_below_drewN | apply below_drew1) | exact HB.out)) hb); clear HO_0; clear HB; have HO_0 := n0_; have HB := n1_; clear n0_ n1_; (try clear hb); (try clear hb2); (try clear hk); (try clear hi)) | ((with_reducible refine gate_callee (f := 7) rfl ?_); refine goesL_ (some 121) rfl rfl Tryd.func7 (by kernel_rfl) rfl #[.string t172] rfl (by (try simp only [List.map_toArray, List.map_cons, List.map_nil]); first | done | rfl | (simp only [List.length_drop, List.length_take]; rfl)) ?_; (with_reducible refine (tag_Parse.calls kj31 t172 t173 t174 _ A43.out).mono ?_); rintro e w77 ⟨rfl, hb⟩; refine ⟨_, rfl, ?_⟩; have n0_ := Aside0.mk (Kd.V_below (by (with_reducible repeat (first | apply Kd.V_alloc | apply Kd.V_drewN | apply Kd.V_drew)); exact HO_0.out) hb); have n1_ := Aside0.mk (below_step (by repeat (first | (with_reducible first | exact HB.out | apply below_alloc | apply pw_below_drewN | apply below_drew1) | exact HB.out)) hb); clear HO_0; clear HB; have HO_0 := n0_; have HB := n1_; clear n0_ n1_; (try clear hb); (try clear hb2); (try clear hk); (try clear hi)) | ((with_reducible refine gate_callee (f := 8) rfl ?_); refine goesL_ (some 126) rfl rfl Tryd.func8 (by kernel_rfl) rfl #[.string t168] rfl (by (try simp only [List.map_toArray, List.map_cons, List.map_nil]); first | done | rfl | (simp only [List.length_drop, List.length_take]; rfl)) ?_; (with_reducible refine (tag_Read.calls kj31 t168 t175 t176 t177 _ (Aside0.mk (Go.Proofs.YtmlnkdknpogknaaDoor.Laid.LD.below HLD.out (by repeat (first | (with_reducible first | exact HB.out | apply below_alloc | apply pw_below_drewN | apply below_drew1) | exact HB.out)))) A44.out).mono ?_); rintro e w78 ⟨rfl, hb⟩; refine ⟨_, rfl, ?_⟩; have n0_ := Aside0.mk (Kd.V_below (by (with_reducible repeat (first | apply Kd.V_alloc | apply Kd.V_drewN | apply Kd.V_drew)); exact HO_0.out) hb); have n1_ := Aside0.mk (below_step (by repeat (first | (with_reducible first | exact HB.out | apply below_alloc | apply pw_below_drewN | apply below_drew1) | exact HB.out)) hb); clear HO_0; clear HB; have HO_0 := n0_; have HB := n1_; clear n0_ n1_; (try clear hb); (try clear hb2); (try clear hk); (try clear hi); have p178 : 0 ≤ (0 : Int) := (by omega); have q178 : 0 < (x0_2.length : Int) := of_decide_eq_true (by first | (with_reducible assumption) | assumption); obtain ⟨ad178, e178, hx178_0⟩ := Kd.at_int (Kd.V_reads' HO_0.out).2.2 0 p178 q178; obtain rfl : ad171 = ad178 := (by injection e178); have qi178 : (0 < x0_2.length) = True := eq_true (by omega); (try rw [show ((0 : Int)).toNat = 0 from rfl] at hx178_0); (try rw [Addr.add_zero'] at hx178_0); replace p178 := eq_true p178; replace q178 := eq_true q178) | ((with_reducible refine gate_callee (f := 14) rfl ?_); refine goesL_ (some 134) rfl rfl Tryd.func14 (by kernel_rfl) rfl #[.int .u32 (rd x0_2 0)] rfl (by (try simp only [List.map_toArray, List.map_cons, List.map_nil]); first | done | rfl | (simp only [List.length_drop, List.length_take]; rfl)) ?_; (with_reducible refine (cellarerref04_Text.calls kj31 (rd x0_2 0) t179 _ A45.out).mono ?_); rintro e w79 ⟨rfl, hb⟩; refine ⟨_, rfl, ?_⟩; have n0_ := Aside0.mk (Kd.V_below (by (with_reducible repeat (first | apply Kd.V_alloc | apply Kd.V_drewN | apply Kd.V_drew)); exact HO_0.out) hb); have n1_ := Aside0.mk (below_step (by repeat (first | (with_reducible first | exact HB.out | apply below_alloc | apply pw_below_drewN | apply below_drew1) | exact HB.out)) hb); clear HO_0; clear HB; have HO_0 := n0_; have HB := n1_; clear n0_ n1_; (try clear hb); (try clear hb2); (try clear hk); (try clear hi); have p180 : 0 ≤ (0 : Int) := (by omega); have q180 : 0 < (x0_2.length : Int) := of_decide_eq_true (by first | (with_reducible assumption) | assumption); obtain ⟨ad180, e180, hx180_0⟩ := Kd.at_int (Kd.V_reads' HO_0.out).2.2 0 p180 q180; obtain rfl : ad171 = ad180 := (by injection e180); have qi180 : (0 < x0_2.length) = True := eq_true (by omega); (try rw [show ((0 : Int)).toNat = 0 from rfl] at hx180_0); (try rw [Addr.add_zero'] at hx180_0); replace p180 := eq_true p180; replace q180 := eq_true q180) | (go_at_call 15; (with_reducible refine (cellarerref04_Many.calls kj31 _ _ x0_2 t181 _ ?side1 ?side2 A49.out).mono ?_); (case side1 => repeat (first | exact (Kd.V_reads' HO_0.out).2.2 | (with_reducible refine Kd.C_alloc ?_ _) | (with_reducible refine Kd.C_drewN ?_ _) | (with_reducible refine Kd.C_drew ?_))); (case side2 => exact (Kd.V_reads' HO_0.out).2.1); rintro e w80 ⟨rfl, hb⟩; have n0_ := Aside0.mk (Kd.V_below (by (with_reducible repeat (first | apply Kd.V_alloc | apply Kd.V_drewN | apply Kd.V_drew)); exact HO_0.out) hb); have n1_ := Aside0.mk (below_step (by repeat (first | (with_reducible first | exact HB.out | apply below_alloc | apply pw_below_drewN | apply below_drew1) | exact HB.out)) hb); clear HO_0; clear HB; have HO_0 := n0_; have HB := n1_; clear n0_ n1_; (try clear hb); (try clear hb2); (try clear hk); (try clear hi)))
                            go_ret
                            exact ⟨by first | rfl | (simp [errW_none, errW_some] <;> rfl) | (simp [*, errW_none, errW_some] <;> rfl), by repeat (first | (with_reducible first | exact HB.out | apply below_alloc | apply pw_below_drewN | apply below_drew1) | exact HB.out)⟩
                        · rw [if_neg c48] at H
                          have c48b0 : (t174 == 0) = false := beq_eq_false_iff_ne.mpr c48
                          have c48b1 : (t174 != 0) = true := bne_iff_ne.mpr c48
                          obtain rfl := Option.some.inj H
                          have p171 : 0 ≤ (0 : Int) := (by omega)
                          have q171 : 0 < (x0_2.length : Int) := of_decide_eq_true (by first | (with_reducible assumption) | assumption)
                          obtain ⟨ad171, e171, hx171_0⟩ := Kd.at_int (Kd.V_reads' HO_0.out).2.2 0 p171 q171
                          cases e171
                          have qi171 : (0 < x0_2.length) = True := eq_true (by omega)
                          (try rw [show ((0 : Int)).toNat = 0 from rfl] at hx171_0)
                          (try rw [Addr.add_zero'] at hx171_0)
                          replace p171 := eq_true p171
                          replace q171 := eq_true q171
                          go_wp2_with (first | ((with_reducible refine gate_callee (f := 6) rfl ?_); refine goesL_ (some 118) rfl rfl Tryd.func6 (by kernel_rfl) rfl #[.int .u32 (rd x0_2 0)] rfl (by (try simp only [List.map_toArray, List.map_cons, List.map_nil]); first | done | rfl | (simp only [List.length_drop, List.length_take]; rfl)) ?_; (with_reducible refine (tag_Text.calls (rd x0_2 0) t172 _ A42.out).mono ?_); rintro e w81 ⟨rfl, hb⟩; refine ⟨_, rfl, ?_⟩; have n0_ := Aside0.mk (Kd.V_below (by (with_reducible repeat (first | apply Kd.V_alloc | apply Kd.V_drewN | apply Kd.V_drew)); exact HO_0.out) hb); have n1_ := Aside0.mk (below_step (by repeat (first | (with_reducible first | exact HB.out | apply below_alloc | apply pw_below_drewN | apply below_drew1) | exact HB.out)) hb); clear HO_0; clear HB; have HO_0 := n0_; have HB := n1_; clear n0_ n1_; (try clear hb); (try clear hb2); (try clear hk); (try clear hi)) | ((with_reducible refine gate_callee (f := 7) rfl ?_); refine goesL_ (some 121) rfl rfl Tryd.func7 (by kernel_rfl) rfl #[.string t172] rfl (by (try simp only [List.map_toArray, List.map_cons, List.map_nil]); first | done | rfl | (simp only [List.length_drop, List.length_take]; rfl)) ?_; (with_reducible refine (tag_Parse.calls kj31 t172 t173 t174 _ A43.out).mono ?_); rintro e w82 ⟨rfl, hb⟩; refine ⟨_, rfl, ?_⟩; have n0_ := Aside0.mk (Kd.V_below (by (with_reducible repeat (first | apply Kd.V_alloc | apply Kd.V_drewN | apply Kd.V_drew)); exact HO_0.out) hb); have n1_ := Aside0.mk (below_step (by repeat (first | (with_reducible first | exact HB.out | apply below_alloc | apply pw_below_drewN | apply below_drew1) | exact HB.out)) hb); clear HO_0; clear HB; have HO_0 := n0_; have HB := n1_; clear n0_ n1_; (try clear hb); (try clear hb2); (try clear hk); (try clear hi)) | ((with_reducible refine gate_callee (f := 8) rfl ?_); refine goesL_ (some 126) rfl rfl Tryd.func8 (by kernel_rfl) rfl #[.string t168] rfl (by (try simp only [List.map_toArray, List.map_cons, List.map_nil]); first | done | rfl | (simp only [List.length_drop, List.length_take]; rfl)) ?_; (with_reducible refine (tag_Read.calls kj31 t168 t175 t176 t177 _ (Aside0.mk (Go.Proofs.YtmlnkdknpogknaaDoor.Laid.LD.below HLD.out (by repeat (first | (with_reducible first | exact HB.out | apply below_alloc | apply pw_below_drewN | apply below_drew1) | exact HB.out)))) A44.out).mono ?_); rintro e w83 ⟨rfl, hb⟩; refine ⟨_, rfl, ?_⟩; have n0_ := Aside0.mk (Kd.V_below (by (with_reducible repeat (first | apply Kd.V_alloc | apply Kd.V_drewN | apply Kd.V_drew)); exact HO_0.out) hb); have n1_ := Aside0.mk (below_step (by repeat (first | (with_reducible first | exact HB.out | apply below_alloc | apply pw_below_drewN | apply below_drew1) | exact HB.out)) hb); clear HO_0; clear HB; have HO_0 := n0_; have HB := n1_; clear n0_ n1_; (try clear hb); (try clear hb2); (try clear hk); (try clear hi); have p178 : 0 ≤ (0 : Int) := (by omega); have q178 : 0 < (x0_2.length : Int) := of_decide_eq_true (by first | (with_reducible assumption) | assumption); obtain ⟨ad178, e178, hx178_0⟩ := Kd.at_int (Kd.V_reads' HO_0.out).2.2 0 p178 q178; obtain rfl : ad171 = ad178 := (by injection e178); have qi178 : (0 < x0_2.length) = True := eq_true (by omega); (try rw [show ((0 : Int)).toNat = 0 from rfl] at hx178_0); (try rw [Addr.add_zero'] at hx178_0); replace p178 := eq_true p178; replace q178 := eq_true q178) | ((with_reducible refine gate_callee (f := 14) rfl ?_); refine goesL_ (some 134) rfl rfl Tryd.func14 (by kernel_rfl) rfl #[.int .u32 (rd x0_2 0)] rfl (by (try simp only [List.map_toArray, List.map_cons, List.map_nil]); first | done | rfl | (simp only [List.length_drop, List.length_take]; rfl)) ?_; (with_reducible refine (cellarerref04_Text.calls kj31 (rd x0_2 0) t179 _ A45.out).mono ?_); rintro e w84 ⟨rfl, hb⟩; refine ⟨_, rfl, ?_⟩; have n0_ := Aside0.mk (Kd.V_below (by (with_reducible repeat (first | apply Kd.V_alloc | apply Kd.V_drewN | apply Kd.V_drew)); exact HO_0.out) hb); have n1_ := Aside0.mk (below_step (by repeat (first | (with_reducible first | exact HB.out | apply below_alloc | apply pw_below_drewN | apply below_drew1) | exact HB.out)) hb); clear HO_0; clear HB; have HO_0 := n0_; have HB := n1_; clear n0_ n1_; (try clear hb); (try clear hb2); (try clear hk); (try clear hi); have p180 : 0 ≤ (0 : Int) := (by omega); have q180 : 0 < (x0_2.length : Int) := of_decide_eq_true (by first | (with_reducible assumption) | assumption); obtain ⟨ad180, e180, hx180_0⟩ := Kd.at_int (Kd.V_reads' HO_0.out).2.2 0 p180 q180; obtain rfl : ad171 = ad180 := (by injection e180); have qi180 : (0 < x0_2.length) = True := eq_true (by omega); (try rw [show ((0 : Int)).toNat = 0 from rfl] at hx180_0); (try rw [Addr.add_zero'] at hx180_0); replace p180 := eq_true p180; replace q180 := eq_true q180))
                          go_ret
                          exact ⟨by first | rfl | (simp [errW_none, errW_some] <;> rfl) | (simp [*, errW_none, errW_some] <;> rfl), by repeat (first | (with_reducible first | exact HB.out | apply below_alloc | apply pw_below_drewN | apply below_drew1) | exact HB.out)⟩
                      · rw [if_neg c47] at H
                        have c47b0 : (t173 == (rd x0_2 0)) = false := beq_eq_false_iff_ne.mpr c47
                        have c47b1 : (t173 != (rd x0_2 0)) = true := bne_iff_ne.mpr c47
                        obtain rfl := Option.some.inj H
                        have p171 : 0 ≤ (0 : Int) := (by omega)
                        have q171 : 0 < (x0_2.length : Int) := of_decide_eq_true (by first | (with_reducible assumption) | assumption)
                        obtain ⟨ad171, e171, hx171_0⟩ := Kd.at_int (Kd.V_reads' HO_0.out).2.2 0 p171 q171
                        cases e171
                        have qi171 : (0 < x0_2.length) = True := eq_true (by omega)
                        (try rw [show ((0 : Int)).toNat = 0 from rfl] at hx171_0)
                        (try rw [Addr.add_zero'] at hx171_0)
                        replace p171 := eq_true p171
                        replace q171 := eq_true q171
                        go_wp2_with (first | ((with_reducible refine gate_callee (f := 6) rfl ?_); refine goesL_ (some 118) rfl rfl Tryd.func6 (by kernel_rfl) rfl #[.int .u32 (rd x0_2 0)] rfl (by (try simp only [List.map_toArray, List.map_cons, List.map_nil]); first | done | rfl | (simp only [List.length_drop, List.length_take]; rfl)) ?_; (with_reducible refine (tag_Text.calls (rd x0_2 0) t172 _ A42.out).mono ?_); rintro e w85 ⟨rfl, hb⟩; refine ⟨_, rfl, ?_⟩; have n0_ := Aside0.mk (Kd.V_below (by (with_reducible repeat (first | apply Kd.V_alloc | apply Kd.V_drewN | apply Kd.V_drew)); exact HO_0.out) hb); have n1_ := Aside0.mk (below_step (by repeat (first | (with_reducible first | exact HB.out | apply below_alloc | apply pw_below_drewN | apply below_drew1) | exact HB.out)) hb); clear HO_0; clear HB; have HO_0 := n0_; have HB := n1_; clear n0_ n1_; (try clear hb); (try clear hb2); (try clear hk); (try clear hi)) | ((with_reducible refine gate_callee (f := 7) rfl ?_); refine goesL_ (some 121) rfl rfl Tryd.func7 (by kernel_rfl) rfl #[.string t172] rfl (by (try simp only [List.map_toArray, List.map_cons, List.map_nil]); first | done | rfl | (simp only [List.length_drop, List.length_take]; rfl)) ?_; (with_reducible refine (tag_Parse.calls kj31 t172 t173 t174 _ A43.out).mono ?_); rintro e w86 ⟨rfl, hb⟩; refine ⟨_, rfl, ?_⟩; have n0_ := Aside0.mk (Kd.V_below (by (with_reducible repeat (first | apply Kd.V_alloc | apply Kd.V_drewN | apply Kd.V_drew)); exact HO_0.out) hb); have n1_ := Aside0.mk (below_step (by repeat (first | (with_reducible first | exact HB.out | apply below_alloc | apply pw_below_drewN | apply below_drew1) | exact HB.out)) hb); clear HO_0; clear HB; have HO_0 := n0_; have HB := n1_; clear n0_ n1_; (try clear hb); (try clear hb2); (try clear hk); (try clear hi)) | ((with_reducible refine gate_callee (f := 8) rfl ?_); refine goesL_ (some 126) rfl rfl Tryd.func8 (by kernel_rfl) rfl #[.string t168] rfl (by (try simp only [List.map_toArray, List.map_cons, List.map_nil]); first | done | rfl | (simp only [List.length_drop, List.length_take]; rfl)) ?_; (with_reducible refine (tag_Read.calls kj31 t168 t175 t176 t177 _ (Aside0.mk (Go.Proofs.YtmlnkdknpogknaaDoor.Laid.LD.below HLD.out (by repeat (first | (with_reducible first | exact HB.out | apply below_alloc | apply pw_below_drewN | apply below_drew1) | exact HB.out)))) A44.out).mono ?_); rintro e w87 ⟨rfl, hb⟩; refine ⟨_, rfl, ?_⟩; have n0_ := Aside0.mk (Kd.V_below (by (with_reducible repeat (first | apply Kd.V_alloc | apply Kd.V_drewN | apply Kd.V_drew)); exact HO_0.out) hb); have n1_ := Aside0.mk (below_step (by repeat (first | (with_reducible first | exact HB.out | apply below_alloc | apply pw_below_drewN | apply below_drew1) | exact HB.out)) hb); clear HO_0; clear HB; have HO_0 := n0_; have HB := n1_; clear n0_ n1_; (try clear hb); (try clear hb2); (try clear hk); (try clear hi); have p178 : 0 ≤ (0 : Int) := (by omega); have q178 : 0 < (x0_2.length : Int) := of_decide_eq_true (by first | (with_reducible assumption) | assumption); obtain ⟨ad178, e178, hx178_0⟩ := Kd.at_int (Kd.V_reads' HO_0.out).2.2 0 p178 q178; obtain rfl : ad171 = ad178 := (by injection e178); have qi178 : (0 < x0_2.length) = True := eq_true (by omega); (try rw [show ((0 : Int)).toNat = 0 from rfl] at hx178_0); (try rw [Addr.add_zero'] at hx178_0); replace p178 := eq_true p178; replace q178 := eq_true q178) | ((with_reducible refine gate_callee (f := 14) rfl ?_); refine goesL_ (some 134) rfl rfl Tryd.func14 (by kernel_rfl) rfl #[.int .u32 (rd x0_2 0)] rfl (by (try simp only [List.map_toArray, List.map_cons, List.map_nil]); first | done | rfl | (simp only [List.length_drop, List.length_take]; rfl)) ?_; (with_reducible refine (cellarerref04_Text.calls kj31 (rd x0_2 0) t179 _ A45.out).mono ?_); rintro e w88 ⟨rfl, hb⟩; refine ⟨_, rfl, ?_⟩; have n0_ := Aside0.mk (Kd.V_below (by (with_reducible repeat (first | apply Kd.V_alloc | apply Kd.V_drewN | apply Kd.V_drew)); exact HO_0.out) hb); have n1_ := Aside0.mk (below_step (by repeat (first | (with_reducible first | exact HB.out | apply below_alloc | apply pw_below_drewN | apply below_drew1) | exact HB.out)) hb); clear HO_0; clear HB; have HO_0 := n0_; have HB := n1_; clear n0_ n1_; (try clear hb); (try clear hb2); (try clear hk); (try clear hi); have p180 : 0 ≤ (0 : Int) := (by omega); have q180 : 0 < (x0_2.length : Int) := of_decide_eq_true (by first | (with_reducible assumption) | assumption); obtain ⟨ad180, e180, hx180_0⟩ := Kd.at_int (Kd.V_reads' HO_0.out).2.2 0 p180 q180; obtain rfl : ad171 = ad180 := (by injection e180); have qi180 : (0 < x0_2.length) = True := eq_true (by omega); (try rw [show ((0 : Int)).toNat = 0 from rfl] at hx180_0); (try rw [Addr.add_zero'] at hx180_0); replace p180 := eq_true p180; replace q180 := eq_true q180))
                        go_ret
                        exact ⟨by first | rfl | (simp [errW_none, errW_some] <;> rfl) | (simp [*, errW_none, errW_some] <;> rfl), by repeat (first | (with_reducible first | exact HB.out | apply below_alloc | apply pw_below_drewN | apply below_drew1) | exact HB.out)⟩
                    · rw [if_neg c46] at H
                      have c46b0 : (t172.toList == t179.toList) = false := beq_eq_false_iff_ne.mpr c46
                      have c46b1 : (t172.toList != t179.toList) = true := bne_iff_ne.mpr c46
                      obtain rfl := Option.some.inj H
                      have p171 : 0 ≤ (0 : Int) := (by omega)
                      have q171 : 0 < (x0_2.length : Int) := of_decide_eq_true (by first | (with_reducible assumption) | assumption)
                      obtain ⟨ad171, e171, hx171_0⟩ := Kd.at_int (Kd.V_reads' HO_0.out).2.2 0 p171 q171
                      cases e171
                      have qi171 : (0 < x0_2.length) = True := eq_true (by omega)
                      (try rw [show ((0 : Int)).toNat = 0 from rfl] at hx171_0)
                      (try rw [Addr.add_zero'] at hx171_0)
                      replace p171 := eq_true p171
                      replace q171 := eq_true q171
                      go_wp2_with (first | ((with_reducible refine gate_callee (f := 6) rfl ?_); refine goesL_ (some 118) rfl rfl Tryd.func6 (by kernel_rfl) rfl #[.int .u32 (rd x0_2 0)] rfl (by (try simp only [List.map_toArray, List.map_cons, List.map_nil]); first | done | rfl | (simp only [List.length_drop, List.length_take]; rfl)) ?_; (with_reducible refine (tag_Text.calls (rd x0_2 0) t172 _ A42.out).mono ?_); rintro e w89 ⟨rfl, hb⟩; refine ⟨_, rfl, ?_⟩; have n0_ := Aside0.mk (Kd.V_below (by (with_reducible repeat (first | apply Kd.V_alloc | apply Kd.V_drewN | apply Kd.V_drew)); exact HO_0.out) hb); have n1_ := Aside0.mk (below_step (by repeat (first | (with_reducible first | exact HB.out | apply below_alloc | apply pw_below_drewN | apply below_drew1) | exact HB.out)) hb); clear HO_0; clear HB; have HO_0 := n0_; have HB := n1_; clear n0_ n1_; (try clear hb); (try clear hb2); (try clear hk); (try clear hi)) | ((with_reducible refine gate_callee (f := 7) rfl ?_); refine goesL_ (some 121) rfl rfl Tryd.func7 (by kernel_rfl) rfl #[.string t172] rfl (by (try simp only [List.map_toArray, List.map_cons, List.map_nil]); first | done | rfl | (simp only [List.length_drop, List.length_take]; rfl)) ?_; (with_reducible refine (tag_Parse.calls kj31 t172 t173 t174 _ A43.out).mono ?_); rintro e w90 ⟨rfl, hb⟩; refine ⟨_, rfl, ?_⟩; have n0_ := Aside0.mk (Kd.V_below (by (with_reducible repeat (first | apply Kd.V_alloc | apply Kd.V_drewN | apply Kd.V_drew)); exact HO_0.out) hb); have n1_ := Aside0.mk (below_step (by repeat (first | (with_reducible first | exact HB.out | apply below_alloc | apply pw_below_drewN | apply below_drew1) | exact HB.out)) hb); clear HO_0; clear HB; have HO_0 := n0_; have HB := n1_; clear n0_ n1_; (try clear hb); (try clear hb2); (try clear hk); (try clear hi)) | ((with_reducible refine gate_callee (f := 8) rfl ?_); refine goesL_ (some 126) rfl rfl Tryd.func8 (by kernel_rfl) rfl #[.string t168] rfl (by (try simp only [List.map_toArray, List.map_cons, List.map_nil]); first | done | rfl | (simp only [List.length_drop, List.length_take]; rfl)) ?_; (with_reducible refine (tag_Read.calls kj31 t168 t175 t176 t177 _ (Aside0.mk (Go.Proofs.YtmlnkdknpogknaaDoor.Laid.LD.below HLD.out (by repeat (first | (with_reducible first | exact HB.out | apply below_alloc | apply pw_below_drewN | apply below_drew1) | exact HB.out)))) A44.out).mono ?_); rintro e w91 ⟨rfl, hb⟩; refine ⟨_, rfl, ?_⟩; have n0_ := Aside0.mk (Kd.V_below (by (with_reducible repeat (first | apply Kd.V_alloc | apply Kd.V_drewN | apply Kd.V_drew)); exact HO_0.out) hb); have n1_ := Aside0.mk (below_step (by repeat (first | (with_reducible first | exact HB.out | apply below_alloc | apply pw_below_drewN | apply below_drew1) | exact HB.out)) hb); clear HO_0; clear HB; have HO_0 := n0_; have HB := n1_; clear n0_ n1_; (try clear hb); (try clear hb2); (try clear hk); (try clear hi); have p178 : 0 ≤ (0 : Int) := (by omega); have q178 : 0 < (x0_2.length : Int) := of_decide_eq_true (by first | (with_reducible assumption) | assumption); obtain ⟨ad178, e178, hx178_0⟩ := Kd.at_int (Kd.V_reads' HO_0.out).2.2 0 p178 q178; obtain rfl : ad171 = ad178 := (by injection e178); have qi178 : (0 < x0_2.length) = True := eq_true (by omega); (try rw [show ((0 : Int)).toNat = 0 from rfl] at hx178_0); (try rw [Addr.add_zero'] at hx178_0); replace p178 := eq_true p178; replace q178 := eq_true q178) | ((with_reducible refine gate_callee (f := 14) rfl ?_); refine goesL_ (some 134) rfl rfl Tryd.func14 (by kernel_rfl) rfl #[.int .u32 (rd x0_2 0)] rfl (by (try simp only [List.map_toArray, List.map_cons, List.map_nil]); first | done | rfl | (simp only [List.length_drop, List.length_take]; rfl)) ?_; (with_reducible refine (cellarerref04_Text.calls kj31 (rd x0_2 0) t179 _ A45.out).mono ?_); rintro e w92 ⟨rfl, hb⟩; refine ⟨_, rfl, ?_⟩; have n0_ := Aside0.mk (Kd.V_below (by (with_reducible repeat (first | apply Kd.V_alloc | apply Kd.V_drewN | apply Kd.V_drew)); exact HO_0.out) hb); have n1_ := Aside0.mk (below_step (by repeat (first | (with_reducible first | exact HB.out | apply below_alloc | apply pw_below_drewN | apply below_drew1) | exact HB.out)) hb); clear HO_0; clear HB; have HO_0 := n0_; have HB := n1_; clear n0_ n1_; (try clear hb); (try clear hb2); (try clear hk); (try clear hi)))
                      go_ret
                      exact ⟨by first | rfl | (simp [errW_none, errW_some] <;> rfl) | (simp [*, errW_none, errW_some] <;> rfl), by repeat (first | (with_reducible first | exact HB.out | apply below_alloc | apply pw_below_drewN | apply below_drew1) | exact HB.out)⟩
                  · rw [if_neg c41] at H
                    exact absurd H (by simp)

/-- THE ONE PURE STATEMENT of cellarerlaw04_TagTexts. -/
-- GIVEN cellarerlaw04_TagTexts.Pure
def cellarerlaw04_TagTexts.Pure : Prop := ∀ (l0 : List Int) (a1 : ByteArray), (l0.length ≤ maxLen ∧ ∀ y1_ ∈ l0, (Lit.int .u32 y1_).wf = true) → a1.size ≤ maxLen → ∃ k, cellarerlaw04_TagTexts.f k l0 a1 = some true

end Go.Proofs.YtmlnkdknpogknaaDoor.P
