/- Printed by a program of this session (wip/tools/gprint.py, over the kit's print) out of the translation: functions and their contracts. -/
import Derived.Test.YtmlnkdknpogknaaDoorPx0
import Derived.Test.YtmlnkdknpogknaaDoorPx1
import Derived.Test.YtmlnkdknpogknaaDoorTagRead
import Derived.Test.YtmlnkdknpogknaaDoorTagMore
namespace Go.Proofs.YtmlnkdknpogknaaDoor.P
open Go.RowKit Go.Proofs.YtmlnkdknpogknaaDoorW.PrintWords Go.Proofs.YtmlnkdknpogknaaDoorW.PrintLast Go.Proofs.YtmlnkdknpogknaaDoorW.PrintMore
attribute [local go_sem] max2_int min2_int max_two min_two max_three min_three max_four min_four   -- for this text's walks alone
set_option linter.unusedVariables false
set_option linter.unusedSimpArgs false

/-! ### tag_Read: function 8 (given) -/
-- GIVEN tag_Read
def tag_Read.f (k : Nat) (a0 : ByteArray) : Option (Int × Int × Int) := Go.Proofs.YtmlnkdknpogknaaDoor.TagRead.readF k a0
theorem tag_Read.mono (a0 : ByteArray) (k : Nat) : LeO (tag_Read.f k a0) (tag_Read.f (k + 1) a0) := Go.Proofs.YtmlnkdknpogknaaDoor.TagRead.readF_mono a0 k
theorem tag_Read.calls (k : Nat) (a0 : ByteArray) (r1 : Int) (r2 : Int) (r3 : Int) (w : World) (HLD : Aside0 (Go.Proofs.YtmlnkdknpogknaaDoor.Laid.LD w)) (h : tag_Read.f k a0 = some (r1, r2, r3)) :
    Calls Tryd.prog 8 #[.string a0] w fun e w' => e = .returned (.tuple #[.int .u32 r1, .int .i64 r2, .int .i64 r3]) ∧ Below w.heap.size w w' :=
  Go.Proofs.YtmlnkdknpogknaaDoor.TagRead.read_any k a0 r1 r2 r3 w HLD.out h


/-! ### tag_More: function 21 (given) -/
-- GIVEN tag_More
def tag_More.f (a0 : Int) (a1 : ByteArray) : Option (Int) := if 0 ≤ a0 ∧ a0 < 4294967296 ∧ a1.size ≤ 9223372036854775807 then some (((Go.Proofs.YtmlnkdknpogknaaDoor.TagNat.more a0.toNat (a1.data.toList.map UInt8.toNat) : Nat) : Int)) else none
theorem tag_More.calls (a0 : Int) (a1 : ByteArray) (r : Int) (w : World) (h : tag_More.f a0 a1 = some r) :
    Calls Tryd.prog 21 #[.int .u32 a0, .string a1] w fun e w' => e = .returned (.int .u32 r) ∧ Below w.heap.size w w' := by
  unfold tag_More.f at h
  split at h
  · rename_i hc
    obtain rfl := Option.some.inj h
    exact Go.Proofs.YtmlnkdknpogknaaDoor.TagMore.more_any a0 a1 w hc.1 hc.2.1 hc.2.2
  · cases h


/-! ### tag_Of: function 20 -/
def tag_Of.f (a0 : ByteArray) : Option (Int) := (tag_More.f 0 a0).bind fun t107 => (some t107)
set_option maxHeartbeats 8000000 in
set_option maxRecDepth 100000 in
theorem tag_Of.calls (a0 : ByteArray) (r : Int) (w : World) (h : tag_Of.f a0 = some r) :
    Calls Tryd.prog 20 #[.string a0] w fun e w' => e = .returned (.int .u32 r) ∧ Below w.heap.size w w' := by
  have HB := Aside0.mk (Below.refl w.heap.size w)
  have H : ((tag_More.f 0 a0).bind fun t107 => (some t107)) = some r := h
  clear h
  replace H := Option.bind_eq_some_iff.mp H
  obtain ⟨t107, A20, H⟩ := H
  replace H : (some t107) = some r := H
  have A2 := Aside0.mk A20
  clear A20
  obtain rfl := Option.some.inj H
  go_enter Tryd.func20, Tryd.ntmps20
  go_wp2_with (first | ((with_reducible refine gate_callee (f := 21) rfl ?_); refine goesL_ (some 4) rfl rfl Tryd.func21 (by kernel_rfl) rfl #[.int .u32 0, .string a0] rfl (by (try simp only [List.map_toArray, List.map_cons, List.map_nil]); first | done | rfl | (simp only [List.length_drop, List.length_take]; rfl)) ?_; (with_reducible refine (tag_More.calls 0 a0 t107 _ A2.out).mono ?_); rintro e w3 ⟨rfl, hb⟩; refine ⟨_, rfl, ?_⟩; have n0_ := Aside0.mk (below_step (by repeat (first | (with_reducible first | exact HB.out | apply below_alloc | apply pw_below_drewN | apply below_drew1) | exact HB.out)) hb); clear HB; have HB := n0_; clear n0_; (try clear hb); (try clear hb2); (try clear hk); (try clear hi)))
  go_ret
  exact ⟨by first | rfl | (simp [errW_none, errW_some] <;> rfl) | (simp [*, errW_none, errW_some] <;> rfl), by repeat (first | (with_reducible first | exact HB.out | apply below_alloc | apply pw_below_drewN | apply below_drew1) | exact HB.out)⟩

/-! ### cellarerlaw04_awake: function 9 -/
def cellarerlaw04_awake.f  : Option (Bool) := (tag_Of.f (⟨#[49, 50, 51, 52, 53, 54, 55, 56, 57]⟩ : ByteArray)).bind fun t108 => (if t108 = 3808858755 then ((tag_Of.f (⟨#[]⟩ : ByteArray)).bind fun t109 => (if t109 = 0 then ((tag_Of.f (⟨#[49, 50, 51, 52, 53]⟩ : ByteArray)).bind fun t110 => ((tag_More.f t110 (⟨#[54, 55, 56, 57]⟩ : ByteArray)).bind fun t111 => (if t111 = 3808858755 then ((tag_Text.f 255).bind fun t112 => (if t112.toList = ([48, 48, 48, 48, 48, 48, 102, 102] : List UInt8) then (some true) else (some false))) else (some false)))) else (some false))) else (some false))
set_option maxHeartbeats 8000000 in
set_option maxRecDepth 100000 in
theorem cellarerlaw04_awake.calls  (r : Bool) (w : World) (h : cellarerlaw04_awake.f  = some r) :
    Calls Tryd.prog 9 #[] w fun e w' => e = .returned (.bool r) ∧ Below w.heap.size w w' := by
  have HB := Aside0.mk (Below.refl w.heap.size w)
  have H : ((tag_Of.f (⟨#[49, 50, 51, 52, 53, 54, 55, 56, 57]⟩ : ByteArray)).bind fun t108 => (if t108 = 3808858755 then ((tag_Of.f (⟨#[]⟩ : ByteArray)).bind fun t109 => (if t109 = 0 then ((tag_Of.f (⟨#[49, 50, 51, 52, 53]⟩ : ByteArray)).bind fun t110 => ((tag_More.f t110 (⟨#[54, 55, 56, 57]⟩ : ByteArray)).bind fun t111 => (if t111 = 3808858755 then ((tag_Text.f 255).bind fun t112 => (if t112.toList = ([48, 48, 48, 48, 48, 48, 102, 102] : List UInt8) then (some true) else (some false))) else (some false)))) else (some false))) else (some false))) = some r := h
  clear h
  replace H := Option.bind_eq_some_iff.mp H
  obtain ⟨t108, A10, H⟩ := H
  replace H : (if t108 = 3808858755 then ((tag_Of.f (⟨#[]⟩ : ByteArray)).bind fun t109 => (if t109 = 0 then ((tag_Of.f (⟨#[49, 50, 51, 52, 53]⟩ : ByteArray)).bind fun t110 => ((tag_More.f t110 (⟨#[54, 55, 56, 57]⟩ : ByteArray)).bind fun t111 => (if t111 = 3808858755 then ((tag_Text.f 255).bind fun t112 => (if t112.toList = ([48, 48, 48, 48, 48, 48, 102, 102] : List UInt8) then (some true) else (some false))) else (some false)))) else (some false))) else (some false)) = some r := H
  have A1 := Aside0.mk A10
  clear A10
  by_cases c2 : t108 = 3808858755
  · rw [if_pos c2] at H
    have c2b0 : (t108 == 3808858755) = true := beq_iff_eq.mpr c2
    have c2b1 : (t108 != 3808858755) = false := bne_eq_false_iff_eq.mpr c2
    clear c2
    replace H := Option.bind_eq_some_iff.mp H
    obtain ⟨t109, A30, H⟩ := H
    replace H : (if t109 = 0 then ((tag_Of.f (⟨#[49, 50, 51, 52, 53]⟩ : ByteArray)).bind fun t110 => ((tag_More.f t110 (⟨#[54, 55, 56, 57]⟩ : ByteArray)).bind fun t111 => (if t111 = 3808858755 then ((tag_Text.f 255).bind fun t112 => (if t112.toList = ([48, 48, 48, 48, 48, 48, 102, 102] : List UInt8) then (some true) else (some false))) else (some false)))) else (some false)) = some r := H
    have A3 := Aside0.mk A30
    clear A30
    by_cases c4 : t109 = 0
    · rw [if_pos c4] at H
      have c4b0 : (t109 == 0) = true := beq_iff_eq.mpr c4
      have c4b1 : (t109 != 0) = false := bne_eq_false_iff_eq.mpr c4
      clear c4
      replace H := Option.bind_eq_some_iff.mp H
      obtain ⟨t110, A50, H⟩ := H
      replace H : ((tag_More.f t110 (⟨#[54, 55, 56, 57]⟩ : ByteArray)).bind fun t111 => (if t111 = 3808858755 then ((tag_Text.f 255).bind fun t112 => (if t112.toList = ([48, 48, 48, 48, 48, 48, 102, 102] : List UInt8) then (some true) else (some false))) else (some false))) = some r := H
      have A5 := Aside0.mk A50
      clear A50
      replace H := Option.bind_eq_some_iff.mp H
      obtain ⟨t111, A60, H⟩ := H
      replace H : (if t111 = 3808858755 then ((tag_Text.f 255).bind fun t112 => (if t112.toList = ([48, 48, 48, 48, 48, 48, 102, 102] : List UInt8) then (some true) else (some false))) else (some false)) = some r := H
      have A6 := Aside0.mk A60
      clear A60
      by_cases c7 : t111 = 3808858755
      · rw [if_pos c7] at H
        have c7b0 : (t111 == 3808858755) = true := beq_iff_eq.mpr c7
        have c7b1 : (t111 != 3808858755) = false := bne_eq_false_iff_eq.mpr c7
        clear c7
        replace H := Option.bind_eq_some_iff.mp H
        obtain ⟨t112, A80, H⟩ := H
        replace H : (if t112.toList = ([48, 48, 48, 48, 48, 48, 102, 102] : List UInt8) then (some true) else (some false)) = some r := H
        have A8 := Aside0.mk A80
        clear A80
        by_cases c9 : t112.toList = ([48, 48, 48, 48, 48, 48, 102, 102] : List UInt8)
        · rw [if_pos c9] at H
          have c9b0 : (t112.toList == ([48, 48, 48, 48, 48, 48, 102, 102] : List UInt8)) = true := beq_iff_eq.mpr c9
          have c9b1 : (t112.toList != ([48, 48, 48, 48, 48, 48, 102, 102] : List UInt8)) = false := bne_eq_false_iff_eq.mpr c9
          clear c9
          obtain rfl := Option.some.inj H
          go_enter Tryd.func9, Tryd.ntmps9
          go_wp2_with (first | ((with_reducible refine gate_callee (f := 20) rfl ?_); refine goesL_ (some 1) rfl rfl Tryd.func20 (by kernel_rfl) rfl #[.string (⟨#[49, 50, 51, 52, 53, 54, 55, 56, 57]⟩ : ByteArray)] rfl (by (try simp only [List.map_toArray, List.map_cons, List.map_nil]); first | done | rfl | (simp only [List.length_drop, List.length_take]; rfl)) ?_; (with_reducible refine (tag_Of.calls (⟨#[49, 50, 51, 52, 53, 54, 55, 56, 57]⟩ : ByteArray) t108 _ A1.out).mono ?_); rintro e w10 ⟨rfl, hb⟩; refine ⟨_, rfl, ?_⟩; have n0_ := Aside0.mk (below_step (by repeat (first | (with_reducible first | exact HB.out | apply below_alloc | apply pw_below_drewN | apply below_drew1) | exact HB.out)) hb); clear HB; have HB := n0_; clear n0_; (try clear hb); (try clear hb2); (try clear hk); (try clear hi)) | (go_at_call 20; (with_reducible refine (tag_Of.calls (⟨#[]⟩ : ByteArray) t109 _ A3.out).mono ?_); rintro e w11 ⟨rfl, hb⟩; have n0_ := Aside0.mk (below_step (by repeat (first | (with_reducible first | exact HB.out | apply below_alloc | apply pw_below_drewN | apply below_drew1) | exact HB.out)) hb); clear HB; have HB := n0_; clear n0_; (try clear hb); (try clear hb2); (try clear hk); (try clear hi)) | (go_at_call 20; (with_reducible refine (tag_Of.calls (⟨#[49, 50, 51, 52, 53]⟩ : ByteArray) t110 _ A5.out).mono ?_); rintro e w12 ⟨rfl, hb⟩; have n0_ := Aside0.mk (below_step (by repeat (first | (with_reducible first | exact HB.out | apply below_alloc | apply pw_below_drewN | apply below_drew1) | exact HB.out)) hb); clear HB; have HB := n0_; clear n0_; (try clear hb); (try clear hb2); (try clear hk); (try clear hi)) | (go_at_call 21; (with_reducible refine (tag_More.calls t110 (⟨#[54, 55, 56, 57]⟩ : ByteArray) t111 _ A6.out).mono ?_); rintro e w13 ⟨rfl, hb⟩; have n0_ := Aside0.mk (below_step (by repeat (first | (with_reducible first | exact HB.out | apply below_alloc | apply pw_below_drewN | apply below_drew1) | exact HB.out)) hb); clear HB; have HB := n0_; clear n0_; (try clear hb); (try clear hb2); (try clear hk); (try clear hi)) | (go_at_call 6; (with_reducible refine (tag_Text.calls 255 t112 _ A8.out).mono ?_); rintro e w14 ⟨rfl, hb⟩; have n0_ := Aside0.mk (below_step (by repeat (first | (with_reducible first | exact HB.out | apply below_alloc | apply pw_below_drewN | apply below_drew1) | exact HB.out)) hb); clear HB; have HB := n0_; clear n0_; (try clear hb); (try clear hb2); (try clear hk); (try clear hi)))
          go_ret
          exact ⟨by first | rfl | (simp [errW_none, errW_some] <;> rfl) | (simp [*, errW_none, errW_some] <;> rfl), by repeat (first | (with_reducible first | exact HB.out | apply below_alloc | apply pw_below_drewN | apply below_drew1) | exact HB.out)⟩
        · rw [if_neg c9] at H
          have c9b0 : (t112.toList == ([48, 48, 48, 48, 48, 48, 102, 102] : List UInt8)) = false := beq_eq_false_iff_ne.mpr c9
          have c9b1 : (t112.toList != ([48, 48, 48, 48, 48, 48, 102, 102] : List UInt8)) = true := bne_iff_ne.mpr c9
          obtain rfl := Option.some.inj H
          go_enter Tryd.func9, Tryd.ntmps9
          go_wp2_with (first | ((with_reducible refine gate_callee (f := 20) rfl ?_); refine goesL_ (some 1) rfl rfl Tryd.func20 (by kernel_rfl) rfl #[.string (⟨#[49, 50, 51, 52, 53, 54, 55, 56, 57]⟩ : ByteArray)] rfl (by (try simp only [List.map_toArray, List.map_cons, List.map_nil]); first | done | rfl | (simp only [List.length_drop, List.length_take]; rfl)) ?_; (with_reducible refine (tag_Of.calls (⟨#[49, 50, 51, 52, 53, 54, 55, 56, 57]⟩ : ByteArray) t108 _ A1.out).mono ?_); rintro e w15 ⟨rfl, hb⟩; refine ⟨_, rfl, ?_⟩; have n0_ := Aside0.mk (below_step (by repeat (first | (with_reducible first | exact HB.out | apply below_alloc | apply pw_below_drewN | apply below_drew1) | exact HB.out)) hb); clear HB; have HB := n0_; clear n0_; (try clear hb); (try clear hb2); (try clear hk); (try clear hi)) | (go_at_call 20; (with_reducible refine (tag_Of.calls (⟨#[]⟩ : ByteArray) t109 _ A3.out).mono ?_); rintro e w16 ⟨rfl, hb⟩; have n0_ := Aside0.mk (below_step (by repeat (first | (with_reducible first | exact HB.out | apply below_alloc | apply pw_below_drewN | apply below_drew1) | exact HB.out)) hb); clear HB; have HB := n0_; clear n0_; (try clear hb); (try clear hb2); (try clear hk); (try clear hi)) | (go_at_call 20; (with_reducible refine (tag_Of.calls (⟨#[49, 50, 51, 52, 53]⟩ : ByteArray) t110 _ A5.out).mono ?_); rintro e w17 ⟨rfl, hb⟩; have n0_ := Aside0.mk (below_step (by repeat (first | (with_reducible first | exact HB.out | apply below_alloc | apply pw_below_drewN | apply below_drew1) | exact HB.out)) hb); clear HB; have HB := n0_; clear n0_; (try clear hb); (try clear hb2); (try clear hk); (try clear hi)) | (go_at_call 21; (with_reducible refine (tag_More.calls t110 (⟨#[54, 55, 56, 57]⟩ : ByteArray) t111 _ A6.out).mono ?_); rintro e w18 ⟨rfl, hb⟩; have n0_ := Aside0.mk (below_step (by repeat (first | (with_reducible first | exact HB.out | apply below_alloc | apply pw_below_drewN | apply below_drew1) | exact HB.out)) hb); clear HB; have HB := n0_; clear n0_; (try clear hb); (try clear hb2); (try clear hk); (try clear hi)) | (go_at_call 6; (with_reducible refine (tag_Text.calls 255 t112 _ A8.out).mono ?_); rintro e w19 ⟨rfl, hb⟩; have n0_ := Aside0.mk (below_step (by repeat (first | (with_reducible first | exact HB.out | apply below_alloc | apply pw_below_drewN | apply below_drew1) | exact HB.out)) hb); clear HB; have HB := n0_; clear n0_; (try clear hb); (try clear hb2); (try clear hk); (try clear hi)))
          go_ret
          exact ⟨by first | rfl | (simp [errW_none, errW_some] <;> rfl) | (simp [*, errW_none, errW_some] <;> rfl), by repeat (first | (with_reducible first | exact HB.out | apply below_alloc | apply pw_below_drewN | apply below_drew1) | exact HB.out)⟩
      · rw [if_neg c7] at H
        have c7b0 : (t111 == 3808858755) = false := beq_eq_false_iff_ne.mpr c7
        have c7b1 : (t111 != 3808858755) = true := bne_iff_ne.mpr c7
        obtain rfl := Option.some.inj H
        go_enter Tryd.func9, Tryd.ntmps9
        go_wp2_with (first | ((with_reducible refine gate_callee (f := 20) rfl ?_); refine goesL_ (some 1) rfl rfl Tryd.func20 (by kernel_rfl) rfl #[.string (⟨#[49, 50, 51, 52, 53, 54, 55, 56, 57]⟩ : ByteArray)] rfl (by (try simp only [List.map_toArray, List.map_cons, List.map_nil]); first | done | rfl | (simp only [List.length_drop, List.length_take]; rfl)) ?_; (with_reducible refine (tag_Of.calls (⟨#[49, 50, 51, 52, 53, 54, 55, 56, 57]⟩ : ByteArray) t108 _ A1.out).mono ?_); rintro e w20 ⟨rfl, hb⟩; refine ⟨_, rfl, ?_⟩; have n0_ := Aside0.mk (below_step (by repeat (first | (with_reducible first | exact HB.out | apply below_alloc | apply pw_below_drewN | apply below_drew1) | exact HB.out)) hb); clear HB; have HB := n0_; clear n0_; (try clear hb); (try clear hb2); (try clear hk); (try clear hi)) | (go_at_call 20; (with_reducible refine (tag_Of.calls (⟨#[]⟩ : ByteArray) t109 _ A3.out).mono ?_); rintro e w21 ⟨rfl, hb⟩; have n0_ := Aside0.mk (below_step (by repeat (first | (with_reducible first | exact HB.out | apply below_alloc | apply pw_below_drewN | apply below_drew1) | exact HB.out)) hb); clear HB; have HB := n0_; clear n0_; (try clear hb); (try clear hb2); (try clear hk); (try clear hi)) | (go_at_call 20; (with_reducible refine (tag_Of.calls (⟨#[49, 50, 51, 52, 53]⟩ : ByteArray) t110 _ A5.out).mono ?_); rintro e w22 ⟨rfl, hb⟩; have n0_ := Aside0.mk (below_step (by repeat (first | (with_reducible first | exact HB.out | apply below_alloc | apply pw_below_drewN | apply below_drew1) | exact HB.out)) hb); clear HB; have HB := n0_; clear n0_; (try clear hb); (try clear hb2); (try clear hk); (try clear hi)) | (go_at_call 21; (with_reducible refine (tag_More.calls t110 (⟨#[54, 55, 56, 57]⟩ : ByteArray) t111 _ A6.out).mono ?_); rintro e w23 ⟨rfl, hb⟩; have n0_ := Aside0.mk (below_step (by repeat (first | (with_reducible first | exact HB.out | apply below_alloc | apply pw_below_drewN | apply below_drew1) | exact HB.out)) hb); clear HB; have HB := n0_; clear n0_; (try clear hb); (try clear hb2); (try clear hk); (try clear hi)))
        go_ret
        exact ⟨by first | rfl | (simp [errW_none, errW_some] <;> rfl) | (simp [*, errW_none, errW_some] <;> rfl), by repeat (first | (with_reducible first | exact HB.out | apply below_alloc | apply pw_below_drewN | apply below_drew1) | exact HB.out)⟩
    · rw [if_neg c4] at H
      have c4b0 : (t109 == 0) = false := beq_eq_false_iff_ne.mpr c4
      have c4b1 : (t109 != 0) = true := bne_iff_ne.mpr c4
      obtain rfl := Option.some.inj H
      go_enter Tryd.func9, Tryd.ntmps9
      go_wp2_with (first | ((with_reducible refine gate_callee (f := 20) rfl ?_); refine goesL_ (some 1) rfl rfl Tryd.func20 (by kernel_rfl) rfl #[.string (⟨#[49, 50, 51, 52, 53, 54, 55, 56, 57]⟩ : ByteArray)] rfl (by (try simp only [List.map_toArray, List.map_cons, List.map_nil]); first | done | rfl | (simp only [List.length_drop, List.length_take]; rfl)) ?_; (with_reducible refine (tag_Of.calls (⟨#[49, 50, 51, 52, 53, 54, 55, 56, 57]⟩ : ByteArray) t108 _ A1.out).mono ?_); rintro e w24 ⟨rfl, hb⟩; refine ⟨_, rfl, ?_⟩; have n0_ := Aside0.mk (below_step (by repeat (first | (with_reducible first | exact HB.out | apply below_alloc | apply pw_below_drewN | apply below_drew1) | exact HB.out)) hb); clear HB; have HB := n0_; clear n0_; (try clear hb); (try clear hb2); (try clear hk); (try clear hi)) | (go_at_call 20; (with_reducible refine (tag_Of.calls (⟨#[]⟩ : ByteArray) t109 _ A3.out).mono ?_); rintro e w25 ⟨rfl, hb⟩; have n0_ := Aside0.mk (below_step (by repeat (first | (with_reducible first | exact HB.out | apply below_alloc | apply pw_below_drewN | apply below_drew1) | exact HB.out)) hb); clear HB; have HB := n0_; clear n0_; (try clear hb); (try clear hb2); (try clear hk); (try clear hi)))
      go_ret
      exact ⟨by first | rfl | (simp [errW_none, errW_some] <;> rfl) | (simp [*, errW_none, errW_some] <;> rfl), by repeat (first | (with_reducible first | exact HB.out | apply below_alloc | apply pw_below_drewN | apply below_drew1) | exact HB.out)⟩
  · rw [if_neg c2] at H
    have c2b0 : (t108 == 3808858755) = false := beq_eq_false_iff_ne.mpr c2
    have c2b1 : (t108 != 3808858755) = true := bne_iff_ne.mpr c2
    obtain rfl := Option.some.inj H
    go_enter Tryd.func9, Tryd.ntmps9
    go_wp2_with (first | ((with_reducible refine gate_callee (f := 20) rfl ?_); refine goesL_ (some 1) rfl rfl Tryd.func20 (by kernel_rfl) rfl #[.string (⟨#[49, 50, 51, 52, 53, 54, 55, 56, 57]⟩ : ByteArray)] rfl (by (try simp only [List.map_toArray, List.map_cons, List.map_nil]); first | done | rfl | (simp only [List.length_drop, List.length_take]; rfl)) ?_; (with_reducible refine (tag_Of.calls (⟨#[49, 50, 51, 52, 53, 54, 55, 56, 57]⟩ : ByteArray) t108 _ A1.out).mono ?_); rintro e w26 ⟨rfl, hb⟩; refine ⟨_, rfl, ?_⟩; have n0_ := Aside0.mk (below_step (by repeat (first | (with_reducible first | exact HB.out | apply below_alloc | apply pw_below_drewN | apply below_drew1) | exact HB.out)) hb); clear HB; have HB := n0_; clear n0_; (try clear hb); (try clear hb2); (try clear hk); (try clear hi)))
    go_ret
    exact ⟨by first | rfl | (simp [errW_none, errW_some] <;> rfl) | (simp [*, errW_none, errW_some] <;> rfl), by repeat (first | (with_reducible first | exact HB.out | apply below_alloc | apply pw_below_drewN | apply below_drew1) | exact HB.out)⟩

end Go.Proofs.YtmlnkdknpogknaaDoor.P
