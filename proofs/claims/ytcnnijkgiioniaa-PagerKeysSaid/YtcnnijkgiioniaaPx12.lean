/- Printed by a program of this session (wip/tools/gprint.py, over the kit's print) out of the translation: functions and their contracts. -/
import Derived.Test.YtcnnijkgiioniaaPx0
import Derived.Test.YtcnnijkgiioniaaPx10
import Derived.Test.YtcnnijkgiioniaaPx11
namespace Go.Proofs.Ytcnnijkgiioniaa.P
open Go.RowKit Go.Proofs.YtcnnijkgiioniaaW.PrintWords Go.Proofs.YtcnnijkgiioniaaW.PrintLast Go.Proofs.YtcnnijkgiioniaaW.PrintMore
attribute [local go_sem] max2_int min2_int max_two min_two max_three min_three max_four min_four   -- for this text's walks alone
set_option linter.unusedVariables false
set_option linter.unusedSimpArgs false

/-! ### cellarerref07_Keys: function 17 -/
mutual
def cellarerref07_Keys.l0 : Nat → List (S50) → ByteArray → ByteArray → ByteArray → Int → List ByteArray → Int → Int → List ByteArray → List ByteArray → Bool → ByteArray → Option (List ByteArray × List ByteArray × Bool × ByteArray)
  | 0, _, _, _, _, _, _, _, _, _, _, _, _ => none
  | k + 1, x0, x1, x2, x3, x4, x12, x13, x14, x223000, x223001, x223002, x223003 => if x14 < (x12.length : Int) then (if x3.toList = ([] : List UInt8) then (cellarerref07_Keys.j1 k x0 x1 x2 x3 x4 x12 x13 x14 false x223000 x223001 x223002 x223003) else (if 0 ≤ x14 then (cellarerref07_Keys.j1 k x0 x1 x2 x3 x4 x12 x13 x14 (!(Op.bytesLess x3.toList ((rdOf ByteArray.empty x12 x14).toList))) x223000 x223001 x223002 x223003) else (none))) else (some (x223000, x223001, x223002, x223003))
def cellarerref07_Keys.j1 : Nat → List (S50) → ByteArray → ByteArray → ByteArray → Int → List ByteArray → Int → Int → Bool → List ByteArray → List ByteArray → Bool → ByteArray → Option (List ByteArray × List ByteArray × Bool × ByteArray)
  | 0, _, _, _, _, _, _, _, _, _, _, _, _, _ => none
  | k + 1, x0, x1, x2, x3, x4, x12, x13, x14, x41, x223000, x223001, x223002, x223003 => if x41 = true then (cellarerref07_Keys.l0 k x0 x1 x2 x3 x4 x12 x13 (wrap64 (x14 + 1)) x223000 x223001 x223002 x223003) else (if x13 = x4 then (some (x223000, x223001, true, x223003)) else (if 0 ≤ x14 then (if x14 < (x12.length : Int) then (cellarerref07_Keys.l1 k x0 x1 x2 x3 x4 x12 (wrap64 (x13 + 1)) x14 false 0 x223000 x223001 x223002 (rdOf ByteArray.empty x12 x14)) else (none)) else (none)))
def cellarerref07_Keys.l1 : Nat → List (S50) → ByteArray → ByteArray → ByteArray → Int → List ByteArray → Int → Int → Bool → Int → List ByteArray → List ByteArray → Bool → ByteArray → Option (List ByteArray × List ByteArray × Bool × ByteArray)
  | 0, _, _, _, _, _, _, _, _, _, _, _, _, _, _ => none
  | k + 1, x0, x1, x2, x3, x4, x12, x13, x14, x15, x16, x223000, x223001, x223002, x223003 => if x16 < (x0.length : Int) then (if 0 ≤ x16 then ((cellarerref07_Thing.f k ((rd_T50 x0 x16).f0) ((rd_T50 x0 x16).f1) x1 x2).bind fun bt229 => ((cellarerref01_Group.f k ((rd_T50 x0 x16).f0) x1 x2).bind fun bt232 => (if x15 = true then (cellarerref07_Keys.l1 k x0 x1 x2 x3 x4 x12 x13 x14 true (wrap64 (x16 + 1)) x223000 x223001 x223002 x223003) else (if bt229.2 = true then (if bt232.2 = true then (cellarerref07_Keys.l1 k x0 x1 x2 x3 x4 x12 x13 x14 false (wrap64 (x16 + 1)) x223000 x223001 x223002 x223003) else (if 0 ≤ x14 then (if x14 < (x12.length : Int) then (cellarerref07_Keys.l1 k x0 x1 x2 x3 x4 x12 x13 x14 (bt229.1.toList == (rdOf ByteArray.empty x12 x14).toList) (wrap64 (x16 + 1)) x223000 x223001 x223002 x223003) else (none)) else (none))) else (cellarerref07_Keys.l1 k x0 x1 x2 x3 x4 x12 x13 x14 false (wrap64 (x16 + 1)) x223000 x223001 x223002 x223003))))) else (none)) else (if x15 = true then (if 0 ≤ x14 then (if x14 < (x12.length : Int) then (if x223000.length < 8796093022208 then (cellarerref07_Keys.l0 k x0 x1 x2 x3 x4 x12 x13 (wrap64 (x14 + 1)) (x223000 ++ [rdOf ByteArray.empty x12 x14]) x223001 x223002 x223003) else (none)) else (none)) else (none)) else (if 0 ≤ x14 then (if x14 < (x12.length : Int) then (if x223001.length < 8796093022208 then (cellarerref07_Keys.l0 k x0 x1 x2 x3 x4 x12 x13 (wrap64 (x14 + 1)) x223000 (x223001 ++ [rdOf ByteArray.empty x12 x14]) x223002 x223003) else (none)) else (none)) else (none)))
end
def cellarerref07_Keys.f (k : Nat) (l0 : List (S50)) (a1 : ByteArray) (a2 : ByteArray) (a3 : ByteArray) (a4 : Int) : Option (List ByteArray × List ByteArray × Bool × ByteArray) := (cellarerref07_Things.f k l0 a1 a2).bind fun t223 => (cellarerref07_Keys.l0 k l0 a1 a2 a3 a4 t223 0 0 ([] : List ByteArray) ([] : List ByteArray) false (⟨#[]⟩ : ByteArray))
theorem cellarerref07_Keys.mono_l : ∀ k, (∀ y0 y1 y2 y3 y4 y5 y6 y7 y8 y9 y10 y11, LeO (cellarerref07_Keys.l0 k y0 y1 y2 y3 y4 y5 y6 y7 y8 y9 y10 y11) (cellarerref07_Keys.l0 (k + 1) y0 y1 y2 y3 y4 y5 y6 y7 y8 y9 y10 y11)) ∧ (∀ y0 y1 y2 y3 y4 y5 y6 y7 y8 y9 y10 y11 y12, LeO (cellarerref07_Keys.j1 k y0 y1 y2 y3 y4 y5 y6 y7 y8 y9 y10 y11 y12) (cellarerref07_Keys.j1 (k + 1) y0 y1 y2 y3 y4 y5 y6 y7 y8 y9 y10 y11 y12)) ∧ (∀ y0 y1 y2 y3 y4 y5 y6 y7 y8 y9 y10 y11 y12 y13, LeO (cellarerref07_Keys.l1 k y0 y1 y2 y3 y4 y5 y6 y7 y8 y9 y10 y11 y12 y13) (cellarerref07_Keys.l1 (k + 1) y0 y1 y2 y3 y4 y5 y6 y7 y8 y9 y10 y11 y12 y13))
  | 0 => ⟨fun _ _ _ _ _ _ _ _ _ _ _ _ r h => by simp [cellarerref07_Keys.l0] at h, fun _ _ _ _ _ _ _ _ _ _ _ _ _ r h => by simp [cellarerref07_Keys.j1] at h, fun _ _ _ _ _ _ _ _ _ _ _ _ _ _ r h => by simp [cellarerref07_Keys.l1] at h⟩
  | k + 1 => by
    obtain ⟨ih0, ih1, ih2⟩ := cellarerref07_Keys.mono_l k
    refine ⟨?_, ?_, ?_⟩
    · intro y0 y1 y2 y3 y4 y5 y6 y7 y8 y9 y10 y11
      unfold cellarerref07_Keys.l0
      repeat' first
      | (with_reducible exact ih0 _ _ _ _ _ _ _ _ _ _ _ _)
      | (with_reducible exact ih1 _ _ _ _ _ _ _ _ _ _ _ _ _)
      | (with_reducible exact ih2 _ _ _ _ _ _ _ _ _ _ _ _ _ _)
      | (with_reducible exact cellarerref01_Group.mono _ _ _ _)
      | (with_reducible exact cellarerref07_Thing.mono _ _ _ _ _)
      | (with_reducible exact cellarerref07_Things.mono _ _ _ _)
      | (with_reducible exact LeO.refl _)
      | (with_reducible exact LeO.none _)
      | (with_reducible refine LeO.ite ?_ ?_)
      | (with_reducible refine LeO.bind ?_ (fun _ => ?_))
      | exact ih0 _ _ _ _ _ _ _ _ _ _ _ _
      | exact ih1 _ _ _ _ _ _ _ _ _ _ _ _ _
      | exact ih2 _ _ _ _ _ _ _ _ _ _ _ _ _ _
      | exact cellarerref01_Group.mono _ _ _ _
      | exact cellarerref07_Thing.mono _ _ _ _ _
      | exact cellarerref07_Things.mono _ _ _ _
      | exact LeO.none _
      | refine LeO.ite ?_ ?_
      | refine LeO.bind ?_ (fun _ => ?_)
    · intro y0 y1 y2 y3 y4 y5 y6 y7 y8 y9 y10 y11 y12
      unfold cellarerref07_Keys.j1
      repeat' first
      | (with_reducible exact ih0 _ _ _ _ _ _ _ _ _ _ _ _)
      | (with_reducible exact ih1 _ _ _ _ _ _ _ _ _ _ _ _ _)
      | (with_reducible exact ih2 _ _ _ _ _ _ _ _ _ _ _ _ _ _)
      | (with_reducible exact cellarerref01_Group.mono _ _ _ _)
      | (with_reducible exact cellarerref07_Thing.mono _ _ _ _ _)
      | (with_reducible exact cellarerref07_Things.mono _ _ _ _)
      | (with_reducible exact LeO.refl _)
      | (with_reducible exact LeO.none _)
      | (with_reducible refine LeO.ite ?_ ?_)
      | (with_reducible refine LeO.bind ?_ (fun _ => ?_))
      | exact ih0 _ _ _ _ _ _ _ _ _ _ _ _
      | exact ih1 _ _ _ _ _ _ _ _ _ _ _ _ _
      | exact ih2 _ _ _ _ _ _ _ _ _ _ _ _ _ _
      | exact cellarerref01_Group.mono _ _ _ _
      | exact cellarerref07_Thing.mono _ _ _ _ _
      | exact cellarerref07_Things.mono _ _ _ _
      | exact LeO.none _
      | refine LeO.ite ?_ ?_
      | refine LeO.bind ?_ (fun _ => ?_)
    · intro y0 y1 y2 y3 y4 y5 y6 y7 y8 y9 y10 y11 y12 y13
      unfold cellarerref07_Keys.l1
      repeat' first
      | (with_reducible exact ih0 _ _ _ _ _ _ _ _ _ _ _ _)
      | (with_reducible exact ih1 _ _ _ _ _ _ _ _ _ _ _ _ _)
      | (with_reducible exact ih2 _ _ _ _ _ _ _ _ _ _ _ _ _ _)
      | (with_reducible exact cellarerref01_Group.mono _ _ _ _)
      | (with_reducible exact cellarerref07_Thing.mono _ _ _ _ _)
      | (with_reducible exact cellarerref07_Things.mono _ _ _ _)
      | (with_reducible exact LeO.refl _)
      | (with_reducible exact LeO.none _)
      | (with_reducible refine LeO.ite ?_ ?_)
      | (with_reducible refine LeO.bind ?_ (fun _ => ?_))
      | exact ih0 _ _ _ _ _ _ _ _ _ _ _ _
      | exact ih1 _ _ _ _ _ _ _ _ _ _ _ _ _
      | exact ih2 _ _ _ _ _ _ _ _ _ _ _ _ _ _
      | exact cellarerref01_Group.mono _ _ _ _
      | exact cellarerref07_Thing.mono _ _ _ _ _
      | exact cellarerref07_Things.mono _ _ _ _
      | exact LeO.none _
      | refine LeO.ite ?_ ?_
      | refine LeO.bind ?_ (fun _ => ?_)
theorem cellarerref07_Keys.mono : ∀ a0 a1 a2 a3 a4 k, LeO (cellarerref07_Keys.f k a0 a1 a2 a3 a4) (cellarerref07_Keys.f (k + 1) a0 a1 a2 a3 a4) := by
  intro a0 a1 a2 a3 a4 k
  obtain ⟨ih0, ih1, ih2⟩ := cellarerref07_Keys.mono_l k
  unfold cellarerref07_Keys.f
  repeat' first
      | (with_reducible exact ih0 _ _ _ _ _ _ _ _ _ _ _ _)
      | (with_reducible exact ih1 _ _ _ _ _ _ _ _ _ _ _ _ _)
      | (with_reducible exact ih2 _ _ _ _ _ _ _ _ _ _ _ _ _ _)
      | (with_reducible exact cellarerref01_Group.mono _ _ _ _)
      | (with_reducible exact cellarerref07_Thing.mono _ _ _ _ _)
      | (with_reducible exact cellarerref07_Things.mono _ _ _ _)
      | (with_reducible exact LeO.refl _)
      | (with_reducible exact LeO.none _)
      | (with_reducible refine LeO.ite ?_ ?_)
      | (with_reducible refine LeO.bind ?_ (fun _ => ?_))
      | exact ih0 _ _ _ _ _ _ _ _ _ _ _ _
      | exact ih1 _ _ _ _ _ _ _ _ _ _ _ _ _
      | exact ih2 _ _ _ _ _ _ _ _ _ _ _ _ _ _
      | exact cellarerref01_Group.mono _ _ _ _
      | exact cellarerref07_Thing.mono _ _ _ _ _
      | exact cellarerref07_Things.mono _ _ _ _
      | exact LeO.none _
      | refine LeO.ite ?_ ?_
      | refine LeO.bind ?_ (fun _ => ?_)
def cellarerref07_Keys.T21 : Bool × List (List Nat × List Nat) := (true, [([], []), ([0], [0]), ([], []), ([], []), ([2, 3], [2, 3]), ([4], [4]), ([5], [5]), ([1, 6], [1, 6]), ([0, 1, 2, 3, 4, 5, 6, 7], []), ([8, 7, 7, 0, 1, 2, 3, 4, 5, 6, 7], [7, 8])])
def cellarerref07_Keys.B21 : List Nat := [0, 1, 0, 0, 12, 28, 60, 127, 255, 511]
theorem cellarerref07_Keys.tab21 : rtab .any (opsOf Try.f17 21) = cellarerref07_Keys.T21 := by kernel_rfl
theorem cellarerref07_Keys.bits21 : waitsOk cellarerref07_Keys.T21.2 cellarerref07_Keys.B21 = true := by kernel_rfl
def cellarerref07_Keys.T22 : Bool × List (List Nat × List Nat) := (true, [([], []), ([0], [0]), ([], []), ([], []), ([2, 3], [2, 3]), ([4], [4]), ([5], [5]), ([1, 6], [1, 6]), ([0, 1, 2, 3, 4, 5, 6, 7], []), ([8, 7, 7, 0, 1, 2, 3, 4, 5, 6, 7], [7, 8])])
def cellarerref07_Keys.B22 : List Nat := [0, 1, 0, 0, 12, 28, 60, 127, 255, 511]
theorem cellarerref07_Keys.tab22 : rtab .any (opsOf Try.f17 22) = cellarerref07_Keys.T22 := by kernel_rfl
theorem cellarerref07_Keys.bits22 : waitsOk cellarerref07_Keys.T22.2 cellarerref07_Keys.B22 = true := by kernel_rfl
def cellarerref07_Keys.bs (n m : Nat) : Array Bool := ((List.range n).map fun i => m.testBit i).toArray
set_option maxHeartbeats 8000000 in
set_option maxRecDepth 100000 in
theorem cellarerref07_Keys.calls (k : Nat) (A0 : Option Addr) (c0 : Nat) (l0 : List (S50)) (a1 : ByteArray) (a2 : ByteArray) (a3 : ByteArray) (a4 : Int) (r1 : List ByteArray) (r2 : List ByteArray) (r3 : Bool) (r4 : ByteArray) (w : World) (hr0 : Kd.C k50 w A0 l0.length l0) (hc0 : l0.length ≤ c0) (h : cellarerref07_Keys.f k l0 a1 a2 a3 a4 = some (r1, r2, r3, r4)) :
  Calls Try.prog 17 #[.slice A0 l0.length c0, .string a1, .string a2, .string a3, .int .i64 a4] w fun e w' => ∃ v0_ v1_ : Value, e = .returned (.agg #[v0_, v1_, .bool r3, .string r4]) ∧ Kd.R Kd.string 9 w' w.heap.size (fun k_ => some k_ ≠ (v1_ : Value).ownBlock) v0_ r1 ∧ Kd.R Kd.string 9 w' w.heap.size (fun k_ => some k_ ≠ (v0_ : Value).ownBlock) v1_ r2 ∧ Below w.heap.size w w' := by
 have hu29 := Try.underlying29
 have hu50 := Try.underlying50
 have HR0 := Aside0.mk hr0
 have HC0 := Aside0.mk hc0
 clear hr0 hc0
 have HB := Aside0.mk (Below.refl w.heap.size w)
 have H : ((cellarerref07_Things.f k l0 a1 a2).bind fun t223 => (cellarerref07_Keys.l0 k l0 a1 a2 a3 a4 t223 0 0 ([] : List ByteArray) ([] : List ByteArray) false (⟨#[]⟩ : ByteArray))) = some (r1, r2, r3, r4) := h
 clear h
 replace H := Option.bind_eq_some_iff.mp H
 obtain ⟨t223, A60, H⟩ := H
 replace H : (cellarerref07_Keys.l0 k l0 a1 a2 a3 a4 t223 0 0 ([] : List ByteArray) ([] : List ByteArray) false (⟨#[]⟩ : ByteArray)) = some (r1, r2, r3, r4) := H
 have A6 := Aside0.mk A60
 clear A60
 have H' := Aside0.mk H
 clear H
 go_enter Try.func17, Try.ntmps17
 go_wp2_with (first | ((with_reducible refine gate_dst (N := 10) rfl ?_); refine box_event ?hg (N := 10) ?hd (cs := #[.slice none 0 0, .slice none 0 0, .bool false, .string (⟨#[]⟩ : ByteArray)]) (t := 29) ?hr ?_; (case hd => rfl); (case hg => rfl); (case hr => first | (go_simp; done) | (go_simp; rfl)); intro gb221 hg w7 hbox hb; have n0_ := Aside0.mk (below_step (by repeat (first | (with_reducible first | exact HB.out | apply below_alloc | apply pw_below_drewN | apply below_drew1) | exact HB.out)) hb); have n1_ := Aside0.mk (hbox); have n2_ := Aside0.mk ((by rw [hg]; exact (below_size (by repeat (first | (with_reducible first | exact HB.out | apply below_alloc | apply pw_below_drewN | apply below_drew1) | exact HB.out))) : w.heap.size ≤ gb221)); have n3_ := Aside0.mk ((by rw [hg]; exact (below_size (by repeat (first | (with_reducible first | exact HB.out | apply below_alloc | apply pw_below_drewN | apply below_drew1) | exact HB.out))) : w.heap.size ≤ gb221)); clear HB; have HB := n0_; have BK221 := n1_; have GW221 := n2_; have GE221 := n3_; clear n0_ n1_ n2_ n3_; clear hb hbox hg) | ((with_reducible refine gate_dst (N := 11) rfl ?_); refine box_event ?hg (N := 11) ?hd (cs := #[.slice none 0 0, .slice none 0 0, .bool false, .string (⟨#[]⟩ : ByteArray)]) (t := 29) ?hr ?_; (case hd => rfl); (case hg => rfl); (case hr => first | (go_simp; done) | (go_simp; rfl)); intro gb222 hg w8 hbox hb; have n0_ := Aside0.mk (blk_below (g := gb221) (o := .cells #[.slice none 0 0, .slice none 0 0, .bool false, .string (⟨#[]⟩ : ByteArray)] 29 (0, 0)) (by (with_reducible repeat (first | refine blk_drewN ?_ _ | refine blk_drew ?_ | refine blk_alloc ?_ _)); exact BK221.out) hb); have n1_ := Aside0.mk (below_step (by repeat (first | (with_reducible first | exact HB.out | apply below_alloc | apply pw_below_drewN | apply below_drew1 | refine below_set ?_ GE221.out) | exact HB.out)) hb); have n2_ := Aside0.mk (hbox); have n3_ := Aside0.mk ((by rw [hg]; exact (below_size (by repeat (first | (with_reducible first | exact HB.out | apply below_alloc | apply pw_below_drewN | apply below_drew1 | refine below_set ?_ GE221.out) | exact HB.out))) : w.heap.size ≤ gb222)); have n4_ := Aside0.mk ((by rw [hg]; exact (below_size (by repeat (first | (with_reducible first | exact HB.out | apply below_alloc | apply pw_below_drewN | apply below_drew1 | refine below_set ?_ GE221.out) | exact HB.out))) : w.heap.size ≤ gb222)); have n5_ := Aside0.mk ((by rw [hg]; exact Nat.ne_of_lt (blk_lt (g := gb221) (o := .cells #[.slice none 0 0, .slice none 0 0, .bool false, .string (⟨#[]⟩ : ByteArray)] 29 (0, 0)) (by (with_reducible repeat (first | refine blk_drewN ?_ _ | refine blk_drew ?_ | refine blk_alloc ?_ _)); exact BK221.out)) : gb221 ≠ gb222)); have n6_ := Aside0.mk ((by rw [hg]; exact Nat.ne_of_gt (blk_lt (g := gb221) (o := .cells #[.slice none 0 0, .slice none 0 0, .bool false, .string (⟨#[]⟩ : ByteArray)] 29 (0, 0)) (by (with_reducible repeat (first | refine blk_drewN ?_ _ | refine blk_drew ?_ | refine blk_alloc ?_ _)); exact BK221.out)) : gb222 ≠ gb221)); clear BK221; clear HB; have BK221 := n0_; have HB := n1_; have BK222 := n2_; have GW222 := n3_; have GE222 := n4_; have NB221_222 := n5_; have NB222_221 := n6_; clear n0_ n1_ n2_ n3_ n4_ n5_ n6_; clear hb hbox hg; have hnb9 := NB222_221.out; have hnc9 := NB221_222.out; have hcz10_0 : w8.cell? ⟨gb222, 0, none⟩ = some (.slice none 0 0) := (blk_cell BK222.out 0).trans rfl; have hcz10_1 : w8.cell? ⟨gb222, 1, none⟩ = some (.slice none 0 0) := (blk_cell BK222.out 1).trans rfl; have hcz10_2 : w8.cell? ⟨gb222, 2, none⟩ = some (.bool false) := (blk_cell BK222.out 2).trans rfl; have hcz10_3 : w8.cell? ⟨gb222, 3, none⟩ = some (.string (⟨#[]⟩ : ByteArray)) := (blk_cell BK222.out 3).trans rfl; have hfz10_0 := blk_frozen BK222.out 0; have hfz10_1 := blk_frozen BK222.out 1; have hfz10_2 := blk_frozen BK222.out 2; have hfz10_3 := blk_frozen BK222.out 3) | ((with_reducible refine gate_callee (f := 16) rfl ?_); refine goesL_ (some 25) rfl rfl Try.func16 (by kernel_rfl) rfl #[.slice A0 l0.length c0, .string a1, .string a2] rfl (by (try simp only [List.map_toArray, List.map_cons, List.map_nil]); first | done | rfl | (simp only [List.length_drop, List.length_take]; rfl)) ?_; (with_reducible refine (cellarerref07_Things.calls k _ _ l0 a1 a2 t223 _ ?side1 ?side2 A6.out).mono ?_); (case side1 => exact Kd.C_below HR0.out (by repeat (first | (with_reducible first | exact HB.out | apply below_alloc | apply pw_below_drewN | apply below_drew1 | refine below_set ?_ GE221.out | refine below_set ?_ GE222.out) | exact HB.out))); (case side2 => exact HC0.out); rintro e w11 ⟨v224, rfl, ho0, hb⟩; refine ⟨_, rfl, ?_⟩; have n0_ := Aside0.mk (Kd.R_lower ho0 (below_size (by repeat (first | (with_reducible first | exact HB.out | apply below_alloc | apply pw_below_drewN | apply below_drew1 | refine below_set ?_ GE221.out | refine below_set ?_ GE222.out) | exact HB.out)))); have n1_ := Aside0.mk (blk_below (g := gb221) (o := .cells #[.slice none 0 0, .slice none 0 0, .bool false, .string (⟨#[]⟩ : ByteArray)] 29 (0, 0)) (by (with_reducible repeat (first | refine blk_drewN ?_ _ | refine blk_drew ?_ | refine blk_alloc ?_ _)); refine blk_far ?_ NB221_222.out _; (with_reducible repeat (first | refine blk_drewN ?_ _ | refine blk_drew ?_ | refine blk_alloc ?_ _)); refine blk_far ?_ NB221_222.out _; (with_reducible repeat (first | refine blk_drewN ?_ _ | refine blk_drew ?_ | refine blk_alloc ?_ _)); refine blk_far ?_ NB221_222.out _; (with_reducible repeat (first | refine blk_drewN ?_ _ | refine blk_drew ?_ | refine blk_alloc ?_ _)); refine blk_far ?_ NB221_222.out _; (with_reducible repeat (first | refine blk_drewN ?_ _ | refine blk_drew ?_ | refine blk_alloc ?_ _)); exact BK221.out) hb); have n2_ := Aside0.mk (blk_below (g := gb222) (o := .cells #[.slice none 0 0, .slice none 0 0, .bool false, .string (⟨#[]⟩ : ByteArray)] 29 (0, 0)) (by (with_reducible repeat (first | refine blk_drewN ?_ _ | refine blk_drew ?_ | refine blk_alloc ?_ _)); refine blk_put (cs := #[.slice none 0 0, .slice none 0 0, .bool false, .string (⟨#[]⟩ : ByteArray)]) ?_ 3 _ rfl; (with_reducible repeat (first | refine blk_drewN ?_ _ | refine blk_drew ?_ | refine blk_alloc ?_ _)); refine blk_put (cs := #[.slice none 0 0, .slice none 0 0, .bool false, .string (⟨#[]⟩ : ByteArray)]) ?_ 2 _ rfl; (with_reducible repeat (first | refine blk_drewN ?_ _ | refine blk_drew ?_ | refine blk_alloc ?_ _)); refine blk_put (cs := #[.slice none 0 0, .slice none 0 0, .bool false, .string (⟨#[]⟩ : ByteArray)]) ?_ 1 _ rfl; (with_reducible repeat (first | refine blk_drewN ?_ _ | refine blk_drew ?_ | refine blk_alloc ?_ _)); refine blk_put (cs := #[.slice none 0 0, .slice none 0 0, .bool false, .string (⟨#[]⟩ : ByteArray)]) ?_ 0 _ rfl; (with_reducible repeat (first | refine blk_drewN ?_ _ | refine blk_drew ?_ | refine blk_alloc ?_ _)); exact BK222.out) hb); have n3_ := Aside0.mk (below_step (by repeat (first | (with_reducible first | exact HB.out | apply below_alloc | apply pw_below_drewN | apply below_drew1 | refine below_set ?_ GE221.out | refine below_set ?_ GE222.out) | exact HB.out)) hb); clear BK221; clear BK222; clear HB; have HO225 := n0_; have BK221 := n1_; have BK222 := n2_; have HB := n3_; clear n0_ n1_ n2_ n3_; (try clear hb); (try clear hb2); (try clear hk); (try clear hi); (try clear ho0)))
 go_loopg [13, 14] k (fun kq v13 v14 w' => ∃ (x13_1 : Int) (x14_1 : Int) (x222002_1 : Bool) (x222003_1 : ByteArray) (x223000_1 : List ByteArray) (x223001_1 : List ByteArray) (x223002_1 : Bool) (x223003_1 : ByteArray) (u223000 : Value) (u223001 : Value), v13 = .int .i64 x13_1 ∧ v14 = .int .i64 x14_1 ∧ Aside0 (cellarerref07_Keys.l0 kq l0 a1 a2 a3 a4 t223 x13_1 x14_1 x223000_1 x223001_1 x223002_1 x223003_1 = some (r1, r2, r3, r4)) ∧ Aside0 (kq ≤ k) ∧ Aside0 (Kd.R Kd.string 9 w' w.heap.size (fun k_ => some k_ ≠ (u223000 : Value).ownBlock ∧ some k_ ≠ (u223001 : Value).ownBlock) v224 t223) ∧ Aside0 (Kd.R Kd.string 9 w' w.heap.size (fun k_ => some k_ ≠ (v224 : Value).ownBlock ∧ some k_ ≠ (u223001 : Value).ownBlock) u223000 x223000_1) ∧ Aside0 (Kd.R Kd.string 9 w' w.heap.size (fun k_ => some k_ ≠ (v224 : Value).ownBlock ∧ some k_ ≠ (u223000 : Value).ownBlock) u223001 x223001_1) ∧ Aside0 (w'.heap[gb221]? = some (.cells #[(.slice none 0 0), (.slice none 0 0), .bool x222002_1, .string x222003_1] 29 (0, 0))) ∧ Aside0 (w'.heap[gb222]? = some (.cells #[u223000, u223001, .bool x223002_1, .string x223003_1] 29 (0, 0))) ∧ Aside0 (Below w.heap.size w w'))
 case atStart => exact ⟨(0), (0), (false), ((⟨#[]⟩ : ByteArray)), (([] : List ByteArray)), (([] : List ByteArray)), (false), ((⟨#[]⟩ : ByteArray)), (.slice none 0 0), (.slice none 0 0), (by first | rfl | (simp; done) | (simp [*]; done)), (by first | rfl | (simp; done) | (simp [*]; done)), H', ⟨Nat.le_refl _⟩, ⟨by (with_reducible repeat (first | apply Kd.R_alloc | apply Kd.R_drewN | apply Kd.R_drew)); exact Kd.R_mono HO225.out (fun _ hk => ⟨(by simp [Value.ownBlock]), (by simp [Value.ownBlock])⟩)⟩, ⟨by first | exact Kd.R_nil _ _ _ _ _ | exact Kd.N_nil _ _ _ _ _ | exact Kd.V_nil _ _ _ _ _ | exact Kd.Q_nil _ _ _ _ _ | exact Kd.S_nil _ _ _ _ _⟩, ⟨by first | exact Kd.R_nil _ _ _ _ _ | exact Kd.N_nil _ _ _ _ _ | exact Kd.V_nil _ _ _ _ _ | exact Kd.Q_nil _ _ _ _ _ | exact Kd.S_nil _ _ _ _ _⟩, ⟨by (with_reducible repeat (first | refine blk_drewN ?_ _ | refine blk_drew ?_ | refine blk_alloc ?_ _)); exact BK221.out⟩, ⟨by (with_reducible repeat (first | refine blk_drewN ?_ _ | refine blk_drew ?_ | refine blk_alloc ?_ _)); exact BK222.out⟩, ⟨by repeat (first | (with_reducible first | exact HB.out | apply below_alloc | apply pw_below_drewN | apply below_drew1 | refine below_set ?_ GE221.out | refine below_set ?_ GE222.out) | exact HB.out)⟩⟩
 case round =>
  clear H'
  try clear c1
  try clear p2
  try clear c9
  try clear hcz10_0
  try clear hcz10_1
  try clear hcz10_2
  try clear hcz10_3
  try clear hfz10_0
  try clear hfz10_1
  try clear hfz10_2
  try clear hfz10_3
  obtain ⟨x13_1, x14_1, x222002_1, x222003_1, x223000_1, x223001_1, x223002_1, x223003_1, u223000, u223001, rfl, rfl, HA, HK1, HO_12, HO_223000, HO_223001, BK221, BK222, HB⟩ := hrel
  cases gk with
  | zero => exact absurd HA.out (by simp [cellarerref07_Keys.l0])
  | succ k1 =>
   have H := HA.out
   clear HA
   simp only [cellarerref07_Keys.l0] at H
   by_cases c12 : x14_1 < (t223.length : Int)
   ·rw [if_pos c12] at H
    have c12b0 : decide (x14_1 < (t223.length : Int)) = true := decide_eq_true c12
    clear c12
    have HC13 := Aside0.mk H
    clear H
    obtain ⟨Ao14, co14, eo14⟩ := Kd.R_slice HO_12.out
    subst eo14
    go_upto_region 7 with (fail)
    go_cut [41] (fun v41 wc => ∃ (kq : Nat) (x41_12 : Bool), v41 = .bool x41_12 ∧ Aside0 (cellarerref07_Keys.j1 kq l0 a1 a2 a3 a4 t223 x13_1 x14_1 x41_12 x223000_1 x223001_1 x223002_1 x223003_1 = some (r1, r2, r3, r4)) ∧ Aside0 (kq ≤ k1) ∧ Aside0 (Kd.R Kd.string 9 wc w.heap.size (fun k_ => some k_ ≠ (u223000 : Value).ownBlock ∧ some k_ ≠ (u223001 : Value).ownBlock) (.slice Ao14 t223.length co14) t223) ∧ Aside0 (Kd.R Kd.string 9 wc w.heap.size (fun k_ => some k_ ≠ ((.slice Ao14 t223.length co14) : Value).ownBlock ∧ some k_ ≠ (u223001 : Value).ownBlock) u223000 x223000_1) ∧ Aside0 (Kd.R Kd.string 9 wc w.heap.size (fun k_ => some k_ ≠ ((.slice Ao14 t223.length co14) : Value).ownBlock ∧ some k_ ≠ (u223000 : Value).ownBlock) u223001 x223001_1) ∧ Aside0 (wc.heap[gb221]? = some (.cells #[(.slice none 0 0), (.slice none 0 0), .bool x222002_1, .string x222003_1] 29 (0, 0))) ∧ Aside0 (wc.heap[gb222]? = some (.cells #[u223000, u223001, .bool x223002_1, .string x223003_1] 29 (0, 0))) ∧ Aside0 (Below w.heap.size w wc))
    case first =>
     have H := HC13.out
     clear HC13
     by_cases c15 : a3.toList = ([] : List UInt8)
     ·rw [if_pos c15] at H
      have c15b0 : (a3.toList == ([] : List UInt8)) = true := beq_iff_eq.mpr c15
      have c15b1 : (a3.toList != ([] : List UInt8)) = false := bne_eq_false_iff_eq.mpr c15
      clear c15
      (first | rw [c15b0] | rw [c15b1] | (simp only [i64_w, i32_w]; rw [c15b0]) | skip)
      have H' := Aside0.mk H
      clear H
      go_wp2
      go_meet
      case rel => exact ⟨_, (false), (by first | rfl | (simp; done) | (simp [*]; done)), H', ⟨by have := HK1.out; first | omega | exact Nat.le_refl _⟩, ⟨by (with_reducible repeat (first | apply Kd.R_alloc | apply Kd.R_drewN | apply Kd.R_drew)); exact HO_12.out⟩, ⟨by (with_reducible repeat (first | apply Kd.R_alloc | apply Kd.R_drewN | apply Kd.R_drew)); exact HO_223000.out⟩, ⟨by (with_reducible repeat (first | apply Kd.R_alloc | apply Kd.R_drewN | apply Kd.R_drew)); exact HO_223001.out⟩, ⟨by (with_reducible repeat (first | refine blk_drewN ?_ _ | refine blk_drew ?_ | refine blk_alloc ?_ _)); exact BK221.out⟩, ⟨by (with_reducible repeat (first | refine blk_drewN ?_ _ | refine blk_drew ?_ | refine blk_alloc ?_ _)); exact BK222.out⟩, ⟨by repeat (first | (with_reducible first | exact HB.out | apply below_alloc | apply pw_below_drewN | apply below_drew1 | refine below_set ?_ GE221.out | refine below_set ?_ GE222.out) | exact HB.out)⟩⟩
     ·rw [if_neg c15] at H
      have c15b0 : (a3.toList == ([] : List UInt8)) = false := beq_eq_false_iff_ne.mpr c15
      have c15b1 : (a3.toList != ([] : List UInt8)) = true := bne_iff_ne.mpr c15
      (first | rw [c15b0] | rw [c15b1] | (simp only [i64_w, i32_w]; rw [c15b0]) | skip)
      by_cases c16 : 0 ≤ x14_1
      ·rw [if_pos c16] at H
       have c16b0 : decide (0 ≤ x14_1) = true := decide_eq_true c16
       clear c16
       have H' := Aside0.mk H
       clear H
       have p226 : 0 ≤ (x14_1 : Int) := of_decide_eq_true (by first | (with_reducible assumption) | assumption)
       have q226 : x14_1 < (t223.length : Int) := of_decide_eq_true (by first | (with_reducible assumption) | assumption)
       obtain ⟨ad226, e226, hx226_0⟩ := Kd.at_string (Kd.R_reads' HO_12.out).2.2 x14_1 p226 q226
       cases e226
       replace p226 := eq_true p226
       replace q226 := eq_true q226
       go_wp2
       go_meet
       case rel => exact ⟨_, (!(Op.bytesLess a3.toList ((rdOf ByteArray.empty t223 x14_1).toList))), (by first | rfl | (simp; done) | (simp [*]; done)), H', ⟨by have := HK1.out; first | omega | exact Nat.le_refl _⟩, ⟨by (with_reducible repeat (first | apply Kd.R_alloc | apply Kd.R_drewN | apply Kd.R_drew)); exact HO_12.out⟩, ⟨by (with_reducible repeat (first | apply Kd.R_alloc | apply Kd.R_drewN | apply Kd.R_drew)); exact HO_223000.out⟩, ⟨by (with_reducible repeat (first | apply Kd.R_alloc | apply Kd.R_drewN | apply Kd.R_drew)); exact HO_223001.out⟩, ⟨by (with_reducible repeat (first | refine blk_drewN ?_ _ | refine blk_drew ?_ | refine blk_alloc ?_ _)); exact BK221.out⟩, ⟨by (with_reducible repeat (first | refine blk_drewN ?_ _ | refine blk_drew ?_ | refine blk_alloc ?_ _)); exact BK222.out⟩, ⟨by repeat (first | (with_reducible first | exact HB.out | apply below_alloc | apply pw_below_drewN | apply below_drew1 | refine below_set ?_ GE221.out | refine below_set ?_ GE222.out) | exact HB.out)⟩⟩
      ·rw [if_neg c16] at H
       exact absurd H (by simp)
    case rest =>
     clear HC13
     try clear c1
     try clear p2
     try clear q2
     try clear hx2
     try clear c9
     try clear c12
     try clear c12b0
     try clear c15
     try clear c15b0
     try clear c15b1
     try clear c16
     try clear c16b0
     try clear hcz10_0
     try clear hcz10_1
     try clear hcz10_2
     try clear hcz10_3
     try clear hfz10_0
     try clear hfz10_1
     try clear hfz10_2
     try clear hfz10_3
     try clear hx226_0
     try clear p2
     try clear p226
     try clear q226
     obtain ⟨kq, x41_12, rfl, HA, HJ12, HO_12, HO_223000, HO_223001, BK221, BK222, HB⟩ := hcut
     cases kq with
     | zero => exact absurd HA.out (by simp [cellarerref07_Keys.j1])
     | succ kj12 =>
      have H := HA.out
      clear HA
      simp only [cellarerref07_Keys.j1] at H
      by_cases c17 : x41_12 = true
      ·subst c17
       have H1 : (cellarerref07_Keys.l0 kj12 l0 a1 a2 a3 a4 t223 x13_1 (wrap64 (x14_1 + 1)) x223000_1 x223001_1 x223002_1 x223003_1) = some (r1, r2, r3, r4) := by rw [if_pos rfl] at H; exact H
       clear H
       have H := H1
       clear H1
       have H' := Aside0.mk H
       clear H
       go_wp2
       go_roundg kj12
       case measure => have := HK1.out; have := HJ12.out; omega
       case rel => exact ⟨(x13_1), (wrap64 (x14_1 + 1)), (x222002_1), (x222003_1), (x223000_1), (x223001_1), (x223002_1), (x223003_1), (u223000), (u223001), (by first | rfl | (simp; done) | (simp [*]; done)), (by first | rfl | (simp; done) | (simp [*]; done)), H', ⟨by have := HK1.out; have := HJ12.out; omega⟩, ⟨by (with_reducible repeat (first | apply Kd.R_alloc | apply Kd.R_drewN | apply Kd.R_drew)); exact HO_12.out⟩, ⟨by (with_reducible repeat (first | apply Kd.R_alloc | apply Kd.R_drewN | apply Kd.R_drew)); exact HO_223000.out⟩, ⟨by (with_reducible repeat (first | apply Kd.R_alloc | apply Kd.R_drewN | apply Kd.R_drew)); exact HO_223001.out⟩, ⟨by (with_reducible repeat (first | refine blk_drewN ?_ _ | refine blk_drew ?_ | refine blk_alloc ?_ _)); exact BK221.out⟩, ⟨by (with_reducible repeat (first | refine blk_drewN ?_ _ | refine blk_drew ?_ | refine blk_alloc ?_ _)); exact BK222.out⟩, ⟨by repeat (first | (with_reducible first | exact HB.out | apply below_alloc | apply pw_below_drewN | apply below_drew1 | refine below_set ?_ GE221.out | refine below_set ?_ GE222.out) | exact HB.out)⟩⟩
      ·replace c17 := Bool.eq_false_iff.mpr c17
       subst c17
       have H1 : (if x13_1 = a4 then (some (x223000_1, x223001_1, true, x223003_1)) else (if 0 ≤ x14_1 then (if x14_1 < (t223.length : Int) then (cellarerref07_Keys.l1 kj12 l0 a1 a2 a3 a4 t223 (wrap64 (x13_1 + 1)) x14_1 false 0 x223000_1 x223001_1 x223002_1 (rdOf ByteArray.empty t223 x14_1)) else (none)) else (none))) = some (r1, r2, r3, r4) := by rw [if_neg (show ¬ (false = true) by decide)] at H; exact H
       clear H
       have H := H1
       clear H1
       by_cases c18 : x13_1 = a4
       ·rw [if_pos c18] at H
        have c18b0 : (x13_1 == a4) = true := beq_iff_eq.mpr c18
        have c18b1 : (x13_1 != a4) = false := bne_eq_false_iff_eq.mpr c18
        clear c18
        simp only [Option.some.injEq, Prod.mk.injEq] at H
        obtain ⟨rfl, rfl, rfl, rfl⟩ := H
        have hnb19 := NB222_221.out
        have hnc19 := NB221_222.out
        have hcz20_0 : wc.cell? ⟨gb222, 0, none⟩ = some (u223000) := (blk_cell BK222.out 0).trans rfl
        have hcz20_1 : wc.cell? ⟨gb222, 1, none⟩ = some (u223001) := (blk_cell BK222.out 1).trans rfl
        have hcz20_2 : wc.cell? ⟨gb222, 2, none⟩ = some (.bool x223002_1) := (blk_cell BK222.out 2).trans rfl
        have hcz20_3 : wc.cell? ⟨gb222, 3, none⟩ = some (.string x223003_1) := (blk_cell BK222.out 3).trans rfl
        have hfz20_0 := blk_frozen BK222.out 0
        have hfz20_1 := blk_frozen BK222.out 1
        have hfz20_2 := blk_frozen BK222.out 2
        have hfz20_3 := blk_frozen BK222.out 3
        obtain ⟨Ao21, co21, eo21⟩ := Kd.R_slice HO_223000.out
        subst eo21
        have hcz22_0 : wc.cell? ⟨gb221, 0, none⟩ = some (.slice none 0 0) := (blk_cell BK221.out 0).trans rfl
        have hcz22_1 : wc.cell? ⟨gb221, 1, none⟩ = some (.slice none 0 0) := (blk_cell BK221.out 1).trans rfl
        have hcz22_2 : wc.cell? ⟨gb221, 2, none⟩ = some (.bool x222002_1) := (blk_cell BK221.out 2).trans rfl
        have hcz22_3 : wc.cell? ⟨gb221, 3, none⟩ = some (.string x222003_1) := (blk_cell BK221.out 3).trans rfl
        have hfz22_0 := blk_frozen BK221.out 0
        have hfz22_1 := blk_frozen BK221.out 1
        have hfz22_2 := blk_frozen BK221.out 2
        have hfz22_3 := blk_frozen BK221.out 3
        obtain ⟨Ao23, co23, eo23⟩ := Kd.R_slice HO_223001.out
        subst eo23
        go_wp2
        refine bodyPost_ret (results_cell_row rfl _ _ gb221 29 #[.slice Ao21 x223000_1.length co21, .slice Ao23 x223001_1.length co23, .bool true, .string x223003_1] (0, 0) _ rfl (by (with_reducible repeat (first | refine blk_drewN ?_ _ | refine blk_drew ?_ | refine blk_alloc ?_ _)); refine blk_put (cs := #[.slice Ao21 x223000_1.length co21, .slice Ao23 x223001_1.length co23, .bool true, .string x222003_1]) ?_ 3 _ rfl; (with_reducible repeat (first | refine blk_drewN ?_ _ | refine blk_drew ?_ | refine blk_alloc ?_ _)); refine blk_put (cs := #[.slice Ao21 x223000_1.length co21, .slice Ao23 x223001_1.length co23, .bool x222002_1, .string x222003_1]) ?_ 2 _ rfl; (with_reducible repeat (first | refine blk_drewN ?_ _ | refine blk_drew ?_ | refine blk_alloc ?_ _)); refine blk_put (cs := #[.slice Ao21 x223000_1.length co21, .slice none 0 0, .bool x222002_1, .string x222003_1]) ?_ 1 _ rfl; (with_reducible repeat (first | refine blk_drewN ?_ _ | refine blk_drew ?_ | refine blk_alloc ?_ _)); refine blk_put (cs := #[.slice none 0 0, .slice none 0 0, .bool x222002_1, .string x222003_1]) ?_ 0 _ rfl; (with_reducible repeat (first | refine blk_drewN ?_ _ | refine blk_drew ?_ | refine blk_alloc ?_ _)); refine blk_far ?_ NB221_222.out _; (with_reducible repeat (first | refine blk_drewN ?_ _ | refine blk_drew ?_ | refine blk_alloc ?_ _)); exact BK221.out) Try.underlying29 rfl (by kernel_rfl)) rfl ?_
        exact ⟨_, _, by first | rfl | (simp [errW_none, errW_some] <;> rfl) | (simp [*, errW_none, errW_some] <;> rfl), by (with_reducible repeat (first | apply Kd.R_alloc | apply Kd.R_drewN | apply Kd.R_drew)); exact Kd.R_mono (Kd.R_far (p := ⟨gb221, 3, none⟩) (Kd.R_far (p := ⟨gb221, 2, none⟩) (Kd.R_far (p := ⟨gb221, 1, none⟩) (Kd.R_far (p := ⟨gb221, 0, none⟩) (Kd.R_far (p := ⟨gb222, 2, none⟩) (Kd.R_types (Kd.R_types HO_223000.out BK222.out (by decide)) BK221.out (by decide)) (fun _ hk => hk.1.2) (.bool true)) (fun _ hk => hk.2) (.slice Ao21 x223000_1.length co21)) (fun _ hk => hk.2) (.slice Ao23 x223001_1.length co23)) (fun _ hk => hk.2) (.bool true)) (fun _ hk => hk.2) (.string x223003_1)) (fun _ hk => hk.1.1.2), by (with_reducible repeat (first | apply Kd.R_alloc | apply Kd.R_drewN | apply Kd.R_drew)); exact Kd.R_mono (Kd.R_far (p := ⟨gb221, 3, none⟩) (Kd.R_far (p := ⟨gb221, 2, none⟩) (Kd.R_far (p := ⟨gb221, 1, none⟩) (Kd.R_far (p := ⟨gb221, 0, none⟩) (Kd.R_far (p := ⟨gb222, 2, none⟩) (Kd.R_types (Kd.R_types HO_223001.out BK222.out (by decide)) BK221.out (by decide)) (fun _ hk => hk.1.2) (.bool true)) (fun _ hk => hk.2) (.slice Ao21 x223000_1.length co21)) (fun _ hk => hk.2) (.slice Ao23 x223001_1.length co23)) (fun _ hk => hk.2) (.bool true)) (fun _ hk => hk.2) (.string x223003_1)) (fun _ hk => hk.1.1.2), by repeat (first | (with_reducible first | exact HB.out | apply below_alloc | apply pw_below_drewN | apply below_drew1 | refine below_set ?_ GE221.out | refine below_set ?_ GE222.out) | exact HB.out)⟩
       ·rw [if_neg c18] at H
        have c18b0 : (x13_1 == a4) = false := beq_eq_false_iff_ne.mpr c18
        have c18b1 : (x13_1 != a4) = true := bne_iff_ne.mpr c18
        by_cases c24 : 0 ≤ x14_1
        ·rw [if_pos c24] at H
         have c24b0 : decide (0 ≤ x14_1) = true := decide_eq_true c24
         clear c24
         by_cases c25 : x14_1 < (t223.length : Int)
         ·rw [if_pos c25] at H
          have c25b0 : decide (x14_1 < (t223.length : Int)) = true := decide_eq_true c25
          clear c25
          have H' := Aside0.mk H
          clear H
          have p227 : 0 ≤ (x14_1 : Int) := of_decide_eq_true (by first | (with_reducible assumption) | assumption)
          have q227 : x14_1 < (t223.length : Int) := of_decide_eq_true (by first | (with_reducible assumption) | assumption)
          obtain ⟨ad227, e227, hx227_0⟩ := Kd.at_string (Kd.R_reads' HO_12.out).2.2 x14_1 p227 q227
          cases e227
          replace p227 := eq_true p227
          replace q227 := eq_true q227
          have hnb26 := NB222_221.out
          have hnc26 := NB221_222.out
          have hcz27_0 : wc.cell? ⟨gb222, 0, none⟩ = some (u223000) := (blk_cell BK222.out 0).trans rfl
          have hcz27_1 : wc.cell? ⟨gb222, 1, none⟩ = some (u223001) := (blk_cell BK222.out 1).trans rfl
          have hcz27_2 : wc.cell? ⟨gb222, 2, none⟩ = some (.bool x223002_1) := (blk_cell BK222.out 2).trans rfl
          have hcz27_3 : wc.cell? ⟨gb222, 3, none⟩ = some (.string x223003_1) := (blk_cell BK222.out 3).trans rfl
          have hfz27_0 := blk_frozen BK222.out 0
          have hfz27_1 := blk_frozen BK222.out 1
          have hfz27_2 := blk_frozen BK222.out 2
          have hfz27_3 := blk_frozen BK222.out 3
          go_wp2
          go_loopg [15, 16] kj12 (fun kq v15 v16 w' => ∃ (x15_3 : Bool) (x16_3 : Int), v15 = .bool x15_3 ∧ v16 = .int .i64 x16_3 ∧ Aside0 (cellarerref07_Keys.l1 kq l0 a1 a2 a3 a4 t223 (wrap64 (x13_1 + 1)) x14_1 x15_3 x16_3 x223000_1 x223001_1 x223002_1 (rdOf ByteArray.empty t223 x14_1) = some (r1, r2, r3, r4)) ∧ Aside0 (kq ≤ kj12) ∧ Aside0 (Kd.R Kd.string 9 w' w.heap.size (fun k_ => some k_ ≠ (u223000 : Value).ownBlock ∧ some k_ ≠ (u223001 : Value).ownBlock) (.slice (some ad227) t223.length co14) t223) ∧ Aside0 (Kd.R Kd.string 9 w' w.heap.size (fun k_ => some k_ ≠ ((.slice (some ad227) t223.length co14) : Value).ownBlock ∧ some k_ ≠ (u223001 : Value).ownBlock) u223000 x223000_1) ∧ Aside0 (Kd.R Kd.string 9 w' w.heap.size (fun k_ => some k_ ≠ ((.slice (some ad227) t223.length co14) : Value).ownBlock ∧ some k_ ≠ (u223000 : Value).ownBlock) u223001 x223001_1) ∧ Aside0 (w'.heap[gb221]? = some (.cells #[(.slice none 0 0), (.slice none 0 0), .bool x222002_1, .string x222003_1] 29 (0, 0))) ∧ Aside0 (w'.heap[gb222]? = some (.cells #[u223000, u223001, .bool x223002_1, .string (rdOf ByteArray.empty t223 x14_1)] 29 (0, 0))) ∧ Aside0 (Below w.heap.size w w'))
          case atStart => exact ⟨(false), (0), (by first | rfl | (simp; done) | (simp [*]; done)), (by first | rfl | (simp; done) | (simp [*]; done)), H', ⟨Nat.le_refl _⟩, ⟨by (with_reducible repeat (first | apply Kd.R_alloc | apply Kd.R_drewN | apply Kd.R_drew)); exact Kd.R_mono (Kd.R_far (p := ⟨gb222, 3, none⟩) (Kd.R_types HO_12.out BK222.out (by decide)) (fun _ hk => hk.2) (.string (rdOf ByteArray.empty t223 x14_1))) (fun _ hk => ⟨hk.1.1, hk.1.2⟩)⟩, ⟨by (with_reducible repeat (first | apply Kd.R_alloc | apply Kd.R_drewN | apply Kd.R_drew)); exact Kd.R_mono (Kd.R_far (p := ⟨gb222, 3, none⟩) (Kd.R_types HO_223000.out BK222.out (by decide)) (fun _ hk => hk.2) (.string (rdOf ByteArray.empty t223 x14_1))) (fun _ hk => ⟨hk.1.1, hk.1.2⟩)⟩, ⟨by (with_reducible repeat (first | apply Kd.R_alloc | apply Kd.R_drewN | apply Kd.R_drew)); exact Kd.R_mono (Kd.R_far (p := ⟨gb222, 3, none⟩) (Kd.R_types HO_223001.out BK222.out (by decide)) (fun _ hk => hk.2) (.string (rdOf ByteArray.empty t223 x14_1))) (fun _ hk => ⟨hk.1.1, hk.1.2⟩)⟩, ⟨by (with_reducible repeat (first | refine blk_drewN ?_ _ | refine blk_drew ?_ | refine blk_alloc ?_ _)); refine blk_far ?_ NB221_222.out _; (with_reducible repeat (first | refine blk_drewN ?_ _ | refine blk_drew ?_ | refine blk_alloc ?_ _)); exact BK221.out⟩, ⟨by (with_reducible repeat (first | refine blk_drewN ?_ _ | refine blk_drew ?_ | refine blk_alloc ?_ _)); refine blk_put (cs := #[u223000, u223001, .bool x223002_1, .string x223003_1]) ?_ 3 _ rfl; (with_reducible repeat (first | refine blk_drewN ?_ _ | refine blk_drew ?_ | refine blk_alloc ?_ _)); exact BK222.out⟩, ⟨by repeat (first | (with_reducible first | exact HB.out | apply below_alloc | apply pw_below_drewN | apply below_drew1 | refine below_set ?_ GE221.out | refine below_set ?_ GE222.out) | exact HB.out)⟩⟩
          case round =>
           clear H'
           try clear c1
           try clear c2
           try clear p2
           try clear q2
           try clear hx2
           try clear p6
           try clear c9
           try clear c12
           try clear c12b0
           try clear c15
           try clear c15b0
           try clear c15b1
           try clear c16
           try clear c16b0
           try clear c17
           try clear c18
           try clear c18b0
           try clear c18b1
           try clear c19
           try clear p22
           try clear q22
           try clear hx22
           try clear c24
           try clear c24b0
           try clear c25
           try clear c25b0
           try clear c26
           try clear hcz10_0
           try clear hcz10_1
           try clear hcz10_2
           try clear hcz10_3
           try clear hcz20_0
           try clear hcz20_1
           try clear hcz20_2
           try clear hcz20_3
           try clear hcz22_0
           try clear hcz22_1
           try clear hcz22_2
           try clear hcz22_3
           try clear hcz27_0
           try clear hcz27_1
           try clear hcz27_2
           try clear hcz27_3
           try clear hfz10_0
           try clear hfz10_1
           try clear hfz10_2
           try clear hfz10_3
           try clear hfz20_0
           try clear hfz20_1
           try clear hfz20_2
           try clear hfz20_3
           try clear hfz22_0
           try clear hfz22_1
           try clear hfz22_2
           try clear hfz22_3
           try clear hfz27_0
           try clear hfz27_1
           try clear hfz27_2
           try clear hfz27_3
           try clear hx226_0
           try clear hx227_0
           try clear p2
           try clear p226
           try clear p227
           try clear q2
           try clear q226
           try clear q227
           obtain ⟨x15_3, x16_3, rfl, rfl, HA, HK3, HO_12, HO_223000, HO_223001, BK221, BK222, HB⟩ := hrel
           cases gk with
           | zero => exact absurd HA.out (by simp [cellarerref07_Keys.l1])
           | succ k3 =>
            have H := HA.out
            clear HA
            simp only [cellarerref07_Keys.l1] at H
            by_cases c28 : x16_3 < (l0.length : Int)
            ·rw [if_pos c28] at H
             have c28b0 : decide (x16_3 < (l0.length : Int)) = true := decide_eq_true c28
             clear c28
             by_cases c29 : 0 ≤ x16_3
             ·rw [if_pos c29] at H
              have c29b0 : decide (0 ≤ x16_3) = true := decide_eq_true c29
              clear c29
              replace H := Option.bind_eq_some_iff.mp H
              obtain ⟨⟨t229, t230⟩, A300, H⟩ := H
              replace H : ((cellarerref01_Group.f k3 ((rd_T50 l0 x16_3).f0) a1 a2).bind fun bt232 => (if x15_3 = true then (cellarerref07_Keys.l1 k3 l0 a1 a2 a3 a4 t223 (wrap64 (x13_1 + 1)) x14_1 true (wrap64 (x16_3 + 1)) x223000_1 x223001_1 x223002_1 (rdOf ByteArray.empty t223 x14_1)) else (if t230 = true then (if bt232.2 = true then (cellarerref07_Keys.l1 k3 l0 a1 a2 a3 a4 t223 (wrap64 (x13_1 + 1)) x14_1 false (wrap64 (x16_3 + 1)) x223000_1 x223001_1 x223002_1 (rdOf ByteArray.empty t223 x14_1)) else (if 0 ≤ x14_1 then (if x14_1 < (t223.length : Int) then (cellarerref07_Keys.l1 k3 l0 a1 a2 a3 a4 t223 (wrap64 (x13_1 + 1)) x14_1 (t229.toList == (rdOf ByteArray.empty t223 x14_1).toList) (wrap64 (x16_3 + 1)) x223000_1 x223001_1 x223002_1 (rdOf ByteArray.empty t223 x14_1)) else (none)) else (none))) else (cellarerref07_Keys.l1 k3 l0 a1 a2 a3 a4 t223 (wrap64 (x13_1 + 1)) x14_1 false (wrap64 (x16_3 + 1)) x223000_1 x223001_1 x223002_1 (rdOf ByteArray.empty t223 x14_1))))) = some (r1, r2, r3, r4) := H
              have A30 := Aside0.mk A300
              clear A300
              replace H := Option.bind_eq_some_iff.mp H
              obtain ⟨⟨t232, t233⟩, A310, H⟩ := H
              replace H : (if x15_3 = true then (cellarerref07_Keys.l1 k3 l0 a1 a2 a3 a4 t223 (wrap64 (x13_1 + 1)) x14_1 true (wrap64 (x16_3 + 1)) x223000_1 x223001_1 x223002_1 (rdOf ByteArray.empty t223 x14_1)) else (if t230 = true then (if t233 = true then (cellarerref07_Keys.l1 k3 l0 a1 a2 a3 a4 t223 (wrap64 (x13_1 + 1)) x14_1 false (wrap64 (x16_3 + 1)) x223000_1 x223001_1 x223002_1 (rdOf ByteArray.empty t223 x14_1)) else (if 0 ≤ x14_1 then (if x14_1 < (t223.length : Int) then (cellarerref07_Keys.l1 k3 l0 a1 a2 a3 a4 t223 (wrap64 (x13_1 + 1)) x14_1 (t229.toList == (rdOf ByteArray.empty t223 x14_1).toList) (wrap64 (x16_3 + 1)) x223000_1 x223001_1 x223002_1 (rdOf ByteArray.empty t223 x14_1)) else (none)) else (none))) else (cellarerref07_Keys.l1 k3 l0 a1 a2 a3 a4 t223 (wrap64 (x13_1 + 1)) x14_1 false (wrap64 (x16_3 + 1)) x223000_1 x223001_1 x223002_1 (rdOf ByteArray.empty t223 x14_1)))) = some (r1, r2, r3, r4) := H
              have A31 := Aside0.mk A310
              clear A310
              by_cases c32 : x15_3 = true
              ·subst c32
               have H1 : (cellarerref07_Keys.l1 k3 l0 a1 a2 a3 a4 t223 (wrap64 (x13_1 + 1)) x14_1 true (wrap64 (x16_3 + 1)) x223000_1 x223001_1 x223002_1 (rdOf ByteArray.empty t223 x14_1)) = some (r1, r2, r3, r4) := by rw [if_pos rfl] at H; exact H
               clear H
               have H := H1
               clear H1
               have H' := Aside0.mk H
               clear H
               have p228 : 0 ≤ (x16_3 : Int) := of_decide_eq_true (by first | (with_reducible assumption) | assumption)
               have q228 : x16_3 < (l0.length : Int) := of_decide_eq_true (by first | (with_reducible assumption) | assumption)
               obtain ⟨ad228, A228_1, c228_1, e228, hx228_0, hx228_1, hl228_1, hi228_1⟩ := at_T50 HR0.out x16_3 p228 q228
               cases e228
               replace hx228_0 := (HB.out.cell (World.block_lt_of_cell? w _ hx228_0)).trans hx228_0
               replace hx228_1 := (HB.out.cell (World.block_lt_of_cell? w _ hx228_1)).trans hx228_1
               have HR228_1 := Aside0.mk hi228_1
               have HC228_1 := Aside0.mk hl228_1
               clear hi228_1 hl228_1
               replace p228 := eq_true p228
               replace q228 := eq_true q228
               go_wp2_with (first | ((with_reducible refine gate_callee (f := 33) rfl ?_); refine goesL_ (some 67) rfl rfl Try.func33 (by kernel_rfl) rfl #[.agg #[.string ((rd_T50 l0 x16_3).f0), .slice A228_1 ((rd_T50 l0 x16_3).f1).length c228_1], .string a1, .string a2] rfl (by (try simp only [List.map_toArray, List.map_cons, List.map_nil]); first | done | rfl | (simp only [List.length_drop, List.length_take]; rfl)) ?_; (with_reducible refine (cellarerref07_Thing.calls k3 ((rd_T50 l0 x16_3).f0) _ _ ((rd_T50 l0 x16_3).f1) a1 a2 t229 t230 _ ?side1 ?side2 A30.out).mono ?_); (case side1 => repeat (first | exact (Kd.C_below HR228_1.out HB.out) | (with_reducible refine Kd.C_alloc ?_ _) | (with_reducible refine Kd.C_drewN ?_ _) | (with_reducible refine Kd.C_drew ?_))); (case side2 => exact HC228_1.out); rintro e w33 ⟨rfl, hb⟩; refine ⟨_, rfl, ?_⟩; have n0_ := Aside0.mk (Kd.R_below (by (with_reducible repeat (first | apply Kd.R_alloc | apply Kd.R_drewN | apply Kd.R_drew)); exact HO_12.out) hb); have n1_ := Aside0.mk (Kd.R_below (by (with_reducible repeat (first | apply Kd.R_alloc | apply Kd.R_drewN | apply Kd.R_drew)); exact HO_223000.out) hb); have n2_ := Aside0.mk (Kd.R_below (by (with_reducible repeat (first | apply Kd.R_alloc | apply Kd.R_drewN | apply Kd.R_drew)); exact HO_223001.out) hb); have n3_ := Aside0.mk (blk_below (g := gb221) (o := .cells #[.slice none 0 0, .slice none 0 0, .bool x222002_1, .string x222003_1] 29 (0, 0)) (by (with_reducible repeat (first | refine blk_drewN ?_ _ | refine blk_drew ?_ | refine blk_alloc ?_ _)); exact BK221.out) hb); have n4_ := Aside0.mk (blk_below (g := gb222) (o := .cells #[u223000, u223001, .bool x223002_1, .string (rdOf ByteArray.empty t223 x14_1)] 29 (0, 0)) (by (with_reducible repeat (first | refine blk_drewN ?_ _ | refine blk_drew ?_ | refine blk_alloc ?_ _)); exact BK222.out) hb); have n5_ := Aside0.mk (below_step (by repeat (first | (with_reducible first | exact HB.out | apply below_alloc | apply pw_below_drewN | apply below_drew1 | refine below_set ?_ GE221.out | refine below_set ?_ GE222.out) | exact HB.out)) hb); clear HO_12; clear HO_223000; clear HO_223001; clear BK221; clear BK222; clear HB; have HO_12 := n0_; have HO_223000 := n1_; have HO_223001 := n2_; have BK221 := n3_; have BK222 := n4_; have HB := n5_; clear n0_ n1_ n2_ n3_ n4_ n5_; (try clear hb); (try clear hb2); (try clear hk); (try clear hi); have p231 : 0 ≤ (x16_3 : Int) := of_decide_eq_true (by first | (with_reducible assumption) | assumption); have q231 : x16_3 < (l0.length : Int) := of_decide_eq_true (by first | (with_reducible assumption) | assumption); obtain ⟨ad231, A231_1, c231_1, e231, hx231_0, hx231_1, hl231_1, hi231_1⟩ := at_T50 HR0.out x16_3 p231 q231; obtain rfl : ad228 = ad231 := (by injection e231); replace hx231_0 := (HB.out.cell (World.block_lt_of_cell? w _ hx231_0)).trans hx231_0; replace hx231_1 := (HB.out.cell (World.block_lt_of_cell? w _ hx231_1)).trans hx231_1; have HR231_1 := Aside0.mk hi231_1; have HC231_1 := Aside0.mk hl231_1; clear hi231_1 hl231_1; replace p231 := eq_true p231; replace q231 := eq_true q231) | ((with_reducible refine gate_callee (f := 34) rfl ?_); refine goesL_ (some 78) rfl rfl Try.func34 (by kernel_rfl) rfl #[.string ((rd_T50 l0 x16_3).f0), .string a1, .string a2] rfl (by (try simp only [List.map_toArray, List.map_cons, List.map_nil]); first | done | rfl | (simp only [List.length_drop, List.length_take]; rfl)) ?_; (with_reducible refine (cellarerref01_Group.calls k3 ((rd_T50 l0 x16_3).f0) a1 a2 t232 t233 _ A31.out).mono ?_); rintro e w' ⟨rfl, ⟨nd, rfl⟩⟩; refine ⟨_, rfl, ?_⟩))
               go_roundg k3
               case measure => have := HK1.out; have := HJ12.out; have := HK3.out; omega
               case rel => exact ⟨(true), (wrap64 (x16_3 + 1)), (by first | rfl | (simp; done) | (simp [*]; done)), (by first | rfl | (simp; done) | (simp [*]; done)), H', ⟨by have := HK1.out; have := HJ12.out; have := HK3.out; omega⟩, ⟨by (with_reducible repeat (first | apply Kd.R_alloc | apply Kd.R_drewN | apply Kd.R_drew)); exact HO_12.out⟩, ⟨by (with_reducible repeat (first | apply Kd.R_alloc | apply Kd.R_drewN | apply Kd.R_drew)); exact HO_223000.out⟩, ⟨by (with_reducible repeat (first | apply Kd.R_alloc | apply Kd.R_drewN | apply Kd.R_drew)); exact HO_223001.out⟩, ⟨by (with_reducible repeat (first | refine blk_drewN ?_ _ | refine blk_drew ?_ | refine blk_alloc ?_ _)); exact BK221.out⟩, ⟨by (with_reducible repeat (first | refine blk_drewN ?_ _ | refine blk_drew ?_ | refine blk_alloc ?_ _)); exact BK222.out⟩, ⟨by repeat (first | (with_reducible first | exact HB.out | apply below_alloc | apply pw_below_drewN | apply below_drew1 | refine below_set ?_ GE221.out | refine below_set ?_ GE222.out) | exact HB.out)⟩⟩
              ·replace c32 := Bool.eq_false_iff.mpr c32
               subst c32
               have H1 : (if t230 = true then (if t233 = true then (cellarerref07_Keys.l1 k3 l0 a1 a2 a3 a4 t223 (wrap64 (x13_1 + 1)) x14_1 false (wrap64 (x16_3 + 1)) x223000_1 x223001_1 x223002_1 (rdOf ByteArray.empty t223 x14_1)) else (if 0 ≤ x14_1 then (if x14_1 < (t223.length : Int) then (cellarerref07_Keys.l1 k3 l0 a1 a2 a3 a4 t223 (wrap64 (x13_1 + 1)) x14_1 (t229.toList == (rdOf ByteArray.empty t223 x14_1).toList) (wrap64 (x16_3 + 1)) x223000_1 x223001_1 x223002_1 (rdOf ByteArray.empty t223 x14_1)) else (none)) else (none))) else (cellarerref07_Keys.l1 k3 l0 a1 a2 a3 a4 t223 (wrap64 (x13_1 + 1)) x14_1 false (wrap64 (x16_3 + 1)) x223000_1 x223001_1 x223002_1 (rdOf ByteArray.empty t223 x14_1))) = some (r1, r2, r3, r4) := by rw [if_neg (show ¬ (false = true) by decide)] at H; exact H
               clear H
               have H := H1
               clear H1
               by_cases c34 : t230 = true
               ·subst c34
                have H1 : (if t233 = true then (cellarerref07_Keys.l1 k3 l0 a1 a2 a3 a4 t223 (wrap64 (x13_1 + 1)) x14_1 false (wrap64 (x16_3 + 1)) x223000_1 x223001_1 x223002_1 (rdOf ByteArray.empty t223 x14_1)) else (if 0 ≤ x14_1 then (if x14_1 < (t223.length : Int) then (cellarerref07_Keys.l1 k3 l0 a1 a2 a3 a4 t223 (wrap64 (x13_1 + 1)) x14_1 (t229.toList == (rdOf ByteArray.empty t223 x14_1).toList) (wrap64 (x16_3 + 1)) x223000_1 x223001_1 x223002_1 (rdOf ByteArray.empty t223 x14_1)) else (none)) else (none))) = some (r1, r2, r3, r4) := by rw [if_pos rfl] at H; exact H
                clear H
                have H := H1
                clear H1
                by_cases c35 : t233 = true
                ·subst c35
                 have H1 : (cellarerref07_Keys.l1 k3 l0 a1 a2 a3 a4 t223 (wrap64 (x13_1 + 1)) x14_1 false (wrap64 (x16_3 + 1)) x223000_1 x223001_1 x223002_1 (rdOf ByteArray.empty t223 x14_1)) = some (r1, r2, r3, r4) := by rw [if_pos rfl] at H; exact H
                 clear H
                 have H := H1
                 clear H1
                 have H' := Aside0.mk H
                 clear H
                 have p228 : 0 ≤ (x16_3 : Int) := of_decide_eq_true (by first | (with_reducible assumption) | assumption)
                 have q228 : x16_3 < (l0.length : Int) := of_decide_eq_true (by first | (with_reducible assumption) | assumption)
                 obtain ⟨ad228, A228_1, c228_1, e228, hx228_0, hx228_1, hl228_1, hi228_1⟩ := at_T50 HR0.out x16_3 p228 q228
                 cases e228
                 replace hx228_0 := (HB.out.cell (World.block_lt_of_cell? w _ hx228_0)).trans hx228_0
                 replace hx228_1 := (HB.out.cell (World.block_lt_of_cell? w _ hx228_1)).trans hx228_1
                 have HR228_1 := Aside0.mk hi228_1
                 have HC228_1 := Aside0.mk hl228_1
                 clear hi228_1 hl228_1
                 replace p228 := eq_true p228
                 replace q228 := eq_true q228
                 go_wp2_with (first | ((with_reducible refine gate_callee (f := 33) rfl ?_); refine goesL_ (some 67) rfl rfl Try.func33 (by kernel_rfl) rfl #[.agg #[.string ((rd_T50 l0 x16_3).f0), .slice A228_1 ((rd_T50 l0 x16_3).f1).length c228_1], .string a1, .string a2] rfl (by (try simp only [List.map_toArray, List.map_cons, List.map_nil]); first | done | rfl | (simp only [List.length_drop, List.length_take]; rfl)) ?_; (with_reducible refine (cellarerref07_Thing.calls k3 ((rd_T50 l0 x16_3).f0) _ _ ((rd_T50 l0 x16_3).f1) a1 a2 t229 true _ ?side1 ?side2 A30.out).mono ?_); (case side1 => repeat (first | exact (Kd.C_below HR228_1.out HB.out) | (with_reducible refine Kd.C_alloc ?_ _) | (with_reducible refine Kd.C_drewN ?_ _) | (with_reducible refine Kd.C_drew ?_))); (case side2 => exact HC228_1.out); rintro e w36 ⟨rfl, hb⟩; refine ⟨_, rfl, ?_⟩; have n0_ := Aside0.mk (Kd.R_below (by (with_reducible repeat (first | apply Kd.R_alloc | apply Kd.R_drewN | apply Kd.R_drew)); exact HO_12.out) hb); have n1_ := Aside0.mk (Kd.R_below (by (with_reducible repeat (first | apply Kd.R_alloc | apply Kd.R_drewN | apply Kd.R_drew)); exact HO_223000.out) hb); have n2_ := Aside0.mk (Kd.R_below (by (with_reducible repeat (first | apply Kd.R_alloc | apply Kd.R_drewN | apply Kd.R_drew)); exact HO_223001.out) hb); have n3_ := Aside0.mk (blk_below (g := gb221) (o := .cells #[.slice none 0 0, .slice none 0 0, .bool x222002_1, .string x222003_1] 29 (0, 0)) (by (with_reducible repeat (first | refine blk_drewN ?_ _ | refine blk_drew ?_ | refine blk_alloc ?_ _)); exact BK221.out) hb); have n4_ := Aside0.mk (blk_below (g := gb222) (o := .cells #[u223000, u223001, .bool x223002_1, .string (rdOf ByteArray.empty t223 x14_1)] 29 (0, 0)) (by (with_reducible repeat (first | refine blk_drewN ?_ _ | refine blk_drew ?_ | refine blk_alloc ?_ _)); exact BK222.out) hb); have n5_ := Aside0.mk (below_step (by repeat (first | (with_reducible first | exact HB.out | apply below_alloc | apply pw_below_drewN | apply below_drew1 | refine below_set ?_ GE221.out | refine below_set ?_ GE222.out) | exact HB.out)) hb); clear HO_12; clear HO_223000; clear HO_223001; clear BK221; clear BK222; clear HB; have HO_12 := n0_; have HO_223000 := n1_; have HO_223001 := n2_; have BK221 := n3_; have BK222 := n4_; have HB := n5_; clear n0_ n1_ n2_ n3_ n4_ n5_; (try clear hb); (try clear hb2); (try clear hk); (try clear hi); have p231 : 0 ≤ (x16_3 : Int) := of_decide_eq_true (by first | (with_reducible assumption) | assumption); have q231 : x16_3 < (l0.length : Int) := of_decide_eq_true (by first | (with_reducible assumption) | assumption); obtain ⟨ad231, A231_1, c231_1, e231, hx231_0, hx231_1, hl231_1, hi231_1⟩ := at_T50 HR0.out x16_3 p231 q231; obtain rfl : ad228 = ad231 := (by injection e231); replace hx231_0 := (HB.out.cell (World.block_lt_of_cell? w _ hx231_0)).trans hx231_0; replace hx231_1 := (HB.out.cell (World.block_lt_of_cell? w _ hx231_1)).trans hx231_1; have HR231_1 := Aside0.mk hi231_1; have HC231_1 := Aside0.mk hl231_1; clear hi231_1 hl231_1; replace p231 := eq_true p231; replace q231 := eq_true q231) | ((with_reducible refine gate_callee (f := 34) rfl ?_); refine goesL_ (some 78) rfl rfl Try.func34 (by kernel_rfl) rfl #[.string ((rd_T50 l0 x16_3).f0), .string a1, .string a2] rfl (by (try simp only [List.map_toArray, List.map_cons, List.map_nil]); first | done | rfl | (simp only [List.length_drop, List.length_take]; rfl)) ?_; (with_reducible refine (cellarerref01_Group.calls k3 ((rd_T50 l0 x16_3).f0) a1 a2 t232 true _ A31.out).mono ?_); rintro e w' ⟨rfl, ⟨nd, rfl⟩⟩; refine ⟨_, rfl, ?_⟩))
                 go_roundg k3
                 case measure => have := HK1.out; have := HJ12.out; have := HK3.out; omega
                 case rel => exact ⟨(false), (wrap64 (x16_3 + 1)), (by first | rfl | (simp; done) | (simp [*]; done)), (by first | rfl | (simp; done) | (simp [*]; done)), H', ⟨by have := HK1.out; have := HJ12.out; have := HK3.out; omega⟩, ⟨by (with_reducible repeat (first | apply Kd.R_alloc | apply Kd.R_drewN | apply Kd.R_drew)); exact HO_12.out⟩, ⟨by (with_reducible repeat (first | apply Kd.R_alloc | apply Kd.R_drewN | apply Kd.R_drew)); exact HO_223000.out⟩, ⟨by (with_reducible repeat (first | apply Kd.R_alloc | apply Kd.R_drewN | apply Kd.R_drew)); exact HO_223001.out⟩, ⟨by (with_reducible repeat (first | refine blk_drewN ?_ _ | refine blk_drew ?_ | refine blk_alloc ?_ _)); exact BK221.out⟩, ⟨by (with_reducible repeat (first | refine blk_drewN ?_ _ | refine blk_drew ?_ | refine blk_alloc ?_ _)); exact BK222.out⟩, ⟨by repeat (first | (with_reducible first | exact HB.out | apply below_alloc | apply pw_below_drewN | apply below_drew1 | refine below_set ?_ GE221.out | refine below_set ?_ GE222.out) | exact HB.out)⟩⟩
                ·replace c35 := Bool.eq_false_iff.mpr c35
                 subst c35
                 have H1 : (if 0 ≤ x14_1 then (if x14_1 < (t223.length : Int) then (cellarerref07_Keys.l1 k3 l0 a1 a2 a3 a4 t223 (wrap64 (x13_1 + 1)) x14_1 (t229.toList == (rdOf ByteArray.empty t223 x14_1).toList) (wrap64 (x16_3 + 1)) x223000_1 x223001_1 x223002_1 (rdOf ByteArray.empty t223 x14_1)) else (none)) else (none)) = some (r1, r2, r3, r4) := by rw [if_neg (show ¬ (false = true) by decide)] at H; exact H
                 clear H
                 have H := H1
                 clear H1
                 by_cases c37 : 0 ≤ x14_1
                 ·rw [if_pos c37] at H
                  have c37b0 : decide (0 ≤ x14_1) = true := decide_eq_true c37
                  clear c37
                  by_cases c38 : x14_1 < (t223.length : Int)
                  ·rw [if_pos c38] at H
                   have c38b0 : decide (x14_1 < (t223.length : Int)) = true := decide_eq_true c38
                   clear c38
                   have H' := Aside0.mk H
                   clear H
                   have p228 : 0 ≤ (x16_3 : Int) := of_decide_eq_true (by first | (with_reducible assumption) | assumption)
                   have q228 : x16_3 < (l0.length : Int) := of_decide_eq_true (by first | (with_reducible assumption) | assumption)
                   obtain ⟨ad228, A228_1, c228_1, e228, hx228_0, hx228_1, hl228_1, hi228_1⟩ := at_T50 HR0.out x16_3 p228 q228
                   cases e228
                   replace hx228_0 := (HB.out.cell (World.block_lt_of_cell? w _ hx228_0)).trans hx228_0
                   replace hx228_1 := (HB.out.cell (World.block_lt_of_cell? w _ hx228_1)).trans hx228_1
                   have HR228_1 := Aside0.mk hi228_1
                   have HC228_1 := Aside0.mk hl228_1
                   clear hi228_1 hl228_1
                   replace p228 := eq_true p228
                   replace q228 := eq_true q228
                   go_wp2_with (first | ((with_reducible refine gate_callee (f := 33) rfl ?_); refine goesL_ (some 67) rfl rfl Try.func33 (by kernel_rfl) rfl #[.agg #[.string ((rd_T50 l0 x16_3).f0), .slice A228_1 ((rd_T50 l0 x16_3).f1).length c228_1], .string a1, .string a2] rfl (by (try simp only [List.map_toArray, List.map_cons, List.map_nil]); first | done | rfl | (simp only [List.length_drop, List.length_take]; rfl)) ?_; (with_reducible refine (cellarerref07_Thing.calls k3 ((rd_T50 l0 x16_3).f0) _ _ ((rd_T50 l0 x16_3).f1) a1 a2 t229 true _ ?side1 ?side2 A30.out).mono ?_); (case side1 => repeat (first | exact (Kd.C_below HR228_1.out HB.out) | (with_reducible refine Kd.C_alloc ?_ _) | (with_reducible refine Kd.C_drewN ?_ _) | (with_reducible refine Kd.C_drew ?_))); (case side2 => exact HC228_1.out); rintro e w39 ⟨rfl, hb⟩; refine ⟨_, rfl, ?_⟩; have n0_ := Aside0.mk (Kd.R_below (by (with_reducible repeat (first | apply Kd.R_alloc | apply Kd.R_drewN | apply Kd.R_drew)); exact HO_12.out) hb); have n1_ := Aside0.mk (Kd.R_below (by (with_reducible repeat (first | apply Kd.R_alloc | apply Kd.R_drewN | apply Kd.R_drew)); exact HO_223000.out) hb); have n2_ := Aside0.mk (Kd.R_below (by (with_reducible repeat (first | apply Kd.R_alloc | apply Kd.R_drewN | apply Kd.R_drew)); exact HO_223001.out) hb); have n3_ := Aside0.mk (blk_below (g := gb221) (o := .cells #[.slice none 0 0, .slice none 0 0, .bool x222002_1, .string x222003_1] 29 (0, 0)) (by (with_reducible repeat (first | refine blk_drewN ?_ _ | refine blk_drew ?_ | refine blk_alloc ?_ _)); exact BK221.out) hb); have n4_ := Aside0.mk (blk_below (g := gb222) (o := .cells #[u223000, u223001, .bool x223002_1, .string (rdOf ByteArray.empty t223 x14_1)] 29 (0, 0)) (by (with_reducible repeat (first | refine blk_drewN ?_ _ | refine blk_drew ?_ | refine blk_alloc ?_ _)); exact BK222.out) hb); have n5_ := Aside0.mk (below_step (by repeat (first | (with_reducible first | exact HB.out | apply below_alloc | apply pw_below_drewN | apply below_drew1 | refine below_set ?_ GE221.out | refine below_set ?_ GE222.out) | exact HB.out)) hb); clear HO_12; clear HO_223000; clear HO_223001; clear BK221; clear BK222; clear HB; have HO_12 := n0_; have HO_223000 := n1_; have HO_223001 := n2_; have BK221 := n3_; have BK222 := n4_; have HB := n5_; clear n0_ n1_ n2_ n3_ n4_ n5_; (try clear hb); (try clear hb2); (try clear hk); (try clear hi); have p231 : 0 ≤ (x16_3 : Int) := of_decide_eq_true (by first | (with_reducible assumption) | assumption); have q231 : x16_3 < (l0.length : Int) := of_decide_eq_true (by first | (with_reducible assumption) | assumption); obtain ⟨ad231, A231_1, c231_1, e231, hx231_0, hx231_1, hl231_1, hi231_1⟩ := at_T50 HR0.out x16_3 p231 q231; obtain rfl : ad228 = ad231 := (by injection e231); replace hx231_0 := (HB.out.cell (World.block_lt_of_cell? w _ hx231_0)).trans hx231_0; replace hx231_1 := (HB.out.cell (World.block_lt_of_cell? w _ hx231_1)).trans hx231_1; have HR231_1 := Aside0.mk hi231_1; have HC231_1 := Aside0.mk hl231_1; clear hi231_1 hl231_1; replace p231 := eq_true p231; replace q231 := eq_true q231) | ((with_reducible refine gate_callee (f := 34) rfl ?_); refine goesL_ (some 78) rfl rfl Try.func34 (by kernel_rfl) rfl #[.string ((rd_T50 l0 x16_3).f0), .string a1, .string a2] rfl (by (try simp only [List.map_toArray, List.map_cons, List.map_nil]); first | done | rfl | (simp only [List.length_drop, List.length_take]; rfl)) ?_; (with_reducible refine (cellarerref01_Group.calls k3 ((rd_T50 l0 x16_3).f0) a1 a2 t232 false _ A31.out).mono ?_); rintro e w' ⟨rfl, ⟨nd, rfl⟩⟩; refine ⟨_, rfl, ?_⟩; have p234 : 0 ≤ (x14_1 : Int) := of_decide_eq_true (by first | (with_reducible assumption) | assumption); have q234 : x14_1 < (t223.length : Int) := of_decide_eq_true (by first | (with_reducible assumption) | assumption); obtain ⟨ad234, e234, hx234_0⟩ := Kd.at_string (Kd.R_reads' HO_12.out).2.2 x14_1 p234 q234; obtain rfl : ad227 = ad234 := (by injection e234); replace p234 := eq_true p234; replace q234 := eq_true q234))
                   go_roundg k3
                   case measure => have := HK1.out; have := HJ12.out; have := HK3.out; omega
                   case rel => exact ⟨((t229.toList == (rdOf ByteArray.empty t223 x14_1).toList)), (wrap64 (x16_3 + 1)), (by first | rfl | (simp; done) | (simp [*]; done)), (by first | rfl | (simp; done) | (simp [*]; done)), H', ⟨by have := HK1.out; have := HJ12.out; have := HK3.out; omega⟩, ⟨by (with_reducible repeat (first | apply Kd.R_alloc | apply Kd.R_drewN | apply Kd.R_drew)); exact HO_12.out⟩, ⟨by (with_reducible repeat (first | apply Kd.R_alloc | apply Kd.R_drewN | apply Kd.R_drew)); exact HO_223000.out⟩, ⟨by (with_reducible repeat (first | apply Kd.R_alloc | apply Kd.R_drewN | apply Kd.R_drew)); exact HO_223001.out⟩, ⟨by (with_reducible repeat (first | refine blk_drewN ?_ _ | refine blk_drew ?_ | refine blk_alloc ?_ _)); exact BK221.out⟩, ⟨by (with_reducible repeat (first | refine blk_drewN ?_ _ | refine blk_drew ?_ | refine blk_alloc ?_ _)); exact BK222.out⟩, ⟨by repeat (first | (with_reducible first | exact HB.out | apply below_alloc | apply pw_below_drewN | apply below_drew1 | refine below_set ?_ GE221.out | refine below_set ?_ GE222.out) | exact HB.out)⟩⟩
                  ·rw [if_neg c38] at H
                   exact absurd H (by simp)
                 ·rw [if_neg c37] at H
                  exact absurd H (by simp)
               ·replace c34 := Bool.eq_false_iff.mpr c34
                subst c34
                have H1 : (cellarerref07_Keys.l1 k3 l0 a1 a2 a3 a4 t223 (wrap64 (x13_1 + 1)) x14_1 false (wrap64 (x16_3 + 1)) x223000_1 x223001_1 x223002_1 (rdOf ByteArray.empty t223 x14_1)) = some (r1, r2, r3, r4) := by rw [if_neg (show ¬ (false = true) by decide)] at H; exact H
                clear H
                have H := H1
                clear H1
                have H' := Aside0.mk H
                clear H
                have p228 : 0 ≤ (x16_3 : Int) := of_decide_eq_true (by first | (with_reducible assumption) | assumption)
                have q228 : x16_3 < (l0.length : Int) := of_decide_eq_true (by first | (with_reducible assumption) | assumption)
                obtain ⟨ad228, A228_1, c228_1, e228, hx228_0, hx228_1, hl228_1, hi228_1⟩ := at_T50 HR0.out x16_3 p228 q228
                cases e228
                replace hx228_0 := (HB.out.cell (World.block_lt_of_cell? w _ hx228_0)).trans hx228_0
                replace hx228_1 := (HB.out.cell (World.block_lt_of_cell? w _ hx228_1)).trans hx228_1
                have HR228_1 := Aside0.mk hi228_1
                have HC228_1 := Aside0.mk hl228_1
                clear hi228_1 hl228_1
                replace p228 := eq_true p228
                replace q228 := eq_true q228
                go_wp2_with (first | ((with_reducible refine gate_callee (f := 33) rfl ?_); refine goesL_ (some 67) rfl rfl Try.func33 (by kernel_rfl) rfl #[.agg #[.string ((rd_T50 l0 x16_3).f0), .slice A228_1 ((rd_T50 l0 x16_3).f1).length c228_1], .string a1, .string a2] rfl (by (try simp only [List.map_toArray, List.map_cons, List.map_nil]); first | done | rfl | (simp only [List.length_drop, List.length_take]; rfl)) ?_; (with_reducible refine (cellarerref07_Thing.calls k3 ((rd_T50 l0 x16_3).f0) _ _ ((rd_T50 l0 x16_3).f1) a1 a2 t229 false _ ?side1 ?side2 A30.out).mono ?_); (case side1 => repeat (first | exact (Kd.C_below HR228_1.out HB.out) | (with_reducible refine Kd.C_alloc ?_ _) | (with_reducible refine Kd.C_drewN ?_ _) | (with_reducible refine Kd.C_drew ?_))); (case side2 => exact HC228_1.out); rintro e w40 ⟨rfl, hb⟩; refine ⟨_, rfl, ?_⟩; have n0_ := Aside0.mk (Kd.R_below (by (with_reducible repeat (first | apply Kd.R_alloc | apply Kd.R_drewN | apply Kd.R_drew)); exact HO_12.out) hb); have n1_ := Aside0.mk (Kd.R_below (by (with_reducible repeat (first | apply Kd.R_alloc | apply Kd.R_drewN | apply Kd.R_drew)); exact HO_223000.out) hb); have n2_ := Aside0.mk (Kd.R_below (by (with_reducible repeat (first | apply Kd.R_alloc | apply Kd.R_drewN | apply Kd.R_drew)); exact HO_223001.out) hb); have n3_ := Aside0.mk (blk_below (g := gb221) (o := .cells #[.slice none 0 0, .slice none 0 0, .bool x222002_1, .string x222003_1] 29 (0, 0)) (by (with_reducible repeat (first | refine blk_drewN ?_ _ | refine blk_drew ?_ | refine blk_alloc ?_ _)); exact BK221.out) hb); have n4_ := Aside0.mk (blk_below (g := gb222) (o := .cells #[u223000, u223001, .bool x223002_1, .string (rdOf ByteArray.empty t223 x14_1)] 29 (0, 0)) (by (with_reducible repeat (first | refine blk_drewN ?_ _ | refine blk_drew ?_ | refine blk_alloc ?_ _)); exact BK222.out) hb); have n5_ := Aside0.mk (below_step (by repeat (first | (with_reducible first | exact HB.out | apply below_alloc | apply pw_below_drewN | apply below_drew1 | refine below_set ?_ GE221.out | refine below_set ?_ GE222.out) | exact HB.out)) hb); clear HO_12; clear HO_223000; clear HO_223001; clear BK221; clear BK222; clear HB; have HO_12 := n0_; have HO_223000 := n1_; have HO_223001 := n2_; have BK221 := n3_; have BK222 := n4_; have HB := n5_; clear n0_ n1_ n2_ n3_ n4_ n5_; (try clear hb); (try clear hb2); (try clear hk); (try clear hi); have p231 : 0 ≤ (x16_3 : Int) := of_decide_eq_true (by first | (with_reducible assumption) | assumption); have q231 : x16_3 < (l0.length : Int) := of_decide_eq_true (by first | (with_reducible assumption) | assumption); obtain ⟨ad231, A231_1, c231_1, e231, hx231_0, hx231_1, hl231_1, hi231_1⟩ := at_T50 HR0.out x16_3 p231 q231; obtain rfl : ad228 = ad231 := (by injection e231); replace hx231_0 := (HB.out.cell (World.block_lt_of_cell? w _ hx231_0)).trans hx231_0; replace hx231_1 := (HB.out.cell (World.block_lt_of_cell? w _ hx231_1)).trans hx231_1; have HR231_1 := Aside0.mk hi231_1; have HC231_1 := Aside0.mk hl231_1; clear hi231_1 hl231_1; replace p231 := eq_true p231; replace q231 := eq_true q231) | ((with_reducible refine gate_callee (f := 34) rfl ?_); refine goesL_ (some 78) rfl rfl Try.func34 (by kernel_rfl) rfl #[.string ((rd_T50 l0 x16_3).f0), .string a1, .string a2] rfl (by (try simp only [List.map_toArray, List.map_cons, List.map_nil]); first | done | rfl | (simp only [List.length_drop, List.length_take]; rfl)) ?_; (with_reducible refine (cellarerref01_Group.calls k3 ((rd_T50 l0 x16_3).f0) a1 a2 t232 t233 _ A31.out).mono ?_); rintro e w' ⟨rfl, ⟨nd, rfl⟩⟩; refine ⟨_, rfl, ?_⟩))
                go_roundg k3
                case measure => have := HK1.out; have := HJ12.out; have := HK3.out; omega
                case rel => exact ⟨(false), (wrap64 (x16_3 + 1)), (by first | rfl | (simp; done) | (simp [*]; done)), (by first | rfl | (simp; done) | (simp [*]; done)), H', ⟨by have := HK1.out; have := HJ12.out; have := HK3.out; omega⟩, ⟨by (with_reducible repeat (first | apply Kd.R_alloc | apply Kd.R_drewN | apply Kd.R_drew)); exact HO_12.out⟩, ⟨by (with_reducible repeat (first | apply Kd.R_alloc | apply Kd.R_drewN | apply Kd.R_drew)); exact HO_223000.out⟩, ⟨by (with_reducible repeat (first | apply Kd.R_alloc | apply Kd.R_drewN | apply Kd.R_drew)); exact HO_223001.out⟩, ⟨by (with_reducible repeat (first | refine blk_drewN ?_ _ | refine blk_drew ?_ | refine blk_alloc ?_ _)); exact BK221.out⟩, ⟨by (with_reducible repeat (first | refine blk_drewN ?_ _ | refine blk_drew ?_ | refine blk_alloc ?_ _)); exact BK222.out⟩, ⟨by repeat (first | (with_reducible first | exact HB.out | apply below_alloc | apply pw_below_drewN | apply below_drew1 | refine below_set ?_ GE221.out | refine below_set ?_ GE222.out) | exact HB.out)⟩⟩
             ·rw [if_neg c29] at H
              exact absurd H (by simp)
            ·rw [if_neg c28] at H
             have c28b0 : decide (x16_3 < (l0.length : Int)) = false := decide_eq_false c28
             clear c28
             by_cases c41 : x15_3 = true
             ·subst c41
              have H1 : (if 0 ≤ x14_1 then (if x14_1 < (t223.length : Int) then (if x223000_1.length < 8796093022208 then (cellarerref07_Keys.l0 k3 l0 a1 a2 a3 a4 t223 (wrap64 (x13_1 + 1)) (wrap64 (x14_1 + 1)) (x223000_1 ++ [rdOf ByteArray.empty t223 x14_1]) x223001_1 x223002_1 (rdOf ByteArray.empty t223 x14_1)) else (none)) else (none)) else (none)) = some (r1, r2, r3, r4) := by rw [if_pos rfl] at H; exact H
              clear H
              have H := H1
              clear H1
              by_cases c42 : 0 ≤ x14_1
              ·rw [if_pos c42] at H
               have c42b0 : decide (0 ≤ x14_1) = true := decide_eq_true c42
               clear c42
               by_cases c43 : x14_1 < (t223.length : Int)
               ·rw [if_pos c43] at H
                have c43b0 : decide (x14_1 < (t223.length : Int)) = true := decide_eq_true c43
                clear c43
                by_cases c44 : x223000_1.length < 8796093022208
                ·rw [if_pos c44] at H
                 have LMc44 := Aside0.mk c44
                 clear c44
                 obtain ⟨y236, hy236⟩ : ∃ y_ : List ByteArray, y_ = (x223000_1 ++ [rdOf ByteArray.empty t223 x14_1]) := ⟨_, rfl⟩
                 replace H : (cellarerref07_Keys.l0 k3 l0 a1 a2 a3 a4 t223 (wrap64 (x13_1 + 1)) (wrap64 (x14_1 + 1)) y236 x223001_1 x223002_1 (rdOf ByteArray.empty t223 x14_1)) = some (r1, r2, r3, r4) := by first | (rw [hy236]; with_reducible exact H) | (have H2_ := (Option.bind_some _ _).symm.trans H; rw [hy236]; with_reducible exact H2_) | (have H2_ := (Option.bind_some _ _).symm.trans H; with_reducible exact H2_) | with_reducible exact H | (rw [hy236]; exact H) | exact H
                 have Ny236 := Aside0.mk hy236
                 clear hy236
                 have H' := Aside0.mk H
                 clear H
                 try go_wp2
                 have n0_ := Aside0.mk (Kd.R_drew HO_12.out)
                 have n1_ := Aside0.mk (Kd.R_drew HO_223000.out)
                 have n2_ := Aside0.mk (Kd.R_drew HO_223001.out)
                 have n3_ := Aside0.mk (blk_drew BK221.out)
                 have n4_ := Aside0.mk (blk_drew BK222.out)
                 have n5_ := Aside0.mk (below_drew1 HB.out)
                 clear HO_12
                 clear HO_223000
                 clear HO_223001
                 clear BK221
                 clear BK222
                 clear HB
                 have HO_12 := n0_
                 have HO_223000 := n1_
                 have HO_223001 := n2_
                 have BK221 := n3_
                 have BK222 := n4_
                 have HB := n5_
                 clear n0_ n1_ n2_ n3_ n4_ n5_
                 have p235 : 0 ≤ (x14_1 : Int) := of_decide_eq_true (by first | (with_reducible assumption) | assumption)
                 have q235 : x14_1 < (t223.length : Int) := of_decide_eq_true (by first | (with_reducible assumption) | assumption)
                 obtain ⟨ad235, e235, hx235_0⟩ := Kd.at_string (Kd.R_reads' HO_12.out).2.2 x14_1 p235 q235
                 obtain rfl : ad227 = ad235 := (by injection e235)
                 replace p235 := eq_true p235
                 replace q235 := eq_true q235
                 refine start_ (n := 10) (S := fun w' => w'.cell? ⟨gb222, 0, none⟩ = some (u223000) ∧ w'.cell? ⟨gb222, 1, none⟩ = some (u223001) ∧ w'.cell? ⟨gb222, 2, none⟩ = some (.bool x223002_1) ∧ w'.cell? ⟨gb222, 3, none⟩ = some (.string (rdOf ByteArray.empty t223 x14_1)) ∧ w'.cell? (ad227.add (x14_1).toNat) = some (.string (rdOf ByteArray.empty t223 x14_1))) (ds := [7, 9]) #[false, false, false, false, false, false, false, false, false, false] (by kernel_rfl) rfl rfl ⟨(blk_cell BK222.out 0).trans rfl, (blk_cell BK222.out 1).trans rfl, (blk_cell BK222.out 2).trans rfl, (blk_cell BK222.out 3).trans rfl, hx235_0⟩ (fun hHeld => ?_); refine with_tabW cellarerref07_Keys.tab21 cellarerref07_Keys.bits21 (fun HT_ HW_ => ?_)
                 generalize wr.drew = w45 at HO_12 HO_223000 HO_223001 BK221 BK222 HB hx235_0 hHeld ⊢
                 refine pure_ (i := 0) (N := some 98) (v := ?_) (a' := ?_) (cellarerref07_Keys.bs 10 1) rfl rfl (any_of HT_.out (by kernel_rfl)) (fun _ _ _ h => h) (Or.inl ⟨by rfl, ?_⟩) ?_ ?_
                 rotate_left
                 ·intro w'
                  go_simp
                  with_reducible rfl
                 rotate_left
                 ·simp only [Act.put, List.setIfInBounds_toArray, List.set_cons_zero, List.set_cons_succ, i64_w, i32_w]
                  rfl
                 refine pure_ (i := 2) (N := some 100) (v := ?_) (a' := ?_) (cellarerref07_Keys.bs 10 5) rfl rfl (any_of HT_.out (by kernel_rfl)) (fun _ _ _ h => h) (Or.inl ⟨by rfl, ?_⟩) ?_ ?_
                 rotate_left
                 ·intro w'
                  go_simp
                  with_reducible rfl
                 rotate_left
                 ·simp only [Act.put, List.setIfInBounds_toArray, List.set_cons_zero, List.set_cons_succ, i64_w, i32_w]
                  rfl
                 refine pure_ (i := 3) (N := some 101) (v := ?_) (a' := ?_) (cellarerref07_Keys.bs 10 13) rfl rfl (any_of HT_.out (by kernel_rfl)) (fun _ _ _ h => h) (Or.inl ⟨by rfl, ?_⟩) ?_ ?_
                 rotate_left
                 ·intro w'
                  go_simp
                  with_reducible rfl
                 rotate_left
                 ·simp only [Act.put, List.setIfInBounds_toArray, List.set_cons_zero, List.set_cons_succ, i64_w, i32_w]
                  rfl
                 refine pure_ (i := 4) (N := some 102) (v := ?_) (a' := ?_) (cellarerref07_Keys.bs 10 29) rfl rfl (any_of HT_.out (by kernel_rfl)) (fun _ _ _ h => h) (Or.inl ⟨by rfl, ?_⟩) ?_ ?_
                 rotate_left
                 ·intro w'
                  go_simp
                  with_reducible rfl
                 rotate_left
                 ·simp only [Act.put, List.setIfInBounds_toArray, List.set_cons_zero, List.set_cons_succ, i64_w, i32_w]
                  rfl
                 refine take_ (i := 1) (N := some 99) (v := ?_) (a' := ?_) (cellarerref07_Keys.bs 10 31) rfl rfl (take_ofW HT_.out HW_.out (by kernel_rfl)) (fun _ _ _ h => h) (Or.inl ⟨by rfl, ?_⟩) hHeld ?_ ?_
                 rotate_left
                 ·rintro w' ⟨s0, s1, s2, s3, s4⟩
                  go_simp
                  with_reducible rfl
                 rotate_left
                 ·simp only [Act.put, List.setIfInBounds_toArray, List.set_cons_zero, List.set_cons_succ, i64_w, i32_w]
                  rfl
                 refine take_ (i := 5) (N := some 103) (v := ?_) (a' := ?_) (cellarerref07_Keys.bs 10 63) rfl rfl (take_ofW HT_.out HW_.out (by kernel_rfl)) (fun _ _ _ h => h) (Or.inl ⟨by rfl, ?_⟩) hHeld ?_ ?_
                 rotate_left
                 ·rintro w' ⟨s0, s1, s2, s3, s4⟩
                  go_simp
                  with_reducible rfl
                 rotate_left
                 ·simp only [Act.put, List.setIfInBounds_toArray, List.set_cons_zero, List.set_cons_succ, i64_w, i32_w]
                  rfl
                 refine one_ (i := 6) (N := some 104) (cellarerref07_Keys.bs 10 127) rfl rfl (one_of HT_.out (by kernel_rfl)) (by decide) (fun K hK => ?_)
                 refine value_ (w1 := ?_) (v := ?_) (by rfl) rfl ?_ ?_
                 rotate_left 2
                 ·go_simp
                  constructor
                  ·rfl
                  ·rfl
                 refine hK.out _ _ ⟨(blk_cell (blk_alloc BK222.out _) 0).trans rfl, (blk_cell (blk_alloc BK222.out _) 1).trans rfl, (blk_cell (blk_alloc BK222.out _) 2).trans rfl, (blk_cell (blk_alloc BK222.out _) 3).trans rfl, (World.cell?_alloc_lt _ _ _ (World.block_lt_of_cell? _ _ (hHeld.2.2.2.2))).trans (hHeld.2.2.2.2)⟩ (fun hHeld => ?_)
                 clear hK K
                 refine norm_ (a' := ?_) ?_ ?_
                 rotate_left
                 ·show Act.put _ (some 104) _ = _
                  simp only [Act.put, List.setIfInBounds_toArray, List.set_cons_zero, List.set_cons_succ, i64_w, i32_w]
                  rfl
                 refine last_ (i := 7) (N := some 105) (cellarerref07_Keys.bs 10 255) rfl rfl (one_of HT_.out (by kernel_rfl)) (by decide) (fun K hK => ?_)
                 refine Kd.R_append_step Kd.string (w0 := w) w.heap.size (by rfl) (.tmp 99) (.tmp 104) 27 9 (.string ⟨#[]⟩) 16 rfl Try.underlying27 info9 rfl (by decide) (by omega) u223000 x223000_1 (rdOf ByteArray.empty t223 x14_1) [.string (rdOf ByteArray.empty t223 x14_1)] (fun k_ => some k_ ≠ (.slice (some ad227) t223.length co14 : Value).ownBlock ∧ some k_ ≠ (u223001 : Value).ownBlock) (fun _ => False) rfl rfl ?aP (fun _ hk => hk.elim) ?aF ?aO ?aB ?aS ?aL ?_
                 (case aP => exact rfl)
                 (case aB => exact (by repeat (first | (with_reducible first | exact HB.out | apply below_alloc | apply pw_below_drewN | apply below_drew1 | refine below_set ?_ GE221.out | refine below_set ?_ GE222.out) | exact HB.out)))
                 (case aF => exact (fun k_ hk => ⟨Kd.fresh' (Kd.R_lt (by (with_reducible repeat (first | apply Kd.R_alloc | apply Kd.R_drewN | apply Kd.R_drew)); exact HO_12.out)) k_ hk, Kd.fresh' (Kd.R_lt (by (with_reducible repeat (first | apply Kd.R_alloc | apply Kd.R_drewN | apply Kd.R_drew)); exact HO_223001.out)) k_ hk⟩))
                 (case aO => exact (by (with_reducible repeat (first | apply Kd.R_alloc | apply Kd.R_drewN | apply Kd.R_drew)); exact HO_223000.out))
                 (case aS => exact (below_size (by repeat (first | (with_reducible first | exact HB.out | apply below_alloc | apply pw_below_drewN | apply below_drew1 | refine below_set ?_ GE221.out | refine below_set ?_ GE222.out) | exact HB.out))))
                 (case aL => have := LMc44.out; omega)
                 intro v237 w46 ho hb hg hat
                 rw [← Ny236.out] at ho
                 have n0_ := Aside0.mk (Kd.R_after (ok := (fun k_ => some k_ ≠ (u223001 : Value).ownBlock)) (by (with_reducible repeat (first | apply Kd.R_alloc | apply Kd.R_drewN | apply Kd.R_drew)); exact Kd.R_mono HO_12.out (fun _ hk => ⟨hk.2, hk.1⟩)) hg hat)
                 have n1_ := Aside0.mk (Kd.R_after (ok := (fun k_ => some k_ ≠ (.slice (some ad227) t223.length co14 : Value).ownBlock)) (by (with_reducible repeat (first | apply Kd.R_alloc | apply Kd.R_drewN | apply Kd.R_drew)); exact HO_223001.out) hg hat)
                 have n2_ := Aside0.mk (blk_grown (g := gb221) (o := .cells #[.slice none 0 0, .slice none 0 0, .bool x222002_1, .string x222003_1] 29 (0, 0)) (by (with_reducible repeat (first | refine blk_drewN ?_ _ | refine blk_drew ?_ | refine blk_alloc ?_ _)); exact BK221.out) hg (Kd.R_ne HO_223000.out BK221.out (by decide)))
                 have n3_ := Aside0.mk (blk_grown (g := gb222) (o := .cells #[u223000, u223001, .bool x223002_1, .string (rdOf ByteArray.empty t223 x14_1)] 29 (0, 0)) (by (with_reducible repeat (first | refine blk_drewN ?_ _ | refine blk_drew ?_ | refine blk_alloc ?_ _)); exact BK222.out) hg (Kd.R_ne HO_223000.out BK222.out (by decide)))
                 have n4_ := Aside0.mk (hb)
                 have n5_ := Aside0.mk (ho)
                 clear HO_12
                 clear HO_223001
                 clear BK221
                 clear BK222
                 clear HB
                 clear HO_223000
                 have HO_12 := n0_
                 have HO_223001 := n1_
                 have BK221 := n2_
                 have BK222 := n3_
                 have HB := n4_
                 have HO238 := n5_
                 clear n0_ n1_ n2_ n3_ n4_ n5_
                 clear ho hb hg hat
                 obtain ⟨Ao47, co47, eo47⟩ := Kd.R_slice HO238.out
                 (first | subst eo47 | (injection eo47 with f1_ f2_ f3_; have f4_ := f1_.symm; have f5_ := f3_.symm; clear f1_ f2_ f3_; subst f4_; subst f5_))
                 refine hK.out _ _ ?_
                 clear hK K
                 refine norm_ (a' := ?_) ?_ ?_
                 rotate_left
                 ·show Act.put _ (some 105) _ = _
                  simp only [Act.put, List.setIfInBounds_toArray, List.set_cons_zero, List.set_cons_succ, i64_w, i32_w]
                  rfl
                 refine pure_ (i := 8) (N := some 106) (v := ?_) (a' := ?_) (cellarerref07_Keys.bs 10 511) rfl rfl (any_of HT_.out (by kernel_rfl)) (fun _ _ _ h => h) (Or.inl ⟨by rfl, ?_⟩) ?_ ?_
                 rotate_left
                 ·intro w'
                  go_simp
                  with_reducible rfl
                 rotate_left
                 ·simp only [Act.put, List.setIfInBounds_toArray, List.set_cons_zero, List.set_cons_succ, i64_w, i32_w]
                  rfl
                 refine last_ (i := 9) (N := none) (cellarerref07_Keys.bs 10 1023) rfl rfl (one_of HT_.out (by kernel_rfl)) (by decide) (fun K hK => ?_)
                 have hs48 : w46.cell? ⟨gb222, 0, none⟩ = some (u223000) := (blk_cell BK222.out 0).trans rfl
                 have hfs48 := blk_frozen BK222.out 0
                 have hns48_0 := NB221_222.out
                 have hms48_0 := NB222_221.out
                 refine skip_ (w1 := ?_) (by rfl) rfl ?_ ?_
                 rotate_left
                 ·go_simp
                  rfl
                 refine hK.out _ _ ?_
                 clear hK K
                 refine done_ (done_of HT_.out (by kernel_rfl)) ?_
                 try go_wp2
                 go_roundg k3
                 case measure => have := HK1.out; have := HJ12.out; have := HK3.out; omega
                 case rel => exact ⟨((wrap64 (x13_1 + 1))), (wrap64 (x14_1 + 1)), (x222002_1), (x222003_1), (y236), (x223001_1), (x223002_1), ((rdOf ByteArray.empty t223 x14_1)), (.slice Ao47 y236.length co47), (u223001), (by first | rfl | (simp; done) | (simp [*]; done)), (by first | rfl | (simp; done) | (simp [*]; done)), H', ⟨by have := HK1.out; have := HJ12.out; have := HK3.out; omega⟩, ⟨by (with_reducible repeat (first | apply Kd.R_alloc | apply Kd.R_drewN | apply Kd.R_drew)); exact Kd.R_mono (Kd.R_far (p := ⟨gb222, 0, none⟩) (Kd.R_types HO_12.out BK222.out (by decide)) (fun _ hk => hk.2) (.slice Ao47 y236.length co47)) (fun _ hk => ⟨hk.1.2, hk.1.1⟩)⟩, ⟨by (with_reducible repeat (first | apply Kd.R_alloc | apply Kd.R_drewN | apply Kd.R_drew)); exact Kd.R_mono (Kd.R_far (p := ⟨gb222, 0, none⟩) (Kd.R_types HO238.out BK222.out (by decide)) (fun _ hk => hk.2) (.slice Ao47 y236.length co47)) (fun _ hk => ⟨hk.1.1, hk.1.2⟩)⟩, ⟨by (with_reducible repeat (first | apply Kd.R_alloc | apply Kd.R_drewN | apply Kd.R_drew)); exact Kd.R_mono (Kd.R_far (p := ⟨gb222, 0, none⟩) (Kd.R_types HO_223001.out BK222.out (by decide)) (fun _ hk => hk.2) (.slice Ao47 y236.length co47)) (fun _ hk => ⟨hk.1.1, hk.1.2⟩)⟩, ⟨by (with_reducible repeat (first | refine blk_drewN ?_ _ | refine blk_drew ?_ | refine blk_alloc ?_ _)); refine blk_far ?_ NB221_222.out _; (with_reducible repeat (first | refine blk_drewN ?_ _ | refine blk_drew ?_ | refine blk_alloc ?_ _)); exact BK221.out⟩, ⟨by (with_reducible repeat (first | refine blk_drewN ?_ _ | refine blk_drew ?_ | refine blk_alloc ?_ _)); refine blk_put (cs := #[u223000, u223001, .bool x223002_1, .string (rdOf ByteArray.empty t223 x14_1)]) ?_ 0 _ rfl; (with_reducible repeat (first | refine blk_drewN ?_ _ | refine blk_drew ?_ | refine blk_alloc ?_ _)); exact BK222.out⟩, ⟨by repeat (first | (with_reducible first | exact HB.out | apply below_alloc | apply pw_below_drewN | apply below_drew1 | refine below_set ?_ GE221.out | refine below_set ?_ GE222.out) | exact HB.out)⟩⟩
                ·rw [if_neg c44] at H
                 exact absurd H (by simp)
               ·rw [if_neg c43] at H
                exact absurd H (by simp)
              ·rw [if_neg c42] at H
               exact absurd H (by simp)
             ·replace c41 := Bool.eq_false_iff.mpr c41
              subst c41
              have H1 : (if 0 ≤ x14_1 then (if x14_1 < (t223.length : Int) then (if x223001_1.length < 8796093022208 then (cellarerref07_Keys.l0 k3 l0 a1 a2 a3 a4 t223 (wrap64 (x13_1 + 1)) (wrap64 (x14_1 + 1)) x223000_1 (x223001_1 ++ [rdOf ByteArray.empty t223 x14_1]) x223002_1 (rdOf ByteArray.empty t223 x14_1)) else (none)) else (none)) else (none)) = some (r1, r2, r3, r4) := by rw [if_neg (show ¬ (false = true) by decide)] at H; exact H
              clear H
              have H := H1
              clear H1
              by_cases c49 : 0 ≤ x14_1
              ·rw [if_pos c49] at H
               have c49b0 : decide (0 ≤ x14_1) = true := decide_eq_true c49
               clear c49
               by_cases c50 : x14_1 < (t223.length : Int)
               ·rw [if_pos c50] at H
                have c50b0 : decide (x14_1 < (t223.length : Int)) = true := decide_eq_true c50
                clear c50
                by_cases c51 : x223001_1.length < 8796093022208
                ·rw [if_pos c51] at H
                 have LMc51 := Aside0.mk c51
                 clear c51
                 obtain ⟨y240, hy240⟩ : ∃ y_ : List ByteArray, y_ = (x223001_1 ++ [rdOf ByteArray.empty t223 x14_1]) := ⟨_, rfl⟩
                 replace H : (cellarerref07_Keys.l0 k3 l0 a1 a2 a3 a4 t223 (wrap64 (x13_1 + 1)) (wrap64 (x14_1 + 1)) x223000_1 y240 x223002_1 (rdOf ByteArray.empty t223 x14_1)) = some (r1, r2, r3, r4) := by first | (rw [hy240]; with_reducible exact H) | (have H2_ := (Option.bind_some _ _).symm.trans H; rw [hy240]; with_reducible exact H2_) | (have H2_ := (Option.bind_some _ _).symm.trans H; with_reducible exact H2_) | with_reducible exact H | (rw [hy240]; exact H) | exact H
                 have Ny240 := Aside0.mk hy240
                 clear hy240
                 have H' := Aside0.mk H
                 clear H
                 try go_wp2
                 have n0_ := Aside0.mk (Kd.R_drew HO_12.out)
                 have n1_ := Aside0.mk (Kd.R_drew HO_223000.out)
                 have n2_ := Aside0.mk (Kd.R_drew HO_223001.out)
                 have n3_ := Aside0.mk (blk_drew BK221.out)
                 have n4_ := Aside0.mk (blk_drew BK222.out)
                 have n5_ := Aside0.mk (below_drew1 HB.out)
                 clear HO_12
                 clear HO_223000
                 clear HO_223001
                 clear BK221
                 clear BK222
                 clear HB
                 have HO_12 := n0_
                 have HO_223000 := n1_
                 have HO_223001 := n2_
                 have BK221 := n3_
                 have BK222 := n4_
                 have HB := n5_
                 clear n0_ n1_ n2_ n3_ n4_ n5_
                 have p239 : 0 ≤ (x14_1 : Int) := of_decide_eq_true (by first | (with_reducible assumption) | assumption)
                 have q239 : x14_1 < (t223.length : Int) := of_decide_eq_true (by first | (with_reducible assumption) | assumption)
                 obtain ⟨ad239, e239, hx239_0⟩ := Kd.at_string (Kd.R_reads' HO_12.out).2.2 x14_1 p239 q239
                 obtain rfl : ad227 = ad239 := (by injection e239)
                 replace p239 := eq_true p239
                 replace q239 := eq_true q239
                 refine start_ (n := 10) (S := fun w' => w'.cell? ⟨gb222, 0, none⟩ = some (u223000) ∧ w'.cell? ⟨gb222, 1, none⟩ = some (u223001) ∧ w'.cell? ⟨gb222, 2, none⟩ = some (.bool x223002_1) ∧ w'.cell? ⟨gb222, 3, none⟩ = some (.string (rdOf ByteArray.empty t223 x14_1)) ∧ w'.cell? (ad227.add (x14_1).toNat) = some (.string (rdOf ByteArray.empty t223 x14_1))) (ds := [7, 9]) #[false, false, false, false, false, false, false, false, false, false] (by kernel_rfl) rfl rfl ⟨(blk_cell BK222.out 0).trans rfl, (blk_cell BK222.out 1).trans rfl, (blk_cell BK222.out 2).trans rfl, (blk_cell BK222.out 3).trans rfl, hx239_0⟩ (fun hHeld => ?_); refine with_tabW cellarerref07_Keys.tab22 cellarerref07_Keys.bits22 (fun HT_ HW_ => ?_)
                 generalize wr.drew = w52 at HO_12 HO_223000 HO_223001 BK221 BK222 HB hx239_0 hHeld ⊢
                 refine pure_ (i := 0) (N := some 107) (v := ?_) (a' := ?_) (cellarerref07_Keys.bs 10 1) rfl rfl (any_of HT_.out (by kernel_rfl)) (fun _ _ _ h => h) (Or.inl ⟨by rfl, ?_⟩) ?_ ?_
                 rotate_left
                 ·intro w'
                  go_simp
                  with_reducible rfl
                 rotate_left
                 ·simp only [Act.put, List.setIfInBounds_toArray, List.set_cons_zero, List.set_cons_succ, i64_w, i32_w]
                  rfl
                 refine pure_ (i := 2) (N := some 109) (v := ?_) (a' := ?_) (cellarerref07_Keys.bs 10 5) rfl rfl (any_of HT_.out (by kernel_rfl)) (fun _ _ _ h => h) (Or.inl ⟨by rfl, ?_⟩) ?_ ?_
                 rotate_left
                 ·intro w'
                  go_simp
                  with_reducible rfl
                 rotate_left
                 ·simp only [Act.put, List.setIfInBounds_toArray, List.set_cons_zero, List.set_cons_succ, i64_w, i32_w]
                  rfl
                 refine pure_ (i := 3) (N := some 110) (v := ?_) (a' := ?_) (cellarerref07_Keys.bs 10 13) rfl rfl (any_of HT_.out (by kernel_rfl)) (fun _ _ _ h => h) (Or.inl ⟨by rfl, ?_⟩) ?_ ?_
                 rotate_left
                 ·intro w'
                  go_simp
                  with_reducible rfl
                 rotate_left
                 ·simp only [Act.put, List.setIfInBounds_toArray, List.set_cons_zero, List.set_cons_succ, i64_w, i32_w]
                  rfl
                 refine pure_ (i := 4) (N := some 111) (v := ?_) (a' := ?_) (cellarerref07_Keys.bs 10 29) rfl rfl (any_of HT_.out (by kernel_rfl)) (fun _ _ _ h => h) (Or.inl ⟨by rfl, ?_⟩) ?_ ?_
                 rotate_left
                 ·intro w'
                  go_simp
                  with_reducible rfl
                 rotate_left
                 ·simp only [Act.put, List.setIfInBounds_toArray, List.set_cons_zero, List.set_cons_succ, i64_w, i32_w]
                  rfl
                 refine take_ (i := 1) (N := some 108) (v := ?_) (a' := ?_) (cellarerref07_Keys.bs 10 31) rfl rfl (take_ofW HT_.out HW_.out (by kernel_rfl)) (fun _ _ _ h => h) (Or.inl ⟨by rfl, ?_⟩) hHeld ?_ ?_
                 rotate_left
                 ·rintro w' ⟨s0, s1, s2, s3, s4⟩
                  go_simp
                  with_reducible rfl
                 rotate_left
                 ·simp only [Act.put, List.setIfInBounds_toArray, List.set_cons_zero, List.set_cons_succ, i64_w, i32_w]
                  rfl
                 refine take_ (i := 5) (N := some 112) (v := ?_) (a' := ?_) (cellarerref07_Keys.bs 10 63) rfl rfl (take_ofW HT_.out HW_.out (by kernel_rfl)) (fun _ _ _ h => h) (Or.inl ⟨by rfl, ?_⟩) hHeld ?_ ?_
                 rotate_left
                 ·rintro w' ⟨s0, s1, s2, s3, s4⟩
                  go_simp
                  with_reducible rfl
                 rotate_left
                 ·simp only [Act.put, List.setIfInBounds_toArray, List.set_cons_zero, List.set_cons_succ, i64_w, i32_w]
                  rfl
                 refine one_ (i := 6) (N := some 113) (cellarerref07_Keys.bs 10 127) rfl rfl (one_of HT_.out (by kernel_rfl)) (by decide) (fun K hK => ?_)
                 refine value_ (w1 := ?_) (v := ?_) (by rfl) rfl ?_ ?_
                 rotate_left 2
                 ·go_simp
                  constructor
                  ·rfl
                  ·rfl
                 refine hK.out _ _ ⟨(blk_cell (blk_alloc BK222.out _) 0).trans rfl, (blk_cell (blk_alloc BK222.out _) 1).trans rfl, (blk_cell (blk_alloc BK222.out _) 2).trans rfl, (blk_cell (blk_alloc BK222.out _) 3).trans rfl, (World.cell?_alloc_lt _ _ _ (World.block_lt_of_cell? _ _ (hHeld.2.2.2.2))).trans (hHeld.2.2.2.2)⟩ (fun hHeld => ?_)
                 clear hK K
                 refine norm_ (a' := ?_) ?_ ?_
                 rotate_left
                 ·show Act.put _ (some 113) _ = _
                  simp only [Act.put, List.setIfInBounds_toArray, List.set_cons_zero, List.set_cons_succ, i64_w, i32_w]
                  rfl
                 refine last_ (i := 7) (N := some 114) (cellarerref07_Keys.bs 10 255) rfl rfl (one_of HT_.out (by kernel_rfl)) (by decide) (fun K hK => ?_)
                 refine Kd.R_append_step Kd.string (w0 := w) w.heap.size (by rfl) (.tmp 108) (.tmp 113) 27 9 (.string ⟨#[]⟩) 16 rfl Try.underlying27 info9 rfl (by decide) (by omega) u223001 x223001_1 (rdOf ByteArray.empty t223 x14_1) [.string (rdOf ByteArray.empty t223 x14_1)] (fun k_ => some k_ ≠ (.slice (some ad227) t223.length co14 : Value).ownBlock ∧ some k_ ≠ (u223000 : Value).ownBlock) (fun _ => False) rfl rfl ?aP (fun _ hk => hk.elim) ?aF ?aO ?aB ?aS ?aL ?_
                 (case aP => exact rfl)
                 (case aB => exact (by repeat (first | (with_reducible first | exact HB.out | apply below_alloc | apply pw_below_drewN | apply below_drew1 | refine below_set ?_ GE221.out | refine below_set ?_ GE222.out) | exact HB.out)))
                 (case aF => exact (fun k_ hk => ⟨Kd.fresh' (Kd.R_lt (by (with_reducible repeat (first | apply Kd.R_alloc | apply Kd.R_drewN | apply Kd.R_drew)); exact HO_12.out)) k_ hk, Kd.fresh' (Kd.R_lt (by (with_reducible repeat (first | apply Kd.R_alloc | apply Kd.R_drewN | apply Kd.R_drew)); exact HO_223000.out)) k_ hk⟩))
                 (case aO => exact (by (with_reducible repeat (first | apply Kd.R_alloc | apply Kd.R_drewN | apply Kd.R_drew)); exact HO_223001.out))
                 (case aS => exact (below_size (by repeat (first | (with_reducible first | exact HB.out | apply below_alloc | apply pw_below_drewN | apply below_drew1 | refine below_set ?_ GE221.out | refine below_set ?_ GE222.out) | exact HB.out))))
                 (case aL => have := LMc51.out; omega)
                 intro v241 w53 ho hb hg hat
                 rw [← Ny240.out] at ho
                 have n0_ := Aside0.mk (Kd.R_after (ok := (fun k_ => some k_ ≠ (u223000 : Value).ownBlock)) (by (with_reducible repeat (first | apply Kd.R_alloc | apply Kd.R_drewN | apply Kd.R_drew)); exact HO_12.out) hg hat)
                 have n1_ := Aside0.mk (Kd.R_after (ok := (fun k_ => some k_ ≠ (.slice (some ad227) t223.length co14 : Value).ownBlock)) (by (with_reducible repeat (first | apply Kd.R_alloc | apply Kd.R_drewN | apply Kd.R_drew)); exact HO_223000.out) hg hat)
                 have n2_ := Aside0.mk (blk_grown (g := gb221) (o := .cells #[.slice none 0 0, .slice none 0 0, .bool x222002_1, .string x222003_1] 29 (0, 0)) (by (with_reducible repeat (first | refine blk_drewN ?_ _ | refine blk_drew ?_ | refine blk_alloc ?_ _)); exact BK221.out) hg (Kd.R_ne HO_223001.out BK221.out (by decide)))
                 have n3_ := Aside0.mk (blk_grown (g := gb222) (o := .cells #[u223000, u223001, .bool x223002_1, .string (rdOf ByteArray.empty t223 x14_1)] 29 (0, 0)) (by (with_reducible repeat (first | refine blk_drewN ?_ _ | refine blk_drew ?_ | refine blk_alloc ?_ _)); exact BK222.out) hg (Kd.R_ne HO_223001.out BK222.out (by decide)))
                 have n4_ := Aside0.mk (hb)
                 have n5_ := Aside0.mk (ho)
                 clear HO_12
                 clear HO_223000
                 clear BK221
                 clear BK222
                 clear HB
                 clear HO_223001
                 have HO_12 := n0_
                 have HO_223000 := n1_
                 have BK221 := n2_
                 have BK222 := n3_
                 have HB := n4_
                 have HO242 := n5_
                 clear n0_ n1_ n2_ n3_ n4_ n5_
                 clear ho hb hg hat
                 obtain ⟨Ao54, co54, eo54⟩ := Kd.R_slice HO242.out
                 (first | subst eo54 | (injection eo54 with f1_ f2_ f3_; have f4_ := f1_.symm; have f5_ := f3_.symm; clear f1_ f2_ f3_; subst f4_; subst f5_))
                 refine hK.out _ _ ?_
                 clear hK K
                 refine norm_ (a' := ?_) ?_ ?_
                 rotate_left
                 ·show Act.put _ (some 114) _ = _
                  simp only [Act.put, List.setIfInBounds_toArray, List.set_cons_zero, List.set_cons_succ, i64_w, i32_w]
                  rfl
                 refine pure_ (i := 8) (N := some 115) (v := ?_) (a' := ?_) (cellarerref07_Keys.bs 10 511) rfl rfl (any_of HT_.out (by kernel_rfl)) (fun _ _ _ h => h) (Or.inl ⟨by rfl, ?_⟩) ?_ ?_
                 rotate_left
                 ·intro w'
                  go_simp
                  with_reducible rfl
                 rotate_left
                 ·simp only [Act.put, List.setIfInBounds_toArray, List.set_cons_zero, List.set_cons_succ, i64_w, i32_w]
                  rfl
                 refine last_ (i := 9) (N := none) (cellarerref07_Keys.bs 10 1023) rfl rfl (one_of HT_.out (by kernel_rfl)) (by decide) (fun K hK => ?_)
                 have hs55 : w53.cell? ⟨gb222, 1, none⟩ = some (u223001) := (blk_cell BK222.out 1).trans rfl
                 have hfs55 := blk_frozen BK222.out 1
                 have hns55_0 := NB221_222.out
                 have hms55_0 := NB222_221.out
                 refine skip_ (w1 := ?_) (by rfl) rfl ?_ ?_
                 rotate_left
                 ·go_simp
                  rfl
                 refine hK.out _ _ ?_
                 clear hK K
                 refine done_ (done_of HT_.out (by kernel_rfl)) ?_
                 try go_wp2
                 go_roundg k3
                 case measure => have := HK1.out; have := HJ12.out; have := HK3.out; omega
                 case rel => exact ⟨((wrap64 (x13_1 + 1))), (wrap64 (x14_1 + 1)), (x222002_1), (x222003_1), (x223000_1), (y240), (x223002_1), ((rdOf ByteArray.empty t223 x14_1)), (u223000), (.slice Ao54 y240.length co54), (by first | rfl | (simp; done) | (simp [*]; done)), (by first | rfl | (simp; done) | (simp [*]; done)), H', ⟨by have := HK1.out; have := HJ12.out; have := HK3.out; omega⟩, ⟨by (with_reducible repeat (first | apply Kd.R_alloc | apply Kd.R_drewN | apply Kd.R_drew)); exact Kd.R_mono (Kd.R_far (p := ⟨gb222, 1, none⟩) (Kd.R_types HO_12.out BK222.out (by decide)) (fun _ hk => hk.2) (.slice Ao54 y240.length co54)) (fun _ hk => ⟨hk.1.1, hk.1.2⟩)⟩, ⟨by (with_reducible repeat (first | apply Kd.R_alloc | apply Kd.R_drewN | apply Kd.R_drew)); exact Kd.R_mono (Kd.R_far (p := ⟨gb222, 1, none⟩) (Kd.R_types HO_223000.out BK222.out (by decide)) (fun _ hk => hk.2) (.slice Ao54 y240.length co54)) (fun _ hk => ⟨hk.1.1, hk.1.2⟩)⟩, ⟨by (with_reducible repeat (first | apply Kd.R_alloc | apply Kd.R_drewN | apply Kd.R_drew)); exact Kd.R_mono (Kd.R_far (p := ⟨gb222, 1, none⟩) (Kd.R_types HO242.out BK222.out (by decide)) (fun _ hk => hk.2) (.slice Ao54 y240.length co54)) (fun _ hk => ⟨hk.1.1, hk.1.2⟩)⟩, ⟨by (with_reducible repeat (first | refine blk_drewN ?_ _ | refine blk_drew ?_ | refine blk_alloc ?_ _)); refine blk_far ?_ NB221_222.out _; (with_reducible repeat (first | refine blk_drewN ?_ _ | refine blk_drew ?_ | refine blk_alloc ?_ _)); exact BK221.out⟩, ⟨by (with_reducible repeat (first | refine blk_drewN ?_ _ | refine blk_drew ?_ | refine blk_alloc ?_ _)); refine blk_put (cs := #[u223000, u223001, .bool x223002_1, .string (rdOf ByteArray.empty t223 x14_1)]) ?_ 1 _ rfl; (with_reducible repeat (first | refine blk_drewN ?_ _ | refine blk_drew ?_ | refine blk_alloc ?_ _)); exact BK222.out⟩, ⟨by repeat (first | (with_reducible first | exact HB.out | apply below_alloc | apply pw_below_drewN | apply below_drew1 | refine below_set ?_ GE221.out | refine below_set ?_ GE222.out) | exact HB.out)⟩⟩
                ·rw [if_neg c51] at H
                 exact absurd H (by simp)
               ·rw [if_neg c50] at H
                exact absurd H (by simp)
              ·rw [if_neg c49] at H
               exact absurd H (by simp)
         ·rw [if_neg c25] at H
          exact absurd H (by simp)
        ·rw [if_neg c24] at H
         exact absurd H (by simp)
   ·rw [if_neg c12] at H
    have c12b0 : decide (x14_1 < (t223.length : Int)) = false := decide_eq_false c12
    clear c12
    simp only [Option.some.injEq, Prod.mk.injEq] at H
    obtain ⟨rfl, rfl, rfl, rfl⟩ := H
    obtain ⟨Ao56, co56, eo56⟩ := Kd.R_slice HO_12.out
    subst eo56
    have hnb57 := NB222_221.out
    have hnc57 := NB221_222.out
    have hcz58_0 : wr.cell? ⟨gb222, 0, none⟩ = some (u223000) := (blk_cell BK222.out 0).trans rfl
    have hcz58_1 : wr.cell? ⟨gb222, 1, none⟩ = some (u223001) := (blk_cell BK222.out 1).trans rfl
    have hcz58_2 : wr.cell? ⟨gb222, 2, none⟩ = some (.bool x223002_1) := (blk_cell BK222.out 2).trans rfl
    have hcz58_3 : wr.cell? ⟨gb222, 3, none⟩ = some (.string x223003_1) := (blk_cell BK222.out 3).trans rfl
    have hfz58_0 := blk_frozen BK222.out 0
    have hfz58_1 := blk_frozen BK222.out 1
    have hfz58_2 := blk_frozen BK222.out 2
    have hfz58_3 := blk_frozen BK222.out 3
    obtain ⟨Ao59, co59, eo59⟩ := Kd.R_slice HO_223000.out
    subst eo59
    have hcz60_0 : wr.cell? ⟨gb221, 0, none⟩ = some (.slice none 0 0) := (blk_cell BK221.out 0).trans rfl
    have hcz60_1 : wr.cell? ⟨gb221, 1, none⟩ = some (.slice none 0 0) := (blk_cell BK221.out 1).trans rfl
    have hcz60_2 : wr.cell? ⟨gb221, 2, none⟩ = some (.bool x222002_1) := (blk_cell BK221.out 2).trans rfl
    have hcz60_3 : wr.cell? ⟨gb221, 3, none⟩ = some (.string x222003_1) := (blk_cell BK221.out 3).trans rfl
    have hfz60_0 := blk_frozen BK221.out 0
    have hfz60_1 := blk_frozen BK221.out 1
    have hfz60_2 := blk_frozen BK221.out 2
    have hfz60_3 := blk_frozen BK221.out 3
    obtain ⟨Ao61, co61, eo61⟩ := Kd.R_slice HO_223001.out
    subst eo61
    go_wp2
    refine bodyPost_ret (results_cell_row rfl _ _ gb221 29 #[.slice Ao59 x223000_1.length co59, .slice Ao61 x223001_1.length co61, .bool x223002_1, .string x223003_1] (0, 0) _ rfl (by (with_reducible repeat (first | refine blk_drewN ?_ _ | refine blk_drew ?_ | refine blk_alloc ?_ _)); refine blk_put (cs := #[.slice Ao59 x223000_1.length co59, .slice Ao61 x223001_1.length co61, .bool x223002_1, .string x222003_1]) ?_ 3 _ rfl; (with_reducible repeat (first | refine blk_drewN ?_ _ | refine blk_drew ?_ | refine blk_alloc ?_ _)); refine blk_put (cs := #[.slice Ao59 x223000_1.length co59, .slice Ao61 x223001_1.length co61, .bool x222002_1, .string x222003_1]) ?_ 2 _ rfl; (with_reducible repeat (first | refine blk_drewN ?_ _ | refine blk_drew ?_ | refine blk_alloc ?_ _)); refine blk_put (cs := #[.slice Ao59 x223000_1.length co59, .slice none 0 0, .bool x222002_1, .string x222003_1]) ?_ 1 _ rfl; (with_reducible repeat (first | refine blk_drewN ?_ _ | refine blk_drew ?_ | refine blk_alloc ?_ _)); refine blk_put (cs := #[.slice none 0 0, .slice none 0 0, .bool x222002_1, .string x222003_1]) ?_ 0 _ rfl; (with_reducible repeat (first | refine blk_drewN ?_ _ | refine blk_drew ?_ | refine blk_alloc ?_ _)); exact BK221.out) Try.underlying29 rfl (by kernel_rfl)) rfl ?_
    exact ⟨_, _, by first | rfl | (simp [errW_none, errW_some] <;> rfl) | (simp [*, errW_none, errW_some] <;> rfl), by (with_reducible repeat (first | apply Kd.R_alloc | apply Kd.R_drewN | apply Kd.R_drew)); exact Kd.R_mono (Kd.R_far (p := ⟨gb221, 3, none⟩) (Kd.R_far (p := ⟨gb221, 2, none⟩) (Kd.R_far (p := ⟨gb221, 1, none⟩) (Kd.R_far (p := ⟨gb221, 0, none⟩) (Kd.R_types HO_223000.out BK221.out (by decide)) (fun _ hk => hk.2) (.slice Ao59 x223000_1.length co59)) (fun _ hk => hk.2) (.slice Ao61 x223001_1.length co61)) (fun _ hk => hk.2) (.bool x223002_1)) (fun _ hk => hk.2) (.string x223003_1)) (fun _ hk => hk.1.2), by (with_reducible repeat (first | apply Kd.R_alloc | apply Kd.R_drewN | apply Kd.R_drew)); exact Kd.R_mono (Kd.R_far (p := ⟨gb221, 3, none⟩) (Kd.R_far (p := ⟨gb221, 2, none⟩) (Kd.R_far (p := ⟨gb221, 1, none⟩) (Kd.R_far (p := ⟨gb221, 0, none⟩) (Kd.R_types HO_223001.out BK221.out (by decide)) (fun _ hk => hk.2) (.slice Ao59 x223000_1.length co59)) (fun _ hk => hk.2) (.slice Ao61 x223001_1.length co61)) (fun _ hk => hk.2) (.bool x223002_1)) (fun _ hk => hk.2) (.string x223003_1)) (fun _ hk => hk.1.2), by repeat (first | (with_reducible first | exact HB.out | apply below_alloc | apply pw_below_drewN | apply below_drew1 | refine below_set ?_ GE221.out | refine below_set ?_ GE222.out) | exact HB.out)⟩

end Go.Proofs.Ytcnnijkgiioniaa.P
