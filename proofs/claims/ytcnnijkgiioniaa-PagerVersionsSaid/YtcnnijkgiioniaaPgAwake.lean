/-
  layer 7: the chapter's examples (cellarerlaw07.awake).
-/
import Derived.Outline
import Derived.Test.YtcnnijkgiioniaaProg
import Derived.Test.YtcnnijkgiioniaaCmp
import Derived.Test.YtcnnijkgiioniaaNmSpec
import Derived.Test.YtcnnijkgiioniaaPgKs
import Derived.Test.YtcnnijkgiioniaaPgSpec
import Derived.Test.YtcnnijkgiioniaaPgT
import Derived.Test.YtcnnijkgiioniaaPx7e
import Derived.Test.YtcnnijkgiioniaaPx8
import Derived.Test.YtcnnijkgiioniaaV0
set_option linter.unusedVariables false
set_option linter.unusedSimpArgs false
namespace Go.Proofs.Ytcnnijkgiioniaa.PgAwake
open Go.RowKit Go.Proofs.Ytcnnijkgiioniaa.P Go.Proofs.YtcnnijkgiioniaaW.PrintWords Go.Proofs.YtcnnijkgiioniaaW.PrintLast Go.Proofs.YtcnnijkgiioniaaW.PrintMore Go.Proofs.Ytcnnijkgiioniaa.PureKit Go.Proofs.Ytcnnijkgiioniaa.PgSpec Go.Proofs.Ytcnnijkgiioniaa.PgT Go.Proofs.Ytcnnijkgiioniaa.PgK Go.Proofs.Ytcnnijkgiioniaa.PgKs

abbrev one : List V := [⟨1, ⟨#[]⟩, false, 0⟩]
abbrev four : List E := [⟨⟨#[97]⟩, one⟩, ⟨⟨#[97, 47, 98]⟩, one⟩, ⟨⟨#[97, 47, 99]⟩, one⟩, ⟨⟨#[98]⟩, one⟩]
abbrev l1 : List ByteArray := [⟨#[97]⟩, ⟨#[97, 47]⟩, ⟨#[98]⟩]
abbrev l2 : List ByteArray := [⟨#[97, 47, 98]⟩, ⟨#[97, 47, 99]⟩]
abbrev l3 : List ByteArray := [⟨#[97, 47]⟩]
theorem four_is : cellarerlaw07_four.f = some four := by kernel_rfl
theorem t1 : thingsF 40 four ⟨#[]⟩ ⟨#[47]⟩ = some (l1, 0) := by decide +kernel
theorem t2 : thingsF 40 four ⟨#[97, 47]⟩ ⟨#[47]⟩ = some (l2, 0) := by decide +kernel
theorem t3 : keysF 40 four ⟨#[]⟩ ⟨#[47]⟩ ⟨#[97]⟩ 1 = some ([], l3, true, ⟨#[97, 47]⟩, 0) := by decide +kernel
theorem s1 : cellarerref02_Same.f 40 l1 l1 = some true := by decide +kernel
theorem s2 : cellarerref02_Same.f 40 l2 l2 = some true := by decide +kernel
theorem s3 : cellarerref02_Same.f 40 l3 l3 = some true := by decide +kernel
/-- A literal of texts, read. -/
theorem lit {W : World} {g : Nat} {xs : List ByteArray} (h : W.heap[g]? = some (Obj.cells (xs.map Value.string).toArray 9 (0, 0))) (hl : xs.length ≤ 100) : Kd.C Kd.string W (some ⟨g, 0, none⟩) xs.length xs := by
  refine Kd.C_of_reads (enc := Value.string) (d := ByteArray.empty) ⟨rfl, by omega, fun _ => ⟨_, rfl, fun j hj => ?_⟩⟩
  rw [add_plain, blk_cell h]
  simp [hj]

set_option maxRecDepth 100000 in
set_option maxHeartbeats 6400000 in
theorem awake_any (w : World) : Calls Try.prog 14 #[] w fun e w' => e = .returned (.bool true) ∧ Below w.heap.size w w' := by
  have hu := Try.underlying29
  go_enter Try.func14, Try.ntmps14
  go_upto_region 2 with (first | (go_at_call 32; (with_reducible refine (cellarerlaw07_four.calls four w four_is).mono ?_); rintro e w1 ⟨v, rfl, hN, hb1⟩; obtain ⟨A1, c1, rfl, hc1, hC1⟩ := Kd.N_reads hN) | (go_at_call 12; refine (things_any 40 A1 c1 four ⟨#[]⟩ ⟨#[47]⟩ _ _ w1 hC1 hc1 t1).mono ?_; rintro e w2 ⟨v2, rfl, hR2, hb2⟩))
  have B2 := Aside0.mk (below_step hb1 hb2)
  obtain ⟨A2, c2, rfl, hc2, hC2⟩ := Kd.R_reads hR2
  clear hb1 hb2 hN hC1 hR2
  go_upto_region 3 with (first | (go_at_call 32; (with_reducible refine (cellarerlaw07_four.calls four w2 four_is).mono ?_); rintro e w3 ⟨v, rfl, hN, hb1⟩; obtain ⟨A3, c3, rfl, hc3, hC3⟩ := Kd.N_reads hN) | (go_at_call 12; refine (things_any 40 A3 c3 four ⟨#[97, 47]⟩ ⟨#[47]⟩ _ _ w3 hC3 hc3 t2).mono ?_; rintro e w4 ⟨v4, rfl, hR4, hb2⟩))
  have B4 := Aside0.mk (below_step hb1 hb2)
  obtain ⟨A4, c4, rfl, hc4, hC4⟩ := Kd.R_reads hR4
  clear hb1 hb2 hN hC3 hR4
  go_upto_region 4 with (first | (go_at_call 32; (with_reducible refine (cellarerlaw07_four.calls four w4 four_is).mono ?_); rintro e w5 ⟨v, rfl, hN, hb1⟩; obtain ⟨A5, c5, rfl, hc5, hC5⟩ := Kd.N_reads hN) | (go_at_call 11; refine (keys_any 40 A5 c5 four ⟨#[]⟩ ⟨#[47]⟩ ⟨#[97]⟩ 1 _ _ _ _ _ w5 hC5 hc5 t3).mono ?_; rintro e w6 ⟨v6, v7, rfl, hR6, hR7, hb2⟩; obtain ⟨A6, c6, rfl, hc6, hC6⟩ := Kd.R_reads hR6; obtain ⟨A7, c7, rfl, hc7, hC7⟩ := Kd.R_reads hR7) | ((with_reducible refine gate_dst (N := 5) rfl ?_); refine box_event ?hg (N := 5) ?hd (cs := #[.slice none 0 0, .slice none 0 0, .bool false, .string (⟨#[]⟩ : ByteArray)]) (t := 29) ?hr ?_; (case hd => rfl); (case hg => rfl); (case hr => first | (go_simp; done) | (go_simp; rfl)); intro g hg w7 hbox hb7; have z0 := (blk_cell hbox 0).trans (rfl : _ = some (Value.slice none 0 0)); have z1 := (blk_cell hbox 1).trans (rfl : _ = some (Value.slice none 0 0)); have z2 := (blk_cell hbox 2).trans (rfl : _ = some (Value.bool false)); have z3 := (blk_cell hbox 3).trans (rfl : _ = some (Value.string (⟨#[]⟩ : ByteArray))); have f0 := blk_frozen hbox 0; have f1 := blk_frozen hbox 1; have f2 := blk_frozen hbox 2; have f3 := blk_frozen hbox 3; have HG := Aside0.mk (hg.symm ▸ Nat.le_refl _ : w6.heap.size ≤ g); clear hg))
  have h26 := below_step B4.out (below_step hb1 hb2)
  have h24 := h26.size
  have h02 := B2.out.size
  have h46 := (below_step hb1 hb2).size
  have hg6 := HG.out
  have sets : ∀ {n₀ : Nat} {a : World}, n₀ ≤ g → Below n₀ a w7 → Below n₀ a ((((w7.setCell ⟨g, 0, none⟩ (.slice A6 0 c6)).setCell ⟨g, 1, none⟩ (.slice A7 1 c7)).setCell ⟨g, 2, none⟩ (.bool true)).setCell ⟨g, 3, none⟩ (.string ⟨#[97, 47]⟩)) := fun hl h => (((h.setCell (p := ⟨g, 0, none⟩) hl _).setCell (p := ⟨g, 1, none⟩) hl _).setCell (p := ⟨g, 2, none⟩) hl _).setCell (p := ⟨g, 3, none⟩) hl _
  have n0 := Aside0.mk (sets (by omega) (below_step (below_step B2.out h26) hb7))
  have C2 := Kd.C_below hC2 (sets (by omega) (below_step h26 hb7))
  have C4 := Kd.C_below hC4 (sets (by omega) (below_step (below_step hb1 hb2) hb7))
  have C7 := Kd.C_below hC7 (sets hg6 hb7)
  have n1 := Aside0.mk (blk_set (blk_set (blk_set (blk_set hbox 0 (.slice A6 0 c6)) 1 (.slice A7 1 c7)) 2 (.bool true)) 3 (.string ⟨#[97, 47]⟩))
  generalize (((w7.setCell ⟨g, 0, none⟩ (.slice A6 0 c6)).setCell ⟨g, 1, none⟩ (.slice A7 1 c7)).setCell ⟨g, 2, none⟩ (.bool true)).setCell ⟨g, 3, none⟩ (.string ⟨#[97, 47]⟩) = w8 at n0 n1 C2 C4 C7 ⊢
  clear sets hb7 hbox z0 z1 z2 z3 f0 f1 f2 f3 hR6 hR7 hN hC5 hC2 hC4 hC7 hC6 hb1 hb2 h26 h24 h02 h46 hg6
  have S1 : Calls Try.prog 15 #[.slice A2 3 c2, .slice (some ⟨w8.heap.size, 0, none⟩) 3 3] (w8.alloc (Obj.cells #[.string ⟨#[97]⟩, .string ⟨#[97, 47]⟩, .string ⟨#[98]⟩] 9)) fun e w' => e = .returned (.bool true) ∧ Drawn0 _ w' :=
    cellarerref02_Same.calls 40 A2 c2 l1 (some ⟨w8.heap.size, 0, none⟩) 3 l1 true _ (Kd.C_alloc C2 _) hc2 (lit (blk_new _ _) (by decide)) (by decide) s1
  have S2 : ∀ W, Kd.string.C W A4 l2.length l2 → Calls Try.prog 15 #[.slice A4 2 c4, .slice (some ⟨W.heap.size, 0, none⟩) 2 2] (W.alloc (Obj.cells #[.string ⟨#[97, 47, 98]⟩, .string ⟨#[97, 47, 99]⟩] 9)) fun e w' => e = .returned (.bool true) ∧ Drawn0 (W.alloc (Obj.cells #[.string ⟨#[97, 47, 98]⟩, .string ⟨#[97, 47, 99]⟩] 9)) w' := fun W h =>
    cellarerref02_Same.calls 40 A4 c4 l2 (some ⟨W.heap.size, 0, none⟩) 2 l2 true _ (Kd.C_alloc h _) hc4 (lit (blk_new _ _) (by decide)) (by decide) s2
  have S3 : ∀ W, Kd.string.C W A7 l3.length l3 → Calls Try.prog 15 #[.slice A7 1 c7, .slice (some ⟨W.heap.size, 0, none⟩) 1 1] (W.alloc (Obj.cells #[.string ⟨#[97, 47]⟩] 9)) fun e w' => e = .returned (.bool true) ∧ Drawn0 (W.alloc (Obj.cells #[.string ⟨#[97, 47]⟩] 9)) w' := fun W h =>
    cellarerref02_Same.calls 40 A7 c7 l3 (some ⟨W.heap.size, 0, none⟩) 1 l3 true _ (Kd.C_alloc h _) hc7 (lit (blk_new _ _) (by decide)) (by decide) s3
  go_wp2_with (first | (go_at_call 15; (with_reducible refine S1.mono ?_); rintro e w9 ⟨rfl, hd⟩; have k9 := below_step (below_alloc (Below.refl _ _) _) hd.below; have m0 := Aside0.mk (below_step n0.out k9); have m1 := Aside0.mk (blk_below n1.out k9); have D4 := Kd.C_below C4 k9; have D7 := Kd.C_below C7 k9; clear hd k9) | (go_at_call 15; (with_reducible refine (S2 w9 D4).mono ?_); rintro e w10 ⟨rfl, hd⟩; have k9 := below_step (below_alloc (Below.refl _ _) _) hd.below; have p0 := Aside0.mk (below_step m0.out k9); have p1 := Aside0.mk (blk_below m1.out k9); have E7 := Kd.C_below D7 k9; have x0 := (blk_cell p1.out 0).trans (rfl : _ = some (Value.slice A6 0 c6)); have x1 := (blk_cell p1.out 1).trans (rfl : _ = some (Value.slice A7 1 c7)); clear hd k9) | (go_at_call 15; (with_reducible refine (S3 w10 E7).mono ?_); rintro e w11 ⟨rfl, hd⟩; have k9 := below_step (below_alloc (Below.refl _ _) _) hd.below; have q0 := Aside0.mk (below_step p0.out k9); have q1 := Aside0.mk (blk_below p1.out k9); have y2 := (blk_cell q1.out 2).trans (rfl : _ = some (Value.bool true)); have y3 := (blk_cell q1.out 3).trans (rfl : _ = some (Value.string (⟨#[97, 47]⟩ : ByteArray))); clear hd k9))
  go_ret
  exact ⟨rfl, q0.out⟩
end Go.Proofs.Ytcnnijkgiioniaa.PgAwake
