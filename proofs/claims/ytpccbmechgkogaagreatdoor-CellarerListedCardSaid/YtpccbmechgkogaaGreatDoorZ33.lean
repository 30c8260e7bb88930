/-
  Lemmas: DoMap, Cut.
-/
import Derived.Maps.OwnSet
import Derived.Carry
import Derived.Test.YtpccbmechgkogaaGreatDoorProg
import Derived.BigRegion
import Derived.ChangeAlike
import Derived.Deep.RegionLaw
import Derived.Deep.RegionWith
import Derived.Deep.Upon
import Derived.Defers
import Derived.Laws.LoneSync
import Derived.Laws.NewBlocks
import Derived.Laws.Pointers
import Derived.Lib.Overlaps
import Derived.Lib.SliceRun
import Derived.RegionCalls
import Derived.RegionTactic
import Derived.Shelf.RegionOpenPlain
import Derived.Shelf.Spec.SlicesInsert
import Derived.Tactics2
import Derived.Test.YtpccbmechgkogaaGreatDoorV0
import Derived.Test.YtpccbmechgkogaaGreatDoorZ01
import Derived.Test.YtpccbmechgkogaaGreatDoorZ02
import Derived.Test.YtpccbmechgkogaaGreatDoorZ06
import Derived.Test.YtpccbmechgkogaaGreatDoorZ14
import Derived.Test.YtpccbmechgkogaaGreatDoorZ21
import Derived.Test.YtpccbmechgkogaaGreatDoorZ22
set_option linter.unusedVariables false
set_option linter.unusedSimpArgs false
namespace Go.Proofs.YtpccbmechgkogaaGreatDoor.DoMap
open Go.RowKit Go.Maps Go.Proofs.YtpccbmechgkogaaGreatDoor.P Go.Proofs.YtpccbmechgkogaaGreatDoorW.PrintWords Go.Proofs.YtpccbmechgkogaaGreatDoor.PureKit
abbrev D := DataW Unit
abbrev MT : Nat := 72
abbrev FT : Nat := 1
abbrev meth (c g : Nat) : Value := .func (.func g) #[.pointer (some ⟨c, 0, none⟩)] #[]
def elem (c : Nat) : Value → Option (D × List MemPlace)
 | .func (.func g) ⟨[.pointer (some ⟨x, 0, none⟩)]⟩ ⟨[]⟩ => if x = c then some (.lit (.int .i64 g), []) else some (.lit (.int .i64 (-1)), [])
 | .nilFunc => some (.lit (.int .i64 (-2)), [])
 | _ => some (.lit (.int .i64 (-1)), [])
theorem elem_mk (c g : Nat) : elem c (meth c g) = some (.lit (.int .i64 g), []) := by
 show (if c = c then _ else _) = _
 rw [if_pos rfl]
theorem lit_inj {a b : Int} {p q : List MemPlace} (h : (some ((.lit (.int .i64 a) : D), p)) = some (.lit (.int .i64 b), q)) : a = b := by
 simp only [Option.some.injEq, Prod.mk.injEq, DataW.lit.injEq, Lit.int.injEq, true_and] at h
 exact h.1
theorem elem_inv {c g : Nat} {v : Value} {ps : List MemPlace} (h : elem c v = some (.lit (.int .i64 (g : Int)), ps)) : v = meth c g := by
 unfold elem at h
 split at h
 ·rename_i q x
  split at h
  ·rename_i hc
   have := lit_inj h
   have hq : q = g := Int.ofNat.inj this
   subst hq
   subst hc
   rfl
  ·have := lit_inj h; omega
 ·have := lit_inj h; omega
 ·have := lit_inj h; omega
theorem elem_nil {c : Nat} {v : Value} {ps : List MemPlace} (h : elem c v = some (.lit (.int .i64 (-2)), ps)) : v = .nilFunc := by
 unfold elem at h
 split at h
 ·rename_i q x
  split at h
  ·have := lit_inj h; omega
  ·have := lit_inj h; omega
 ·rfl
 ·have := lit_inj h; omega
theorem law : Keyed Tryz.prog 3 := int_keyed Tryz.underlying3
theorem key_mk {a : Int} (h : (Lit.int .i64 a).wf = true) : keyOf Tryz.prog 3 (.int .i64 a) = some (.int .i64 a) := keyOf_int_mk Tryz.underlying3 h
theorem zero_fn (w : World) : (zeroValue FT).run Tryz.prog w = .ok .nilFunc w := by kernel_rfl
theorem ht : Tryz.prog.underlying MT = some (.map 3 FT) := by kernel_rfl
theorem neq_fn (c g : Nat) (w : World) : (binOp .neq 1 (meth c g) .nilFunc).run Tryz.prog w = .ok (.bool true) w := by kernel_rfl
theorem neq_nil (w : World) : (binOp .neq 1 .nilFunc .nilFunc).run Tryz.prog w = .ok (.bool false) w := by kernel_rfl
abbrev dt (k g : Int) (d : D) : D := d.put (.int .i64 k) (.lit (.int .i64 g))
abbrev D3 : D := dt 12 18 (dt 2 17 (dt 1 16 (.map [])))
abbrev D9 : D := dt 11 27 (dt 10 26 (dt 9 25 (dt 8 24 (dt 7 23 (dt 6 22 (dt 5 21 (dt 4 20 (dt 3 19 (.map [])))))))))
abbrev Owns (w : World) (c b n : Nat) (d : D) : Prop := w.ownsMap Tryz.prog 3 (elem c) b n d
theorem look {w : World} {c b n : Nat} {d : D} (h : Owns w c b n d) {k : Int} (hk : (Lit.int .i64 k).wf = true) : ∃ v ps, (Instr.lookup MT (.map (some b)) (.int .i64 k) false).run Tryz.prog w = .ok v w ∧ elem c v = some (d.atKey (.int .i64 k) (.lit (.int .i64 (-2))), ps) :=
 h.lookup law ht (zero_fn w) (zd := .lit (.int .i64 (-2))) (zp := []) rfl (key_mk hk)
theorem eq3 : D3 = .map [(.int .i64 1, .lit (.int .i64 16)), (.int .i64 2, .lit (.int .i64 17)), (.int .i64 12, .lit (.int .i64 18))] := rfl
theorem at3_none {k : Int} (h : k ≠ 1 ∧ k ≠ 2 ∧ k ≠ 12) : D3.atKey (.int .i64 k) (.lit (.int .i64 (-2))) = .lit (.int .i64 (-2)) := by
 obtain ⟨h1, h2, h12⟩ := h
 rw [eq3]
 simp [DataW.atKey, List.find?, Lit.sameKey, Ne.symm h1, Ne.symm h2, Ne.symm h12]
theorem at3_born : D3.atKey (.int .i64 1) (.lit (.int .i64 (-2))) = .lit (.int .i64 (16 : Nat)) := rfl
theorem at3_remove : D3.atKey (.int .i64 2) (.lit (.int .i64 (-2))) = .lit (.int .i64 (17 : Nat)) := rfl
theorem at3_tick : D3.atKey (.int .i64 12) (.lit (.int .i64 (-2))) = .lit (.int .i64 (18 : Nat)) := rfl
theorem eq9 : D9 = .map [(.int .i64 3, .lit (.int .i64 19)), (.int .i64 4, .lit (.int .i64 20)), (.int .i64 5, .lit (.int .i64 21)), (.int .i64 6, .lit (.int .i64 22)), (.int .i64 7, .lit (.int .i64 23)), (.int .i64 8, .lit (.int .i64 24)), (.int .i64 9, .lit (.int .i64 25)), (.int .i64 10, .lit (.int .i64 26)), (.int .i64 11, .lit (.int .i64 27))] := rfl
theorem at9_none {k : Int} (h : k ≠ 3 ∧ k ≠ 4 ∧ k ≠ 5 ∧ k ≠ 6 ∧ k ≠ 7 ∧ k ≠ 8 ∧ k ≠ 9 ∧ k ≠ 10 ∧ k ≠ 11) : D9.atKey (.int .i64 k) (.lit (.int .i64 (-2))) = .lit (.int .i64 (-2)) := by
 obtain ⟨h3, h4, h5, h6, h7, h8, h9, h10, h11⟩ := h
 rw [eq9]
 simp [DataW.atKey, List.find?, Lit.sameKey, Ne.symm h3, Ne.symm h4, Ne.symm h5, Ne.symm h6, Ne.symm h7, Ne.symm h8, Ne.symm h9, Ne.symm h10, Ne.symm h11]
theorem at9_turn : D9.atKey (.int .i64 3) (.lit (.int .i64 (-2))) = .lit (.int .i64 (19 : Nat)) := rfl
theorem at9_put : D9.atKey (.int .i64 4) (.lit (.int .i64 (-2))) = .lit (.int .i64 (20 : Nat)) := rfl
theorem at9_delete : D9.atKey (.int .i64 5) (.lit (.int .i64 (-2))) = .lit (.int .i64 (21 : Nat)) := rfl
theorem at9_drop : D9.atKey (.int .i64 6) (.lit (.int .i64 (-2))) = .lit (.int .i64 (22 : Nat)) := rfl
theorem at9_begin : D9.atKey (.int .i64 7) (.lit (.int .i64 (-2))) = .lit (.int .i64 (23 : Nat)) := rfl
theorem at9_lay : D9.atKey (.int .i64 8) (.lit (.int .i64 (-2))) = .lit (.int .i64 (24 : Nat)) := rfl
theorem at9_abort : D9.atKey (.int .i64 9) (.lit (.int .i64 (-2))) = .lit (.int .i64 (25 : Nat)) := rfl
theorem at9_whole : D9.atKey (.int .i64 10) (.lit (.int .i64 (-2))) = .lit (.int .i64 (26 : Nat)) := rfl
theorem at9_copy : D9.atKey (.int .i64 11) (.lit (.int .i64 (-2))) = .lit (.int .i64 (27 : Nat)) := rfl
theorem upd {w : World} {c b n : Nat} {d : D} (h : Owns w c b n d) (hn : n < 20) (k g : Nat) (hk : (Lit.int .i64 (k : Int)).wf = true) : ∃ w', (Instr.mapUpdate MT (.map (some b)) (.int .i64 (k : Int)) (meth c g)).run Tryz.prog w = .ok () w' ∧ Owns w' c b (n + 1) (dt k g d) ∧ w.grownBy w' (some b) :=
 World.ownsMap.update h law ht (by unfold maxLen; omega) (key_mk hk) (elem_mk c g)
theorem made3 (w : World) (c : Nat) : ∃ M1 M2 M3 : World,
  (Instr.mapUpdate MT (.map (some w.heap.size)) (.int .i64 1) (meth c 16)).run Tryz.prog (w.alloc (.map #[] 0)) = .ok () M1 ∧
  (Instr.mapUpdate MT (.map (some w.heap.size)) (.int .i64 2) (meth c 17)).run Tryz.prog M1 = .ok () M2 ∧
  (Instr.mapUpdate MT (.map (some w.heap.size)) (.int .i64 12) (meth c 18)).run Tryz.prog M2 = .ok () M3 ∧
  Owns M3 c w.heap.size 3 D3 ∧ Below w.heap.size w M3 := by
 have o0 : Owns (w.alloc (.map #[] 0)) c w.heap.size 0 (.map []) := World.ownsMap_made w Tryz.prog 3 (elem c)
 have b0 : Below w.heap.size w (w.alloc (.map #[] 0)) := below_alloc (Below.refl _ _) _
 obtain ⟨M1, r1, o1, g1⟩ := upd o0 (by decide) 1 16 (by decide)
 have b1 := b0.grown g1 b0.size (fun k e => by cases e; exact Nat.le_refl _)
 obtain ⟨M2, r2, o2, g2⟩ := upd o1 (by decide) 2 17 (by decide)
 have b2 := b1.grown g2 b1.size (fun k e => by cases e; exact Nat.le_refl _)
 obtain ⟨M3, r3, o3, g3⟩ := upd o2 (by decide) 12 18 (by decide)
 have b3 := b2.grown g3 b2.size (fun k e => by cases e; exact Nat.le_refl _)
 exact ⟨M1, M2, M3, r1, r2, r3, o3, b3⟩
theorem made9 (w : World) (c : Nat) : ∃ M1 M2 M3 M4 M5 M6 M7 M8 M9 : World,
  (Instr.mapUpdate MT (.map (some w.heap.size)) (.int .i64 3) (meth c 19)).run Tryz.prog (w.alloc (.map #[] 0)) = .ok () M1 ∧
  (Instr.mapUpdate MT (.map (some w.heap.size)) (.int .i64 4) (meth c 20)).run Tryz.prog M1 = .ok () M2 ∧
  (Instr.mapUpdate MT (.map (some w.heap.size)) (.int .i64 5) (meth c 21)).run Tryz.prog M2 = .ok () M3 ∧
  (Instr.mapUpdate MT (.map (some w.heap.size)) (.int .i64 6) (meth c 22)).run Tryz.prog M3 = .ok () M4 ∧
  (Instr.mapUpdate MT (.map (some w.heap.size)) (.int .i64 7) (meth c 23)).run Tryz.prog M4 = .ok () M5 ∧
  (Instr.mapUpdate MT (.map (some w.heap.size)) (.int .i64 8) (meth c 24)).run Tryz.prog M5 = .ok () M6 ∧
  (Instr.mapUpdate MT (.map (some w.heap.size)) (.int .i64 9) (meth c 25)).run Tryz.prog M6 = .ok () M7 ∧
  (Instr.mapUpdate MT (.map (some w.heap.size)) (.int .i64 10) (meth c 26)).run Tryz.prog M7 = .ok () M8 ∧
  (Instr.mapUpdate MT (.map (some w.heap.size)) (.int .i64 11) (meth c 27)).run Tryz.prog M8 = .ok () M9 ∧
  Owns M9 c w.heap.size 9 D9 ∧ Below w.heap.size w M9 := by
 have o0 : Owns (w.alloc (.map #[] 0)) c w.heap.size 0 (.map []) := World.ownsMap_made w Tryz.prog 3 (elem c)
 have b0 : Below w.heap.size w (w.alloc (.map #[] 0)) := below_alloc (Below.refl _ _) _
 obtain ⟨M1, r1, o1, g1⟩ := upd o0 (by decide) 3 19 (by decide)
 have b1 := b0.grown g1 b0.size (fun k e => by cases e; exact Nat.le_refl _)
 obtain ⟨M2, r2, o2, g2⟩ := upd o1 (by decide) 4 20 (by decide)
 have b2 := b1.grown g2 b1.size (fun k e => by cases e; exact Nat.le_refl _)
 obtain ⟨M3, r3, o3, g3⟩ := upd o2 (by decide) 5 21 (by decide)
 have b3 := b2.grown g3 b2.size (fun k e => by cases e; exact Nat.le_refl _)
 obtain ⟨M4, r4, o4, g4⟩ := upd o3 (by decide) 6 22 (by decide)
 have b4 := b3.grown g4 b3.size (fun k e => by cases e; exact Nat.le_refl _)
 obtain ⟨M5, r5, o5, g5⟩ := upd o4 (by decide) 7 23 (by decide)
 have b5 := b4.grown g5 b4.size (fun k e => by cases e; exact Nat.le_refl _)
 obtain ⟨M6, r6, o6, g6⟩ := upd o5 (by decide) 8 24 (by decide)
 have b6 := b5.grown g6 b5.size (fun k e => by cases e; exact Nat.le_refl _)
 obtain ⟨M7, r7, o7, g7⟩ := upd o6 (by decide) 9 25 (by decide)
 have b7 := b6.grown g7 b6.size (fun k e => by cases e; exact Nat.le_refl _)
 obtain ⟨M8, r8, o8, g8⟩ := upd o7 (by decide) 10 26 (by decide)
 have b8 := b7.grown g8 b7.size (fun k e => by cases e; exact Nat.le_refl _)
 obtain ⟨M9, r9, o9, g9⟩ := upd o8 (by decide) 11 27 (by decide)
 have b9 := b8.grown g9 b8.size (fun k e => by cases e; exact Nat.le_refl _)
 exact ⟨M1, M2, M3, M4, M5, M6, M7, M8, M9, r1, r2, r3, r4, r5, r6, r7, r8, r9, o9, b9⟩
end Go.Proofs.YtpccbmechgkogaaGreatDoor.DoMap
namespace Go.Proofs.YtpccbmechgkogaaGreatDoor.Cut
open Go.RowKit Go.Proofs.YtpccbmechgkogaaGreatDoor.P Go.Proofs.YtpccbmechgkogaaGreatDoorW.PrintWords Go.Proofs.YtpccbmechgkogaaGreatDoorW.PrintLast Go.Proofs.YtpccbmechgkogaaGreatDoorW.PrintMore Go.Proofs.YtpccbmechgkogaaGreatDoor.PureKit Go.Proofs.YtpccbmechgkogaaGreatDoor.BkSpec Go.Proofs.YtpccbmechgkogaaGreatDoor.Wk Go.Proofs.YtpccbmechgkogaaGreatDoor.PtLack Go.Proofs.YtpccbmechgkogaaGreatDoor.Clk
theorem few_any (s : ByteArray) (w : World) : Calls Tryz.prog 32 #[.string s] w fun e w' => ∃ r : ByteArray, e = .returned (.string r) ∧ w' = w := by
 by_cases h : (s.size : Int) > 80
 ·have d1 : decide ((s.size : Int) > 80) = true := decide_eq_true h
  have d1' : decide (80 < (s.size : Int)) = true := decide_eq_true h
  have d2 : (80 : Int) ≤ (s.size : Int) := by omega
  have d3 : (0 : Int) ≤ 80 := by omega
  go_enter Tryz.func32, Tryz.ntmps32
  go_wp2
  go_ret
  first | exact ⟨_, rfl, rfl⟩ | exact ⟨⟨_, rfl⟩, rfl⟩
 ·have d1 : decide ((s.size : Int) > 80) = false := decide_eq_false h
  have d1' : decide (80 < (s.size : Int)) = false := decide_eq_false h
  go_enter Tryz.func32, Tryz.ntmps32
  go_wp2
  go_ret
  first | exact ⟨_, rfl, rfl⟩ | exact ⟨⟨_, rfl⟩, rfl⟩
def Left (w : World) (q : Q) (A : Option Addr) (c : Nat) (e : Ending) (w' : World) : Prop :=
 ∃ q2 : Q, e = .returned (.agg #[.int .i64 q2.f0, .string q2.f1, .string q2.f2, .string q2.f3, .string q2.f4, .string q2.f5, .int .u64 q2.f6, .int .i64 q2.f7, .slice A q2.f8.length c]) ∧ q2.f0 = q.f0 ∧ q2.f3.size ≤ 2001 ∧ q2.f8 = q.f8.take 40 ∧ Below w.heap.size w w'
set_option maxRecDepth 100000 in
set_option maxHeartbeats 6400000 in
theorem cut_any (w : World) (q : Q) (A : Option Addr) (c : Nat) (hc : q.f8.length ≤ c) :
  Calls Tryz.prog 5 #[.agg #[.int .i64 q.f0, .string q.f1, .string q.f2, .string q.f3, .string q.f4, .string q.f5, .int .u64 q.f6, .int .i64 q.f7, .slice A q.f8.length c]] w (Left w q A c) := by
 have hu34 := Tryz.underlying34
 obtain ⟨W2, hW2⟩ : ∃ W, W = ((w.alloc (.cells #[.int .i64 q.f0, .string q.f1, .string q.f2, .string q.f3, .string q.f4, .string q.f5, .int .u64 q.f6, .int .i64 q.f7, .slice A q.f8.length c] 34)).alloc (.cells #[.int .i64 0, .string ⟨#[]⟩, .string ⟨#[]⟩, .string ⟨#[]⟩, .string ⟨#[]⟩, .string ⟨#[]⟩, .int .u64 0, .int .i64 0, .slice none 0 0] 34)) := ⟨_, rfl⟩
 have k0 : W2.heap[w.heap.size]? = some (.cells #[.int .i64 q.f0, .string q.f1, .string q.f2, .string q.f3, .string q.f4, .string q.f5, .int .u64 q.f6, .int .i64 q.f7, .slice A q.f8.length c] 34) := by rw [hW2]; exact blk_alloc (blk_new w (.cells #[.int .i64 q.f0, .string q.f1, .string q.f2, .string q.f3, .string q.f4, .string q.f5, .int .u64 q.f6, .int .i64 q.f7, .slice A q.f8.length c] 34)) _
 have k1 : W2.heap[w.heap.size + 1]? = some (.cells #[.int .i64 0, .string ⟨#[]⟩, .string ⟨#[]⟩, .string ⟨#[]⟩, .string ⟨#[]⟩, .string ⟨#[]⟩, .int .u64 0, .int .i64 0, .slice none 0 0] 34) := by
  have := blk_new (w.alloc (.cells #[.int .i64 q.f0, .string q.f1, .string q.f2, .string q.f3, .string q.f4, .string q.f5, .int .u64 q.f6, .int .i64 q.f7, .slice A q.f8.length c] 34)) (.cells #[.int .i64 0, .string ⟨#[]⟩, .string ⟨#[]⟩, .string ⟨#[]⟩, .string ⟨#[]⟩, .string ⟨#[]⟩, .int .u64 0, .int .i64 0, .slice none 0 0] 34)
  rw [show (w.alloc (.cells #[.int .i64 q.f0, .string q.f1, .string q.f2, .string q.f3, .string q.f4, .string q.f5, .int .u64 q.f6, .int .i64 q.f7, .slice A q.f8.length c] 34)).heap.size = w.heap.size + 1 from Array.size_push _] at this
  rw [hW2]
  exact this
 have K0 := Aside0.mk k0
 have K1 := Aside0.mk k1
 have HB := Aside0.mk (show Below w.heap.size w W2 by rw [hW2]; exact below_alloc (below_alloc (Below.refl _ _) _) _)
 have HS1 : Aside0 (W2.cell? ⟨w.heap.size, 1, none⟩ = some (.string q.f1)) := ⟨(blk_cell k0 1).trans rfl⟩
 have HS2 : Aside0 (W2.cell? ⟨w.heap.size, 2, none⟩ = some (.string q.f2)) := ⟨(blk_cell k0 2).trans rfl⟩
 have HS4 : Aside0 (W2.cell? ⟨w.heap.size, 4, none⟩ = some (.string q.f4)) := ⟨(blk_cell k0 4).trans rfl⟩
 have HS5 : Aside0 (W2.cell? ⟨w.heap.size, 5, none⟩ = some (.string q.f5)) := ⟨(blk_cell k0 5).trans rfl⟩
 have HC := Aside0.mk hc
 have hf := fun j => blk_frozen k0 j
 have hz := fun j => blk_cell k0 j
 clear k0 k1 hc
 go_enter Tryz.func5, Tryz.ntmps5
 go_wp2_with fail
 rw [← hW2]
 clear hW2
 refine start_ (n := 20) (S := fun w' => w'.cell? ⟨w.heap.size, 1, none⟩ = some (.string q.f1) ∧ w'.cell? ⟨w.heap.size, 2, none⟩ = some (.string q.f2) ∧ w'.cell? ⟨w.heap.size, 4, none⟩ = some (.string q.f4) ∧ w'.cell? ⟨w.heap.size, 5, none⟩ = some (.string q.f5)) (ds := [13, 15, 17, 19]) (bb 20 0) (by kernel_rfl) rfl rfl ⟨HS1.out, HS2.out, HS4.out, HS5.out⟩ (fun hHeld => ?_)
 refine pu 0 3 (h := pu 3 6 (h := pu 6 9 (h := pu 9 12 (h := ta 1 4 hHeld (h := ta 4 7 hHeld (h := ta 7 10 hHeld (h := ta 10 13 hHeld (h := on_ 2 5 (h := fun K hK => ?_)))))))))
 refine goes_ Tryz.func32 (by kernel_rfl) rfl #[.string q.f1] (by rfl) rfl rfl (by (try simp only [List.map_toArray, List.map_cons, List.map_nil]); first | done | rfl) ?_
 refine (few_any q.f1 _).mono ?_
 rintro e _ ⟨r1, rfl, rfl⟩
 refine ⟨_, rfl, ?_⟩
 refine hK.out _ _ ⟨HS1.out, HS2.out, HS4.out, HS5.out⟩ (fun hHeld => ?_)
 clear hK K
 refine nm (h := pu 12 15 (h := on_ 5 8 (h := fun K hK => ?_)))
 refine goes_ Tryz.func32 (by kernel_rfl) rfl #[.string q.f2] (by rfl) rfl rfl (by (try simp only [List.map_toArray, List.map_cons, List.map_nil]); first | done | rfl) ?_
 refine (few_any q.f2 _).mono ?_
 rintro e _ ⟨r2, rfl, rfl⟩
 refine ⟨_, rfl, ?_⟩
 refine hK.out _ _ ⟨HS1.out, HS2.out, HS4.out, HS5.out⟩ (fun hHeld => ?_)
 clear hK K
 refine nm (h := on_ 8 11 (h := fun K hK => ?_))
 refine goes_ Tryz.func32 (by kernel_rfl) rfl #[.string q.f4] (by rfl) rfl rfl (by (try simp only [List.map_toArray, List.map_cons, List.map_nil]); first | done | rfl) ?_
 refine (few_any q.f4 _).mono ?_
 rintro e _ ⟨r4, rfl, rfl⟩
 refine ⟨_, rfl, ?_⟩
 refine hK.out _ _ ⟨HS1.out, HS2.out, HS4.out, HS5.out⟩ (fun hHeld => ?_)
 clear hK K
 refine nm (h := on_ 11 14 (h := fun K hK => ?_))
 refine goes_ Tryz.func32 (by kernel_rfl) rfl #[.string q.f5] (by rfl) rfl rfl (by (try simp only [List.map_toArray, List.map_cons, List.map_nil]); first | done | rfl) ?_
 refine (few_any q.f5 _).mono ?_
 rintro e _ ⟨r5, rfl, rfl⟩
 refine ⟨_, rfl, ?_⟩
 refine hK.out _ _ ⟨HS1.out, HS2.out, HS4.out, HS5.out⟩ (fun hHeld => ?_)
 clear hK K
 refine nm (h := ln_ 13 (h := fun K hK => ?_))
 refine skip_ (w1 := ?_) (by rfl) rfl ?_ ?_
 rotate_left
 ·go_simp
  rfl
 refine hK.out _ _ ?_
 clear hK K
 refine pu 14 16 (h := ln_ 15 (h := fun K hK => ?_))
 refine skip_ (w1 := ?_) (by rfl) rfl ?_ ?_
 rotate_left
 ·go_simp
  rfl
 refine hK.out _ _ ?_
 clear hK K
 refine pu 16 17 (h := ln_ 17 (h := fun K hK => ?_))
 refine skip_ (w1 := ?_) (by rfl) rfl ?_ ?_
 rotate_left
 ·go_simp
  rfl
 refine hK.out _ _ ?_
 clear hK K
 refine pu 18 18 (h := ln_ 19 (h := fun K hK => ?_))
 refine skip_ (w1 := ?_) (by rfl) rfl ?_ ?_
 rotate_left
 ·go_simp
  rfl
 refine hK.out _ _ ?_
 clear hK K
 refine dn (h := ?_)
 clear hHeld hz hf HS1 HS2 HS4 HS5
 obtain ⟨W3, hW3⟩ : ∃ W, W = (((((W2.setCell ⟨w.heap.size, 1, none⟩ (.string r1)).setCell ⟨w.heap.size, 2, none⟩ (.string r2)).setCell ⟨w.heap.size, 4, none⟩ (.string r4)).setCell ⟨w.heap.size, 5, none⟩ (.string r5)).drew) := ⟨_, rfl⟩
 rw [← hW3]
 have k3 : W3.heap[w.heap.size]? = some (.cells #[.int .i64 q.f0, .string r1, .string r2, .string q.f3, .string r4, .string r5, .int .u64 q.f6, .int .i64 q.f7, .slice A q.f8.length c] 34 (0, 0)) := by rw [hW3]; exact blk_drew (blk_set (blk_set (blk_set (blk_set K0.out 1 _) 2 _) 4 _) 5 _)
 have hne : w.heap.size + 1 ≠ w.heap.size := by omega
 have K4 : Aside0 (W3.heap[w.heap.size + 1]? = some (.cells #[.int .i64 0, .string ⟨#[]⟩, .string ⟨#[]⟩, .string ⟨#[]⟩, .string ⟨#[]⟩, .string ⟨#[]⟩, .int .u64 0, .int .i64 0, .slice none 0 0] 34)) := ⟨by rw [hW3]; exact blk_drew (blk_far (blk_far (blk_far (blk_far K1.out hne _) hne _) hne _) hne _)⟩
 have HB3 : Aside0 (Below w.heap.size w W3) := ⟨by rw [hW3]; exact below_drew (below_set (below_set (below_set (below_set HB.out (Nat.le_refl _)) (Nat.le_refl _)) (Nat.le_refl _)) (Nat.le_refl _))⟩
 have hz := fun j => blk_cell k3 j
 have hf := fun j => blk_frozen k3 j
 have hy := fun j => blk_cell K4.out j
 have hg := fun j => blk_frozen K4.out j
 have K3 := Aside0.mk k3
 have HNE := Aside0.mk hne
 clear k3 hW3 K0 K1 HB hne
 by_cases hd : (q.f3.size : Int) > 2001
 ·have d1 : decide ((q.f3.size : Int) > 2001) = true := decide_eq_true hd
  have d1' : decide (2001 < (q.f3.size : Int)) = true := decide_eq_true hd
  have d2 : (2001 : Int) ≤ (q.f3.size : Int) := by omega
  by_cases hp : (q.f8.length : Int) > 40
  ·have d3 : decide ((q.f8.length : Int) > 40) = true := decide_eq_true hp
   have d4 : (40 : Int) ≤ (c : Int) := by have := HC.out; omega
   have hlen : (q.f8.take 40).length = 40 := by rw [List.length_take]; omega
   have HLN := Aside0.mk hlen
   have HP := Aside0.mk hp
   have HD := Aside0.mk hd
   clear hlen hp hd
   go_wp2
   have z := fun j => blk_cell (blk_set (blk_set (blk_set (blk_set (blk_set (blk_set (blk_set (blk_set (blk_set (blk_far (p := ⟨w.heap.size, 8, none⟩) (blk_far (p := ⟨w.heap.size, 3, none⟩) K4.out HNE.out (.string (q.f3.extract 0 2001))) HNE.out (.slice A 40 c)) 0 (.int .i64 q.f0)) 1 (.string r1)) 2 (.string r2)) 3 (.string (q.f3.extract 0 2001))) 4 (.string r4)) 5 (.string r5)) 6 (.int .u64 q.f6)) 7 (.int .i64 q.f7)) 8 (.slice A 40 c)) j
   refine bodyPost_ret (v := .agg #[.int .i64 q.f0, .string r1, .string r2, .string (q.f3.extract 0 2001), .string r4, .string r5, .int .u64 q.f6, .int .i64 q.f7, .slice A 40 c]) (by simp [results, Tryz.results5, go_sem, z]) rfl ?_
   exact ⟨⟨q.f0, r1, r2, (q.f3.extract 0 2001), r4, r5, q.f6, q.f7, q.f8.take 40⟩, by rw [HLN.out], rfl, by (rw [ByteArray.size_extract]; have := HD.out; omega), rfl, (below_set (below_set (below_set (below_set (below_set (below_set (below_set (below_set (below_set (below_set (below_set HB3.out (Nat.le_refl _)) (Nat.le_refl _)) (Nat.le_succ _)) (Nat.le_succ _)) (Nat.le_succ _)) (Nat.le_succ _)) (Nat.le_succ _)) (Nat.le_succ _)) (Nat.le_succ _)) (Nat.le_succ _)) (Nat.le_succ _))⟩
  ·have d3 : decide ((q.f8.length : Int) > 40) = false := decide_eq_false hp
   have hlen : (q.f8.take 40).length = q.f8.length := by rw [List.length_take]; omega
   have HLN := Aside0.mk hlen
   have HP := Aside0.mk hp
   have HD := Aside0.mk hd
   clear hlen hp hd
   go_wp2
   have z := fun j => blk_cell (blk_set (blk_set (blk_set (blk_set (blk_set (blk_set (blk_set (blk_set (blk_set (blk_far (p := ⟨w.heap.size, 3, none⟩) K4.out HNE.out (.string (q.f3.extract 0 2001))) 0 (.int .i64 q.f0)) 1 (.string r1)) 2 (.string r2)) 3 (.string (q.f3.extract 0 2001))) 4 (.string r4)) 5 (.string r5)) 6 (.int .u64 q.f6)) 7 (.int .i64 q.f7)) 8 (.slice A q.f8.length c)) j
   refine bodyPost_ret (v := .agg #[.int .i64 q.f0, .string r1, .string r2, .string (q.f3.extract 0 2001), .string r4, .string r5, .int .u64 q.f6, .int .i64 q.f7, .slice A q.f8.length c]) (by simp [results, Tryz.results5, go_sem, z]) rfl ?_
   exact ⟨⟨q.f0, r1, r2, (q.f3.extract 0 2001), r4, r5, q.f6, q.f7, q.f8.take 40⟩, by rw [HLN.out], rfl, by (rw [ByteArray.size_extract]; have := HD.out; omega), rfl, (below_set (below_set (below_set (below_set (below_set (below_set (below_set (below_set (below_set (below_set HB3.out (Nat.le_refl _)) (Nat.le_succ _)) (Nat.le_succ _)) (Nat.le_succ _)) (Nat.le_succ _)) (Nat.le_succ _)) (Nat.le_succ _)) (Nat.le_succ _)) (Nat.le_succ _)) (Nat.le_succ _))⟩
 ·have d1 : decide ((q.f3.size : Int) > 2001) = false := decide_eq_false hd
  have d1' : decide (2001 < (q.f3.size : Int)) = false := decide_eq_false hd
  by_cases hp : (q.f8.length : Int) > 40
  ·have d3 : decide ((q.f8.length : Int) > 40) = true := decide_eq_true hp
   have d4 : (40 : Int) ≤ (c : Int) := by have := HC.out; omega
   have hlen : (q.f8.take 40).length = 40 := by rw [List.length_take]; omega
   have HLN := Aside0.mk hlen
   have HP := Aside0.mk hp
   have HD := Aside0.mk hd
   clear hlen hp hd
   go_wp2
   have z := fun j => blk_cell (blk_set (blk_set (blk_set (blk_set (blk_set (blk_set (blk_set (blk_set (blk_set (blk_far (p := ⟨w.heap.size, 8, none⟩) K4.out HNE.out (.slice A 40 c)) 0 (.int .i64 q.f0)) 1 (.string r1)) 2 (.string r2)) 3 (.string q.f3)) 4 (.string r4)) 5 (.string r5)) 6 (.int .u64 q.f6)) 7 (.int .i64 q.f7)) 8 (.slice A 40 c)) j
   refine bodyPost_ret (v := .agg #[.int .i64 q.f0, .string r1, .string r2, .string q.f3, .string r4, .string r5, .int .u64 q.f6, .int .i64 q.f7, .slice A 40 c]) (by simp [results, Tryz.results5, go_sem, z]) rfl ?_
   exact ⟨⟨q.f0, r1, r2, q.f3, r4, r5, q.f6, q.f7, q.f8.take 40⟩, by rw [HLN.out], rfl, by (have := HD.out; show q.f3.size ≤ 2001; omega), rfl, (below_set (below_set (below_set (below_set (below_set (below_set (below_set (below_set (below_set (below_set HB3.out (Nat.le_refl _)) (Nat.le_succ _)) (Nat.le_succ _)) (Nat.le_succ _)) (Nat.le_succ _)) (Nat.le_succ _)) (Nat.le_succ _)) (Nat.le_succ _)) (Nat.le_succ _)) (Nat.le_succ _))⟩
  ·have d3 : decide ((q.f8.length : Int) > 40) = false := decide_eq_false hp
   have hlen : (q.f8.take 40).length = q.f8.length := by rw [List.length_take]; omega
   have HLN := Aside0.mk hlen
   have HP := Aside0.mk hp
   have HD := Aside0.mk hd
   clear hlen hp hd
   go_wp2
   have z := fun j => blk_cell (blk_set (blk_set (blk_set (blk_set (blk_set (blk_set (blk_set (blk_set (blk_set K4.out 0 (.int .i64 q.f0)) 1 (.string r1)) 2 (.string r2)) 3 (.string q.f3)) 4 (.string r4)) 5 (.string r5)) 6 (.int .u64 q.f6)) 7 (.int .i64 q.f7)) 8 (.slice A q.f8.length c)) j
   refine bodyPost_ret (v := .agg #[.int .i64 q.f0, .string r1, .string r2, .string q.f3, .string r4, .string r5, .int .u64 q.f6, .int .i64 q.f7, .slice A q.f8.length c]) (by simp [results, Tryz.results5, go_sem, z]) rfl ?_
   exact ⟨⟨q.f0, r1, r2, q.f3, r4, r5, q.f6, q.f7, q.f8.take 40⟩, by rw [HLN.out], rfl, by (have := HD.out; show q.f3.size ≤ 2001; omega), rfl, (below_set (below_set (below_set (below_set (below_set (below_set (below_set (below_set (below_set HB3.out (Nat.le_succ _)) (Nat.le_succ _)) (Nat.le_succ _)) (Nat.le_succ _)) (Nat.le_succ _)) (Nat.le_succ _)) (Nat.le_succ _)) (Nat.le_succ _)) (Nat.le_succ _))⟩
end Go.Proofs.YtpccbmechgkogaaGreatDoor.Cut
