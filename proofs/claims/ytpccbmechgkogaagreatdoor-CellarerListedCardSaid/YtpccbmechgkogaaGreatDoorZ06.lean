/-
  Lemmas: ChkC, Fx, Px1b, ChkI.
-/
import Derived.BigQuiet
import Derived.LoopTactic
import Derived.Test.YtpccbmechgkogaaGreatDoorProg
import Derived.BigRegion
import Derived.KernelRfl
import Derived.Test.YtpccbmechgkogaaGreatDoorV0
import Derived.Test.YtpccbmechgkogaaGreatDoorZ00
import Derived.Test.YtpccbmechgkogaaGreatDoorZ01
import Derived.Test.YtpccbmechgkogaaGreatDoorZ02
import Derived.Test.YtpccbmechgkogaaGreatDoorZ03
import Derived.Test.YtpccbmechgkogaaGreatDoorZ05
set_option linter.unusedVariables false
set_option linter.unusedSimpArgs false
namespace Go.Proofs.YtpccbmechgkogaaGreatDoor.ChkC
open Go.RowKit Go.Proofs.YtpccbmechgkogaaGreatDoor.P Go.Proofs.YtpccbmechgkogaaGreatDoorW.PrintWords Go.Proofs.YtpccbmechgkogaaGreatDoor.ChSpec
set_option maxRecDepth 100000 in
set_option maxHeartbeats 6400000 in
theorem check_any (A : Option Addr) (c : Nat) (l : List V) (w : World) (hr : Kd.C k63 w A l.length l) (hc : chainB l = true) :
  Calls Tryz.prog 89 #[.slice A l.length c] w fun e w' => e = .returned (.int .i64 0) ∧ Below w.heap.size w w' := by
 unfold chainB at hc
 simp only [Bool.and_eq_true, decide_eq_true_eq, List.all_eq_true] at hc
 obtain ⟨⟨h20, hm⟩, hg⟩ := hc
 have hu := Tryz.underlying63
 have C := Aside0.mk (fun W (hW : Below w.heap.size w W) => IxV.contains_any 136 #[] (fun args w => by rfl) (fun v => !mayB v) A c l W (Kd.C_below hr hW) (fun W2 v hv hB => ChkM.may_no v W2))
 have ha : l.any (fun v => !mayB v) = false := by rw [List.any_eq_false]; intro v hv; simp [hm v hv]
 rw [ha] at C
 have HR := Aside0.mk (fun W (hW : Below w.heap.size w W) => Kd.C_below hr hW)
 have HB := Aside0.mk (Below.refl w.heap.size w)
 have d0 : decide (20 < (l.length : Int)) = false := decide_eq_false (by omega)
 have H20 := Aside0.mk h20
 have HG := Aside0.mk hg
 clear hr hm hg ha h20
 go_enter Tryz.func89, Tryz.ntmps89
 go_wp2_with fail
 refine (C.out _ HB.out).mono ?_
 rintro e w1 ⟨rfl, hb⟩
 have HB1 := Aside0.mk hb
 clear hb C HB
 go_wp2
 go_loopw [3, 4, 16] (fun a b i wr => ∃ (k : Nat) (last : Int) (null : Bool), a = .int .u64 last ∧ b = .bool null ∧ i = .int .i64 k ∧ Aside0 (∃ pre rest, pre.length = k ∧ l = pre ++ rest ∧ good last null pre.getLast? rest = true) ∧ Aside0 (Below w.heap.size w wr)) (fun _ _ i _ => l.length - (intOf i).toNat)
 case atStart => exact ⟨0, _, _, rfl, rfl, rfl, ⟨[], l, rfl, rfl, HG.out⟩, HB1⟩
 case round =>
  clear HB1 HG
  obtain ⟨k, last, null, rfl, rfl, rfl, HG, HB⟩ := hrel
  obtain ⟨pre, rest, hk, hl, hg⟩ := HG.out
  clear HG
  cases rest with
  | nil =>
   have e : k = l.length := by rw [hl, ← hk]; simp
   subst e
   clear hk hl hg
   go_wp2
   go_ret
   exact ⟨rfl, HB.out⟩
  | cons v rest =>
   have hlt : k < l.length := by rw [hl, ← hk]; simp
   rw [good_cons] at hg
   obtain ⟨ad, hA, x0, x1, x2, x3⟩ := at_T63 (HR.out _ HB.out) (k : Int) (by omega) (by omega)
   have hmem : rd_T63 l (k : Int) = v := by rw [← hk]; exact rd50 hl
   rw [hmem] at x0 x1 x2 x3
   rw [Int.toNat_natCast] at x0 x1 x2 x3
   cases hA
   clear hmem
   by_cases h4 : later pre.getLast? v = true
   ·rw [if_pos h4] at hg; cases hg
   rw [if_neg h4] at hg
   have HN := Aside0.mk (fun last' null' (h : good last' null' (some v) rest = true) => (show ∃ pre rest, pre.length = k + 1 ∧ l = pre ++ rest ∧ good last' null' pre.getLast? rest = true from ⟨pre ++ [v], rest, by simp [hk], by simp [hl], by simpa using h⟩))
   have HK := Aside0.mk hlt
   have j0 : (0 : Int) ≤ (k : Int) := by omega
   have j1 : (k : Int) < (l.length : Int) := by omega
   have hw : IntKind.i64.wrap ((k : Int) + 1) = ((k + 1 : Nat) : Int) := by rw [IntKind.wrap_i64]; have := H20.out; omega
   have hn : v.f0 = 0 → null = false := fun e => by cases null <;> simp [e] at hg ⊢
   have hlast : v.f0 < last := by by_cases e : v.f0 = 0 <;> simp [e] at hg <;> omega
   have HG : Aside0 (good (if v.f0 = 0 then last else v.f0) (if v.f0 = 0 then true else null) (some v) rest = true) := ⟨by by_cases e : v.f0 = 0 <;> simp [e] at hg ⊢ <;> simp [hg]⟩
   have d7 : decide (last ≤ v.f0) = false := decide_eq_false (by omega)
   have d8 : v.f0 = 0 ∨ v.f0 ≠ 0 := by omega
   clear hlast hg
   rcases snoc_cases pre with rfl | ⟨pre', u, rfl⟩
   ·have d5 : decide (0 < k) = false := decide_eq_false (by rw [← hk]; simp)
    have d6 : decide (0 < (k : Int)) = false := decide_eq_false (by rw [← hk]; simp)
    clear h4 hl hlt hk
    rcases d8 with e | e
    ·rw [if_pos e, if_pos e] at HG
     have e1 : (v.f0 == 0) = true := beq_iff_eq.2 e
     cases hn e
     clear e hn
     go_wp2_with fail
     go_quiet (fail)
     go_wp2
     exact ⟨⟨k + 1, _, _, rfl, rfl, by go_num, ⟨HN.out _ _ HG.out⟩, ⟨by repeat (first | exact HB.out | apply below_alloc | apply pw_below_drewN | apply below_drew1)⟩⟩, by simp [intOf]; have := HK.out; omega⟩
    ·rw [if_neg e, if_neg e] at HG
     have e1 : (v.f0 == 0) = false := beq_eq_false_iff_ne.2 e
     clear e hn
     go_wp2_with fail
     go_quiet (fail)
     go_wp2
     exact ⟨⟨k + 1, _, _, rfl, rfl, by go_num, ⟨HN.out _ _ HG.out⟩, ⟨by repeat (first | exact HB.out | apply below_alloc | apply pw_below_drewN | apply below_drew1)⟩⟩, by simp [intOf]; have := HK.out; omega⟩
   ·have hm : k = pre'.length + 1 := by rw [← hk]; simp
    have hl2 : l = pre' ++ u :: (v :: rest) := by rw [hl]; simp
    obtain ⟨ad', hA', -, -, -, y3⟩ := at_T63 (HR.out _ HB.out) (pre'.length : Int) (by omega) (by rw [hl2]; simp; omega)
    cases hA'
    have hmem : rd_T63 l (pre'.length : Int) = u := rd50 hl2
    rw [hmem, Int.toNat_natCast] at y3
    have y4 := fun o => (World.cell?_alloc_past o _ _ (World.block_lt_of_cell? _ _ y3)).trans y3
    have d5 : decide (0 < k) = true := decide_eq_true (by omega)
    have d6 : decide (0 < (k : Int)) = true := decide_eq_true (by omega)
    have d9 : decide (u.f3 < v.f3) = false := by simpa [later] using h4
    have hw1 : IntKind.i64.wrap ((k : Int) - 1) = (pre'.length : Int) := by rw [IntKind.wrap_i64]; have := H20.out; omega
    have i0 : (0 : Int) ≤ (pre'.length : Int) := by omega
    have i1 : (pre'.length : Int) < (l.length : Int) := by omega
    clear h4 hl hlt hk hl2 hm hmem
    rcases d8 with e | e
    ·rw [if_pos e, if_pos e] at HG
     have e1 : (v.f0 == 0) = true := beq_iff_eq.2 e
     cases hn e
     clear e hn
     go_wp2_with fail
     go_quiet (fail)
     go_wp2
     exact ⟨⟨k + 1, _, _, rfl, rfl, by go_num, ⟨HN.out _ _ HG.out⟩, ⟨by repeat (first | exact HB.out | apply below_alloc | apply pw_below_drewN | apply below_drew1)⟩⟩, by simp [intOf]; have := HK.out; omega⟩
    ·rw [if_neg e, if_neg e] at HG
     have e1 : (v.f0 == 0) = false := beq_eq_false_iff_ne.2 e
     clear e hn
     go_wp2_with fail
     go_quiet (fail)
     go_wp2
     exact ⟨⟨k + 1, _, _, rfl, rfl, by go_num, ⟨HN.out _ _ HG.out⟩, ⟨by repeat (first | exact HB.out | apply below_alloc | apply pw_below_drewN | apply below_drew1)⟩⟩, by simp [intOf]; have := HK.out; omega⟩
end Go.Proofs.YtpccbmechgkogaaGreatDoor.ChkC
namespace Go.Proofs.YtpccbmechgkogaaGreatDoorW.PrintLast
section
variable {P : Program} {ops : Array Oper} {Q : Exit → Act → World → Prop} {md : Region.Mode} {S : World → Prop} {ds : List Nat}
def bb (n m : Nat) : Array Bool := ((List.range n).map fun i => m.testBit i).toArray
theorem pu (i t : Nat) {oi : Oper} {v : Value} {fuel : Nat} {n m m' : Nat} {a a' : Act} {w : World} (hi : ops[i]? = some oi := by rfl) (hN : oi.dst = some t := by rfl) (hm : m + 2 ^ i = m' := by (simp only [Nat.reduceAdd, Nat.reducePow]; rfl)) (hc : anyB md ops (bb n m) (bb n m') i = true := by kernel_rfl) (hQ : ∀ c a w, Q (.panic c) (a.put oi.dst v) w → Q (.panic c) a w := by exact fun _ _ _ h => h)
  (hg : Region.wanted oi (yielded ops a.tmps) = true := by rfl) (hy : ∀ w, (execOp a.eval oi).run P w = .ok (.value v) w := by (intro w'; go_simp; with_reducible rfl)) (ha : a.put (some t) v = a' := by (simp only [Act.put, List.setIfInBounds_toArray, List.set_cons_zero, List.set_cons_succ, i64_w, i32_w]; rfl))
  (h : wpAnyLast P md ops Q S ds fuel (bb n m') a' w) : wpAnyLast P md ops Q S ds (fuel + 1) (bb n m) a w :=
 pure_ _ hi hN hc hQ (Or.inl ⟨hg, hy⟩) ha h
theorem po (i t : Nat) {oi : Oper} {fuel : Nat} {n m m' : Nat} {a a' : Act} {w : World} (hi : ops[i]? = some oi := by rfl) (hN : oi.dst = some t := by rfl) (hm : m + 2 ^ i = m' := by (simp only [Nat.reduceAdd, Nat.reducePow]; rfl)) (hc : anyB md ops (bb n m) (bb n m') i = true := by kernel_rfl) (hQ : ∀ c a w, Q (.panic c) (a.put oi.dst undef) w → Q (.panic c) a w := by exact fun _ _ _ h => h)
  (hg : Region.wanted oi (yielded ops a.tmps) = false := by rfl) (ha : a.put (some t) undef = a' := by (simp only [Act.put, List.setIfInBounds_toArray, List.set_cons_zero, List.set_cons_succ, i64_w, i32_w]; rfl))
  (h : wpAnyLast P md ops Q S ds fuel (bb n m') a' w) : wpAnyLast P md ops Q S ds (fuel + 1) (bb n m) a w :=
 pure_ _ hi hN hc hQ (Or.inr ⟨hg, rfl⟩) ha h
theorem ta (i t : Nat) {w : World} (hS0 : S w) {oi : Oper} {v : Value} {fuel : Nat} {n m m' : Nat} {a a' : Act} (hi : ops[i]? = some oi := by rfl) (hN : oi.dst = some t := by rfl) (hm : m + 2 ^ i = m' := by (simp only [Nat.reduceAdd, Nat.reducePow]; rfl)) (hc : takeB md ops ds (bb n m) (bb n m') i = true := by kernel_rfl) (hQ : ∀ c a w, Q (.panic c) (a.put oi.dst v) w → Q (.panic c) a w := by exact fun _ _ _ h => h)
  (hg : Region.wanted oi (yielded ops a.tmps) = true := by rfl) (hy : ∀ w, S w → (execOp a.eval oi).run P w = .ok (.value v) w := by (intro w' hs; (repeat (obtain ⟨_, hs⟩ := hs)); go_simp; with_reducible rfl)) (ha : a.put (some t) v = a' := by (simp only [Act.put, List.setIfInBounds_toArray, List.set_cons_zero, List.set_cons_succ, i64_w, i32_w]; rfl))
  (h : wpAnyLast P md ops Q S ds fuel (bb n m') a' w) : wpAnyLast P md ops Q S ds (fuel + 1) (bb n m) a w :=
 take_ _ hi hN hc hQ (Or.inl ⟨hg, hy⟩) hS0 ha h
theorem on_ (i t : Nat) {oi : Oper} {fuel : Nat} {n m m' : Nat} {a : Act} {w : World} (hi : ops[i]? = some oi := by rfl) (hN : oi.dst = some t := by rfl) (hm : m + 2 ^ i = m' := by (simp only [Nat.reduceAdd, Nat.reducePow]; rfl)) (hc : readyB md ops (bb n m) (bb n m') i = true := by kernel_rfl) (hd : i ∉ ds := by decide)
  (h : ∀ K : Act → World → Prop, Shut (∀ a' w', S w' → (S w' → wpAnyLast P md ops Q S ds fuel (bb n m') a' w') → K a' w') → if Region.wanted oi (yielded ops a.tmps) = true then Oper.wp P oi a w K Q else K (a.put (some t) undef) w) :
  wpAnyLast P md ops Q S ds (fuel + 1) (bb n m) a w := one_ _ hi hN hc hd h
theorem la_ (i t : Nat) {oi : Oper} {fuel : Nat} {n m m' : Nat} {a : Act} {w : World} (hi : ops[i]? = some oi := by rfl) (hN : oi.dst = some t := by rfl) (hm : m + 2 ^ i = m' := by (simp only [Nat.reduceAdd, Nat.reducePow]; rfl)) (hc : readyB md ops (bb n m) (bb n m') i = true := by kernel_rfl) (hd : i ∈ ds := by decide)
  (h : ∀ K : Act → World → Prop, Shut (∀ a' w', wpAnyLast P md ops Q S ds fuel (bb n m') a' w' → K a' w') → if Region.wanted oi (yielded ops a.tmps) = true then Oper.wp P oi a w K Q else K (a.put (some t) undef) w) :
  wpAnyLast P md ops Q S ds (fuel + 1) (bb n m) a w := last_ _ hi hN hc hd h
theorem ln_ (i : Nat) {oi : Oper} {fuel : Nat} {n m m' : Nat} {a : Act} {w : World} (hi : ops[i]? = some oi := by rfl) (hN : oi.dst = none := by rfl) (hm : m + 2 ^ i = m' := by (simp only [Nat.reduceAdd, Nat.reducePow]; rfl)) (hc : readyB md ops (bb n m) (bb n m') i = true := by kernel_rfl) (hd : i ∈ ds := by decide)
  (h : ∀ K : Act → World → Prop, Shut (∀ a' w', wpAnyLast P md ops Q S ds fuel (bb n m') a' w' → K a' w') → if Region.wanted oi (yielded ops a.tmps) = true then Oper.wp P oi a w K Q else K (a.put none undef) w) :
  wpAnyLast P md ops Q S ds (fuel + 1) (bb n m) a w := last_ _ hi hN hc hd h
theorem nm {fuel : Nat} {l : Array Bool} {a a' : Act} {w : World} (ha : a = a' := by (simp only [Act.put, List.setIfInBounds_toArray, List.set_cons_zero, List.set_cons_succ, i64_w, i32_w]; rfl)) (h : wpAnyLast P md ops Q S ds fuel l a' w) : wpAnyLast P md ops Q S ds fuel l a w := norm_ ha h
theorem dn {l : Array Bool} {a : Act} {w : World} {n : Nat} (hr : (Region.ready md ops l == []) = true := by kernel_rfl) (h : Q .normal a w) : wpAnyLast P md ops Q S ds n l a w := done_ hr h
end
end Go.Proofs.YtpccbmechgkogaaGreatDoorW.PrintLast
namespace Go.Proofs.YtpccbmechgkogaaGreatDoor.P
open Go.RowKit Go.Proofs.YtpccbmechgkogaaGreatDoorW.PrintWords Go.Proofs.YtpccbmechgkogaaGreatDoorW.PrintLast Go.Proofs.YtpccbmechgkogaaGreatDoorW.PrintMore
attribute [local go_sem] max2_int min2_int max_two min_two max_three min_three max_four min_four
def name_Key.f (a0 : ByteArray) : Option (Bool) := some (Go.Proofs.YtpccbmechgkogaaGreatDoor.Name.keyB a0)
theorem name_Key.calls (a0 : ByteArray) (r : Bool) (w : World) (h : name_Key.f a0 = some r) :
  Calls Tryz.prog 76 #[.string a0] w fun e w' => e = .returned (.bool r) ∧ Below w.heap.size w w' := by
 unfold name_Key.f at h
 obtain rfl := Option.some.inj h
 exact Go.Proofs.YtpccbmechgkogaaGreatDoor.Name.key_any a0 w
end Go.Proofs.YtpccbmechgkogaaGreatDoor.P
namespace Go.Proofs.YtpccbmechgkogaaGreatDoor.ChkI
open Go.RowKit Go.Proofs.YtpccbmechgkogaaGreatDoor.P Go.Proofs.YtpccbmechgkogaaGreatDoorW.PrintWords Go.Proofs.YtpccbmechgkogaaGreatDoorW.PrintLast Go.Proofs.YtpccbmechgkogaaGreatDoorW.PrintMore Go.Proofs.YtpccbmechgkogaaGreatDoor.PureKit Go.Proofs.YtpccbmechgkogaaGreatDoor.BkSpec
set_option maxRecDepth 100000 in
set_option maxHeartbeats 6400000 in
theorem check_any (A : Option Addr) (c : Nat) (l : List E) (w : World) (hr : Kd.C k79 w A l.length l) (h : IdxSpec.indexB l = true) :
  Calls Tryz.prog 74 #[.slice A l.length c] w fun e w' => e = .returned (.int .i64 0) ∧ Below w.heap.size w w' := by
 obtain ⟨hl, hf, hp⟩ := (IdxLaws.index_iff l).1 h
 replace hp := BkSpec.next_pair hp
 have HB0 := Aside0.mk (Below.refl w.heap.size w)
 have HP := Aside0.mk hp
 have H20 := Aside0.mk hl
 have HF := Aside0.mk hf
 have HR := Aside0.mk (fun W (hW : Below w.heap.size w W) => Kd.C_below hr hW)
 have dl : decide ((l.length : Int) > 60) = false := decide_eq_false (by omega)
 have hu := Tryz.underlying79
 clear hr hf hp hl
 go_enter Tryz.func74, Tryz.ntmps74
 go_wp2
 go_loopw [10] (fun v wr => ∃ k : Nat, v = .int .i64 k ∧ k ≤ l.length ∧ Aside0 (Below w.heap.size w wr)) (fun v _ => l.length - (intOf v).toNat)
 case atStart => exact ⟨0, rfl, Nat.zero_le _, HB0⟩
 case round =>
  clear HB0
  obtain ⟨k, rfl, hk, HB0⟩ := hrel
  by_cases hlt : k < l.length
  ·have d4 : decide ((k : Int) < (l.length : Int)) = true := decide_eq_true (by omega)
   obtain ⟨ad, A1, c1, hA, x0, x1, hl1, hC⟩ := at_T79 (HR.out _ HB0.out) (k : Int) (by omega) (by omega)
   subst hA
   have hmem : rd_T79 l (k : Int) = l[k] := rd_here _ l k hlt
   rw [hmem] at x0 x1 hl1 hC
   rw [Int.toNat_natCast] at x0 x1
   obtain ⟨x, hx⟩ : ∃ x, x = l[k] := ⟨_, rfl⟩
   rw [← hx] at x0 x1 hl1 hC
   have hfx := HF.out x (by rw [hx]; exact List.getElem_mem hlt)
   have hbx := below_alloc (Below.refl wr.heap.size wr) (.cells #[.string x.f0, .slice A1 x.f1.length c1] 79)
   have HBX := Aside0.mk hbx
   simp only [IdxLaws.okE, Bool.and_eq_true] at hfx
   have CK := Aside0.mk (fun (W : World) => name_Key.calls x.f0 true W (congrArg some hfx.1.1))
   have CC := Aside0.mk (fun (W : World) (hW : Below (wr.alloc (.cells #[.string x.f0, .slice A1 x.f1.length c1] 79)).heap.size (wr.alloc (.cells #[.string x.f0, .slice A1 x.f1.length c1] 79)) W) => ChkC.check_any A1 c1 x.f1 W (Kd.C_below hC (below_step hbx hW)) hfx.2)
   have d8 : (x.f1.length == 0) = false := by have := hfx.1.2; cases hz : x.f1 <;> simp [hz] at this ⊢
   have d9 : ((x.f1.length : Int) == 0) = false := by rw [beq_eq_false_iff_ne] at d8 ⊢; omega
   have HX := Aside0.mk (show ∃ h : k < l.length, x = l[k] from ⟨hlt, hx⟩)
   have j0 : (0 : Int) ≤ (k : Int) := by omega
   have j1 : (k : Int) < (l.length : Int) := by omega
   have hw2 : IntKind.i64.wrap ((k : Int) + 1) = ((k + 1 : Nat) : Int) := by rw [IntKind.wrap_i64]; have := H20.out; omega
   have HS0 := Aside0.mk (show (wr.alloc (.cells #[.string x.f0, .slice A1 x.f1.length c1] 79)).cell? ⟨wr.heap.size, 0, none⟩ = _ from (blk_cell (blk_new wr _) 0).trans rfl)
   have HS1 := Aside0.mk (show (wr.alloc (.cells #[.string x.f0, .slice A1 x.f1.length c1] 79)).cell? ⟨wr.heap.size, 1, none⟩ = _ from (blk_cell (blk_new wr _) 1).trans rfl)
   have HK := Aside0.mk hlt
   clear hmem hx hk hfx hl1 hC hbx
   by_cases hk0 : k = 0
   ·have d5 : decide (0 < k) = false := decide_eq_false (by omega)
    clear hk0 hlt
    go_wp2_with fail
    refine start_ (n := 31) (S := fun w' => w'.cell? ⟨wr.heap.size, 0, none⟩ = some (.string x.f0) ∧ w'.cell? ⟨wr.heap.size, 1, none⟩ = some (.slice A1 x.f1.length c1)) (ds := []) (bb 31 0) (by kernel_rfl) rfl rfl ⟨HS0.out, HS1.out⟩ (fun hHeld => ?_)
    refine pu 0 15 (h := ta 1 16 hHeld (h := on_ 2 17 (h := fun K hK => ?_)))
    refine goes_ Tryz.func76 (by kernel_rfl) rfl #[.string x.f0] (by rfl) rfl rfl (by (try simp only [List.map_toArray, List.map_cons, List.map_nil]); first | done | rfl) ?_
    refine (CK.out _).mono ?_
    rintro e w3 ⟨rfl, hb⟩
    refine ⟨_, rfl, ?_⟩
    have HD3 := Aside0.mk (below_step (below_drew (Below.refl _ _)) hb)
    clear hb
    refine hK.out _ _ ⟨(pw_cell_below HD3.out HS0.out), (pw_cell_below HD3.out HS1.out)⟩ (fun hHeld => ?_)
    clear hK K
    refine nm (h := pu 3 18 (h := pu 4 19 (h := pu 5 20 (h := pu 6 21 (h := pu 7 22 (h := po 8 23 (h := po 9 24 (h := po 10 25 (h := po 11 26 (h := po 12 27 (h := po 13 28 (h := po 14 29 (h := po 15 30 (h := po 16 31 (h := pu 17 32 (h := pu 18 33 (h := pu 19 34 (h := pu 20 35 (h := ta 21 36 hHeld (h := pu 22 37 (h := pu 23 38 (h := pu 24 39 (h := pu 25 40 (h := pu 26 41 (h := ta 27 42 hHeld (h := on_ 28 43 (h := fun K hK => ?_)))))))))))))))))))))))))))
    refine goes_ Tryz.func89 (by kernel_rfl) rfl #[.slice A1 x.f1.length c1] (by rfl) rfl rfl (by (try simp only [List.map_toArray, List.map_cons, List.map_nil]); first | done | rfl) ?_
    refine (CC.out _ HD3.out).mono ?_
    rintro e w4 ⟨rfl, hb⟩
    refine ⟨_, rfl, ?_⟩
    have HD4 := Aside0.mk (below_step HD3.out hb)
    clear hb
    refine hK.out _ _ ⟨(pw_cell_below HD4.out HS0.out), (pw_cell_below HD4.out HS1.out)⟩ (fun hHeld => ?_)
    clear hK K
    refine nm (h := pu 29 44 (h := pu 30 45 (h := dn (h := ?_))))
    clear hHeld x0 x1 d4 d5
    go_wp2
    exact ⟨⟨k + 1, by go_num, by have := HK.out; omega, ⟨below_step HB0.out (below_step HBX.out HD4.out)⟩⟩, by simp [intOf]; have := HK.out; omega⟩
   ·have d5 : decide (0 < k) = true := decide_eq_true (by omega)
    obtain ⟨m, hm⟩ : ∃ m, k = m + 1 := ⟨k - 1, by omega⟩
    obtain ⟨ad', _, _, hA', y0, -⟩ := at_T79 (HR.out _ HB0.out) (m : Int) (by omega) (by omega)
    cases hA'
    have hmem : rd_T79 l (m : Int) = l[m] := rd_here _ l m (by omega)
    rw [hmem, Int.toNat_natCast] at y0
    obtain ⟨y, hy⟩ : ∃ y, y = l[m].f0 := ⟨_, rfl⟩
    rw [← hy] at y0
    have d6 : Op.bytesLess y.toList x.f0.toList = true := by
     obtain ⟨hq, hx⟩ := HX.out
     have := HP.out m k (by omega) hq (by omega)
     dsimp only at this
     rw [← hy, ← hx] at this
     exact this
    have i0 : (0 : Int) ≤ (m : Int) := by omega
    have i1 : (m : Int) < (l.length : Int) := by omega
    have hw1 : IntKind.i64.wrap ((k : Int) - 1) = (m : Int) := by rw [IntKind.wrap_i64]; have := H20.out; omega
    have HSY := Aside0.mk (pw_cell_below HBX.out y0)
    clear hk0 hlt hm hmem hy y0
    go_wp2_with fail
    refine start_ (n := 31) (S := fun w' => w'.cell? ⟨wr.heap.size, 0, none⟩ = some (.string x.f0) ∧ w'.cell? ⟨wr.heap.size, 1, none⟩ = some (.slice A1 x.f1.length c1) ∧ w'.cell? (ad.add (m * 2)) = some (.string y)) (ds := []) (bb 31 0) (by kernel_rfl) rfl rfl ⟨HS0.out, HS1.out, HSY.out⟩ (fun hHeld => ?_)
    refine pu 0 15 (h := ta 1 16 hHeld (h := on_ 2 17 (h := fun K hK => ?_)))
    refine goes_ Tryz.func76 (by kernel_rfl) rfl #[.string x.f0] (by rfl) rfl rfl (by (try simp only [List.map_toArray, List.map_cons, List.map_nil]); first | done | rfl) ?_
    refine (CK.out _).mono ?_
    rintro e w3 ⟨rfl, hb⟩
    refine ⟨_, rfl, ?_⟩
    have HD3 := Aside0.mk (below_step (below_drew (Below.refl _ _)) hb)
    clear hb
    refine hK.out _ _ ⟨(pw_cell_below HD3.out HS0.out), (pw_cell_below HD3.out HS1.out), (pw_cell_below HD3.out HSY.out)⟩ (fun hHeld => ?_)
    clear hK K
    refine nm (h := pu 3 18 (h := pu 4 19 (h := pu 5 20 (h := pu 6 21 (h := pu 7 22 (h := pu 8 23 (h := pu 9 24 (h := pu 10 25 (h := pu 11 26 (h := pu 12 27 (h := pu 14 29 (h := ta 13 28 hHeld (h := ta 15 30 hHeld (h := pu 16 31 (h := pu 17 32 (h := pu 18 33 (h := pu 19 34 (h := pu 20 35 (h := ta 21 36 hHeld (h := pu 22 37 (h := pu 23 38 (h := pu 24 39 (h := pu 25 40 (h := pu 26 41 (h := ta 27 42 hHeld (h := on_ 28 43 (h := fun K hK => ?_)))))))))))))))))))))))))))
    refine goes_ Tryz.func89 (by kernel_rfl) rfl #[.slice A1 x.f1.length c1] (by rfl) rfl rfl (by (try simp only [List.map_toArray, List.map_cons, List.map_nil]); first | done | rfl) ?_
    refine (CC.out _ HD3.out).mono ?_
    rintro e w4 ⟨rfl, hb⟩
    refine ⟨_, rfl, ?_⟩
    have HD4 := Aside0.mk (below_step HD3.out hb)
    clear hb
    refine hK.out _ _ ⟨(pw_cell_below HD4.out HS0.out), (pw_cell_below HD4.out HS1.out), (pw_cell_below HD4.out HSY.out)⟩ (fun hHeld => ?_)
    clear hK K
    refine nm (h := pu 29 44 (h := pu 30 45 (h := dn (h := ?_))))
    clear hHeld x0 x1 d4 d5 d6 i0 i1 hw1
    go_wp2
    exact ⟨⟨k + 1, by go_num, by have := HK.out; omega, ⟨below_step HB0.out (below_step HBX.out HD4.out)⟩⟩, by simp [intOf]; have := HK.out; omega⟩
  ·have hk2 : k = l.length := by omega
   subst hk2
   go_wp2
   go_ret
   exact ⟨rfl, HB0.out⟩
end Go.Proofs.YtpccbmechgkogaaGreatDoor.ChkI
