/-
  cellarerref05.Put: the document's answer to what is laid at a chain.
-/
import Derived.Test.YtldmidoemcdaaaaPx4
import Derived.Test.YtldmidoemcdaaaaChRef
import Derived.Test.YtldmidoemcdaaaaIdxV
import Derived.BigRegion
import Derived.BigQuiet
import Derived.Deep.DeepCutAuto
import Derived.LoopTactic
import Derived.Outline
set_option linter.unusedVariables false
set_option linter.unusedSimpArgs false
namespace Go.Proofs.Ytldmidoemcdaaaa.VRefPut
open Go.RowKit Go.Proofs.Ytldmidoemcdaaaa.P Go.Proofs.YtldmidoemcdaaaaW.PrintWords Go.Proofs.YtldmidoemcdaaaaW.PrintLast Go.Proofs.YtldmidoemcdaaaaW.PrintMore Go.Proofs.Ytldmidoemcdaaaa.PureKit Go.Proofs.Ytldmidoemcdaaaa.IdxV Go.Proofs.Ytldmidoemcdaaaa.ChSpec Go.Proofs.Ytldmidoemcdaaaa.ChRef

def Post (w : World) (r : List V × Int) (e : Ending) (w' : World) : Prop := ∃ v' : Value, e = .returned (.tuple #[v', .int .i64 r.2]) ∧ Kd.R k25 25 w' w.heap.size (fun _ => True) v' r.1 ∧ Below w.heap.size w w'
def bs (n m : Nat) : Array Bool := ((List.range n).map fun i => m.testBit i).toArray
/-- Is it refused at once? -/
def badB (l : List V) (s : Int) (x : V) : Bool := !chainB l || (decide (s < 0) || (decide (s > 2) || (!mayB x || ((decide (s = 1) && decide (x.f0 = 0)) || elder l x))))
theorem bad_put {l : List V} {s : Int} {x : V} (h : badB l s x = true) : putF l s x = ([], 1) := by
  unfold putF
  split
  · rename_i hc
    obtain ⟨h1, h2, h3, h4⟩ := hc
    have h5 : s = 1 ∧ x.f0 = 0 := by
      simp only [badB, h1, h3, h4, Bool.not_true, Bool.false_or, Bool.or_false, Bool.or_eq_true, Bool.and_eq_true, decide_eq_true_eq] at h
      omega
    have hl : layF l s x = ([], 1) := by
      unfold layF aheadF
      rw [if_pos h5.1, if_pos h5.2]
    rw [hl]
    rfl
  · rfl
theorem good_put {l : List V} {s : Int} {x : V} (h : badB l s x = false) : (s = 1 → x.f0 ≠ 0) ∧ putF l s x = (if (layF l s x).2 ≠ 0 then ([], (layF l s x).2) else if (layF l s x).1.length > 20 then ([], 6) else ((layF l s x).1, 0)) := by
  simp only [badB, Bool.or_eq_false_iff, Bool.not_eq_false', Bool.and_eq_false_iff, decide_eq_false_iff_not] at h
  obtain ⟨h1, h2, h3, h4, h5, h6⟩ := h
  refine ⟨fun hs h0 => by omega, ?_⟩
  unfold putF
  rw [if_pos ⟨h1, by omega, h4, h6⟩]
theorem ahead_old {l : List V} {x : V} (h0 : x.f0 ≠ 0) (h : l.any (fun y => decide (y.f0 ≥ x.f0)) = true) : layF l 1 x = ([], 9) := by
  unfold layF aheadF
  rw [if_pos rfl, if_neg h0, if_pos h]
theorem ahead_new {l : List V} {x : V} (h0 : x.f0 ≠ 0) (h : l.any (fun y => decide (y.f0 ≥ x.f0)) = false) : layF l 1 x = (x :: l, 0) := by
  unfold layF aheadF
  rw [if_pos rfl, if_neg h0, if_neg (by rw [h]; simp)]
theorem over_lay {l : List V} {s : Int} {x : V} (h : s ≠ 1) : layF l s x = ({ x with f0 := 0 } :: withoutL l 0, 0) := by
  unfold layF overF
  rw [if_neg h]

set_option maxRecDepth 100000 in
set_option maxHeartbeats 16000000 in
theorem put_refused (A : Option Addr) (c : Nat) (l : List V) (s : Int) (x : V) (w : World) (hr : Kd.C k25 w A l.length l) (hc : l.length ≤ c) (hl : l.length ≤ 1000) (hw : ∀ v ∈ l, 0 ≤ v.f0) (hb : badB l s x = true) :
    Calls Try.prog 13 #[.slice A l.length c, .int .i64 s, ver x] w (Post w (putF l s x)) := by
  have hu := Try.underlying25
  unfold ver
  obtain ⟨k, hk⟩ := (ref_check l hl hw).rounds
  obtain ⟨W0, hW0⟩ : ∃ W0, W0 = w.alloc (.cells #[.int .u64 x.f0, .string x.f1, .bool x.f2, .int .i64 x.f3] 25) := ⟨_, rfl⟩
  have HB0 : Aside0 (Below w.heap.size w W0) := ⟨by rw [hW0]; exact below_alloc (Below.refl _ _) _⟩
  have HK0 : Aside0 (W0.heap[w.heap.size]? = some (.cells #[.int .u64 x.f0, .string x.f1, .bool x.f2, .int .i64 x.f3] 25 (0, 0))) := ⟨by rw [hW0]; exact Array.getElem?_push_size⟩
  have HR0 : Aside0 (Kd.C k25 W0 A l.length l) := ⟨Kd.C_below hr HB0.out⟩
  have CK := cellarerref05_Check.calls k A c l _ W0.drew (Kd.C_drew HR0.out) hc hk
  have HR := Aside0.mk hr
  have HC0 := Aside0.mk hc
  clear hr hc hk
  have HF := Aside0.mk (bad_put hb)
  go_enter Try.func13, Try.ntmps13
  go_upto_region 1 with (fail)
  rw [← hW0]
  clear hW0
  cases hq : chainB l with
  | false =>
    rw [hq] at CK
    have CK := Aside0.mk CK
    clear hq hb
    refine start_ (n := 39) (S := fun w' => w'.cell? ⟨w.heap.size, 0, none⟩ = some (.int .u64 x.f0) ∧ w'.cell? ⟨w.heap.size, 1, none⟩ = some (.string x.f1) ∧ w'.cell? ⟨w.heap.size, 2, none⟩ = some (.bool x.f2) ∧ w'.cell? ⟨w.heap.size, 3, none⟩ = some (.int .i64 x.f3)) (ds := []) #[false, false, false, false, false, false, false, false, false, false, false, false, false, false, false, false, false, false, false, false, false, false, false, false, false, false, false, false, false, false, false, false, false, false, false, false, false, false, false] (by kernel_rfl) rfl rfl ⟨((blk_cell HK0.out 0).trans rfl), ((blk_cell HK0.out 1).trans rfl), ((blk_cell HK0.out 2).trans rfl), ((blk_cell HK0.out 3).trans rfl)⟩ (fun hHeld => ?_)
    refine pure_ (i := 0) (N := some 10) (v := ?_) (a' := ?_) (bs 39 1) rfl rfl (by kernel_rfl) (fun _ _ _ h => h) (Or.inl ⟨by rfl, ?_⟩) ?_ ?_; rotate_left; (· (intro w'; go_simp; with_reducible rfl)); rotate_left; (· (simp only [Act.put, List.setIfInBounds_toArray, List.set_cons_zero, List.set_cons_succ, i64_w, i32_w]; rfl))
    refine one_ (i := 1) (N := some 11) (bs 39 3) rfl rfl (by kernel_rfl) (by decide) (fun K hK => ?_)
    refine goes_ Try.func18 (by kernel_rfl) rfl #[.slice A l.length c] (by rfl) rfl rfl (by simp only [List.map_toArray, List.map_cons, List.map_nil]; rfl) ?_
    refine CK.out.mono ?_
    rintro e w4 ⟨rfl, hb⟩
    refine ⟨_, rfl, ?_⟩
    have HC4 := Aside0.mk (below_step (below_drew (Below.refl W0.heap.size W0)) hb)
    have HK4 := Aside0.mk ((hb.block _ (World.block_lt_of_cell? _ _ (blk_cell HK0.out 0))).trans HK0.out)
    clear hb CK
    refine hK.out _ _ ⟨((blk_cell HK4.out 0).trans rfl), ((blk_cell HK4.out 1).trans rfl), ((blk_cell HK4.out 2).trans rfl), ((blk_cell HK4.out 3).trans rfl)⟩ (fun hHeld => ?_)
    clear hK K
    refine norm_ (a' := ?_) ?_ ?_
    rotate_left
    · show Act.put _ (some 11) _ = _
      simp only [Act.put, List.setIfInBounds_toArray, List.set_cons_zero, List.set_cons_succ, i64_w, i32_w]
      rfl
    refine pure_ (i := 2) (N := some 12) (v := ?_) (a' := ?_) (bs 39 7) rfl rfl (by kernel_rfl) (fun _ _ _ h => h) (Or.inl ⟨by rfl, ?_⟩) ?_ ?_; rotate_left; (· (intro w'; go_simp; with_reducible rfl)); rotate_left; (· (simp only [Act.put, List.setIfInBounds_toArray, List.set_cons_zero, List.set_cons_succ, i64_w, i32_w]; rfl))
    refine pure_ (i := 3) (N := some 13) (v := ?_) (a' := ?_) (bs 39 15) rfl rfl (by kernel_rfl) (fun _ _ _ h => h) (Or.inl ⟨by rfl, ?_⟩) ?_ ?_; rotate_left; (· (intro w'; go_simp; with_reducible rfl)); rotate_left; (· (simp only [Act.put, List.setIfInBounds_toArray, List.set_cons_zero, List.set_cons_succ, i64_w, i32_w]; rfl))
    refine pure_ (i := 4) (N := some 14) (v := undef) (a' := ?_) (bs 39 31) rfl rfl (by kernel_rfl) (fun _ _ _ h => h) (Or.inr ⟨by rfl, rfl⟩) ?_ ?_; rotate_left; (· (simp only [Act.put, List.setIfInBounds_toArray, List.set_cons_zero, List.set_cons_succ, i64_w, i32_w]; rfl))
    refine pure_ (i := 5) (N := some 15) (v := undef) (a' := ?_) (bs 39 63) rfl rfl (by kernel_rfl) (fun _ _ _ h => h) (Or.inr ⟨by rfl, rfl⟩) ?_ ?_; rotate_left; (· (simp only [Act.put, List.setIfInBounds_toArray, List.set_cons_zero, List.set_cons_succ, i64_w, i32_w]; rfl))
    refine pure_ (i := 6) (N := some 16) (v := ?_) (a' := ?_) (bs 39 127) rfl rfl (by kernel_rfl) (fun _ _ _ h => h) (Or.inl ⟨by rfl, ?_⟩) ?_ ?_; rotate_left; (· (intro w'; go_simp; with_reducible rfl)); rotate_left; (· (simp only [Act.put, List.setIfInBounds_toArray, List.set_cons_zero, List.set_cons_succ, i64_w, i32_w]; rfl))
    refine pure_ (i := 7) (N := some 17) (v := ?_) (a' := ?_) (bs 39 255) rfl rfl (by kernel_rfl) (fun _ _ _ h => h) (Or.inl ⟨by rfl, ?_⟩) ?_ ?_; rotate_left; (· (intro w'; go_simp; with_reducible rfl)); rotate_left; (· (simp only [Act.put, List.setIfInBounds_toArray, List.set_cons_zero, List.set_cons_succ, i64_w, i32_w]; rfl))
    refine pure_ (i := 8) (N := some 18) (v := undef) (a' := ?_) (bs 39 511) rfl rfl (by kernel_rfl) (fun _ _ _ h => h) (Or.inr ⟨by rfl, rfl⟩) ?_ ?_; rotate_left; (· (simp only [Act.put, List.setIfInBounds_toArray, List.set_cons_zero, List.set_cons_succ, i64_w, i32_w]; rfl))
    refine pure_ (i := 9) (N := some 19) (v := undef) (a' := ?_) (bs 39 1023) rfl rfl (by kernel_rfl) (fun _ _ _ h => h) (Or.inr ⟨by rfl, rfl⟩) ?_ ?_; rotate_left; (· (simp only [Act.put, List.setIfInBounds_toArray, List.set_cons_zero, List.set_cons_succ, i64_w, i32_w]; rfl))
    refine pure_ (i := 10) (N := some 20) (v := ?_) (a' := ?_) (bs 39 2047) rfl rfl (by kernel_rfl) (fun _ _ _ h => h) (Or.inl ⟨by rfl, ?_⟩) ?_ ?_; rotate_left; (· (intro w'; go_simp; with_reducible rfl)); rotate_left; (· (simp only [Act.put, List.setIfInBounds_toArray, List.set_cons_zero, List.set_cons_succ, i64_w, i32_w]; rfl))
    refine pure_ (i := 11) (N := some 21) (v := ?_) (a' := ?_) (bs 39 4095) rfl rfl (by kernel_rfl) (fun _ _ _ h => h) (Or.inl ⟨by rfl, ?_⟩) ?_ ?_; rotate_left; (· (intro w'; go_simp; with_reducible rfl)); rotate_left; (· (simp only [Act.put, List.setIfInBounds_toArray, List.set_cons_zero, List.set_cons_succ, i64_w, i32_w]; rfl))
    refine pure_ (i := 12) (N := some 22) (v := undef) (a' := ?_) (bs 39 8191) rfl rfl (by kernel_rfl) (fun _ _ _ h => h) (Or.inr ⟨by rfl, rfl⟩) ?_ ?_; rotate_left; (· (simp only [Act.put, List.setIfInBounds_toArray, List.set_cons_zero, List.set_cons_succ, i64_w, i32_w]; rfl))
    refine pure_ (i := 13) (N := some 23) (v := undef) (a' := ?_) (bs 39 16383) rfl rfl (by kernel_rfl) (fun _ _ _ h => h) (Or.inr ⟨by rfl, rfl⟩) ?_ ?_; rotate_left; (· (simp only [Act.put, List.setIfInBounds_toArray, List.set_cons_zero, List.set_cons_succ, i64_w, i32_w]; rfl))
    refine pure_ (i := 14) (N := some 24) (v := undef) (a' := ?_) (bs 39 32767) rfl rfl (by kernel_rfl) (fun _ _ _ h => h) (Or.inr ⟨by rfl, rfl⟩) ?_ ?_; rotate_left; (· (simp only [Act.put, List.setIfInBounds_toArray, List.set_cons_zero, List.set_cons_succ, i64_w, i32_w]; rfl))
    refine pure_ (i := 15) (N := some 25) (v := ?_) (a' := ?_) (bs 39 65535) rfl rfl (by kernel_rfl) (fun _ _ _ h => h) (Or.inl ⟨by rfl, ?_⟩) ?_ ?_; rotate_left; (· (intro w'; go_simp; with_reducible rfl)); rotate_left; (· (simp only [Act.put, List.setIfInBounds_toArray, List.set_cons_zero, List.set_cons_succ, i64_w, i32_w]; rfl))
    refine pure_ (i := 16) (N := some 26) (v := ?_) (a' := ?_) (bs 39 131071) rfl rfl (by kernel_rfl) (fun _ _ _ h => h) (Or.inl ⟨by rfl, ?_⟩) ?_ ?_; rotate_left; (· (intro w'; go_simp; with_reducible rfl)); rotate_left; (· (simp only [Act.put, List.setIfInBounds_toArray, List.set_cons_zero, List.set_cons_succ, i64_w, i32_w]; rfl))
    refine pure_ (i := 17) (N := some 27) (v := undef) (a' := ?_) (bs 39 262143) rfl rfl (by kernel_rfl) (fun _ _ _ h => h) (Or.inr ⟨by rfl, rfl⟩) ?_ ?_; rotate_left; (· (simp only [Act.put, List.setIfInBounds_toArray, List.set_cons_zero, List.set_cons_succ, i64_w, i32_w]; rfl))
    refine pure_ (i := 18) (N := some 28) (v := undef) (a' := ?_) (bs 39 524287) rfl rfl (by kernel_rfl) (fun _ _ _ h => h) (Or.inr ⟨by rfl, rfl⟩) ?_ ?_; rotate_left; (· (simp only [Act.put, List.setIfInBounds_toArray, List.set_cons_zero, List.set_cons_succ, i64_w, i32_w]; rfl))
    refine pure_ (i := 19) (N := some 29) (v := undef) (a' := ?_) (bs 39 1048575) rfl rfl (by kernel_rfl) (fun _ _ _ h => h) (Or.inr ⟨by rfl, rfl⟩) ?_ ?_; rotate_left; (· (simp only [Act.put, List.setIfInBounds_toArray, List.set_cons_zero, List.set_cons_succ, i64_w, i32_w]; rfl))
    refine pure_ (i := 20) (N := some 30) (v := undef) (a' := ?_) (bs 39 2097151) rfl rfl (by kernel_rfl) (fun _ _ _ h => h) (Or.inr ⟨by rfl, rfl⟩) ?_ ?_; rotate_left; (· (simp only [Act.put, List.setIfInBounds_toArray, List.set_cons_zero, List.set_cons_succ, i64_w, i32_w]; rfl))
    refine pure_ (i := 21) (N := some 31) (v := undef) (a' := ?_) (bs 39 4194303) rfl rfl (by kernel_rfl) (fun _ _ _ h => h) (Or.inr ⟨by rfl, rfl⟩) ?_ ?_; rotate_left; (· (simp only [Act.put, List.setIfInBounds_toArray, List.set_cons_zero, List.set_cons_succ, i64_w, i32_w]; rfl))
    refine pure_ (i := 22) (N := some 32) (v := undef) (a' := ?_) (bs 39 8388607) rfl rfl (by kernel_rfl) (fun _ _ _ h => h) (Or.inr ⟨by rfl, rfl⟩) ?_ ?_; rotate_left; (· (simp only [Act.put, List.setIfInBounds_toArray, List.set_cons_zero, List.set_cons_succ, i64_w, i32_w]; rfl))
    refine pure_ (i := 23) (N := some 33) (v := undef) (a' := ?_) (bs 39 16777215) rfl rfl (by kernel_rfl) (fun _ _ _ h => h) (Or.inr ⟨by rfl, rfl⟩) ?_ ?_; rotate_left; (· (simp only [Act.put, List.setIfInBounds_toArray, List.set_cons_zero, List.set_cons_succ, i64_w, i32_w]; rfl))
    refine pure_ (i := 24) (N := some 34) (v := ?_) (a' := ?_) (bs 39 33554431) rfl rfl (by kernel_rfl) (fun _ _ _ h => h) (Or.inl ⟨by rfl, ?_⟩) ?_ ?_; rotate_left; (· (intro w'; go_simp; with_reducible rfl)); rotate_left; (· (simp only [Act.put, List.setIfInBounds_toArray, List.set_cons_zero, List.set_cons_succ, i64_w, i32_w]; rfl))
    refine pure_ (i := 25) (N := some 35) (v := ?_) (a' := ?_) (bs 39 67108863) rfl rfl (by kernel_rfl) (fun _ _ _ h => h) (Or.inl ⟨by rfl, ?_⟩) ?_ ?_; rotate_left; (· (intro w'; go_simp; with_reducible rfl)); rotate_left; (· (simp only [Act.put, List.setIfInBounds_toArray, List.set_cons_zero, List.set_cons_succ, i64_w, i32_w]; rfl))
    refine pure_ (i := 26) (N := some 36) (v := undef) (a' := ?_) (bs 39 134217727) rfl rfl (by kernel_rfl) (fun _ _ _ h => h) (Or.inr ⟨by rfl, rfl⟩) ?_ ?_; rotate_left; (· (simp only [Act.put, List.setIfInBounds_toArray, List.set_cons_zero, List.set_cons_succ, i64_w, i32_w]; rfl))
    refine pure_ (i := 27) (N := some 37) (v := undef) (a' := ?_) (bs 39 268435455) rfl rfl (by kernel_rfl) (fun _ _ _ h => h) (Or.inr ⟨by rfl, rfl⟩) ?_ ?_; rotate_left; (· (simp only [Act.put, List.setIfInBounds_toArray, List.set_cons_zero, List.set_cons_succ, i64_w, i32_w]; rfl))
    refine pure_ (i := 28) (N := some 38) (v := undef) (a' := ?_) (bs 39 536870911) rfl rfl (by kernel_rfl) (fun _ _ _ h => h) (Or.inr ⟨by rfl, rfl⟩) ?_ ?_; rotate_left; (· (simp only [Act.put, List.setIfInBounds_toArray, List.set_cons_zero, List.set_cons_succ, i64_w, i32_w]; rfl))
    refine pure_ (i := 29) (N := some 39) (v := undef) (a' := ?_) (bs 39 1073741823) rfl rfl (by kernel_rfl) (fun _ _ _ h => h) (Or.inr ⟨by rfl, rfl⟩) ?_ ?_; rotate_left; (· (simp only [Act.put, List.setIfInBounds_toArray, List.set_cons_zero, List.set_cons_succ, i64_w, i32_w]; rfl))
    refine pure_ (i := 30) (N := some 40) (v := undef) (a' := ?_) (bs 39 2147483647) rfl rfl (by kernel_rfl) (fun _ _ _ h => h) (Or.inr ⟨by rfl, rfl⟩) ?_ ?_; rotate_left; (· (simp only [Act.put, List.setIfInBounds_toArray, List.set_cons_zero, List.set_cons_succ, i64_w, i32_w]; rfl))
    refine pure_ (i := 31) (N := some 41) (v := undef) (a' := ?_) (bs 39 4294967295) rfl rfl (by kernel_rfl) (fun _ _ _ h => h) (Or.inr ⟨by rfl, rfl⟩) ?_ ?_; rotate_left; (· (simp only [Act.put, List.setIfInBounds_toArray, List.set_cons_zero, List.set_cons_succ, i64_w, i32_w]; rfl))
    refine pure_ (i := 32) (N := some 42) (v := undef) (a' := ?_) (bs 39 8589934591) rfl rfl (by kernel_rfl) (fun _ _ _ h => h) (Or.inr ⟨by rfl, rfl⟩) ?_ ?_; rotate_left; (· (simp only [Act.put, List.setIfInBounds_toArray, List.set_cons_zero, List.set_cons_succ, i64_w, i32_w]; rfl))
    refine pure_ (i := 33) (N := some 43) (v := undef) (a' := ?_) (bs 39 17179869183) rfl rfl (by kernel_rfl) (fun _ _ _ h => h) (Or.inr ⟨by rfl, rfl⟩) ?_ ?_; rotate_left; (· (simp only [Act.put, List.setIfInBounds_toArray, List.set_cons_zero, List.set_cons_succ, i64_w, i32_w]; rfl))
    refine pure_ (i := 34) (N := some 44) (v := undef) (a' := ?_) (bs 39 34359738367) rfl rfl (by kernel_rfl) (fun _ _ _ h => h) (Or.inr ⟨by rfl, rfl⟩) ?_ ?_; rotate_left; (· (simp only [Act.put, List.setIfInBounds_toArray, List.set_cons_zero, List.set_cons_succ, i64_w, i32_w]; rfl))
    refine pure_ (i := 35) (N := some 45) (v := undef) (a' := ?_) (bs 39 68719476735) rfl rfl (by kernel_rfl) (fun _ _ _ h => h) (Or.inr ⟨by rfl, rfl⟩) ?_ ?_; rotate_left; (· (simp only [Act.put, List.setIfInBounds_toArray, List.set_cons_zero, List.set_cons_succ, i64_w, i32_w]; rfl))
    refine pure_ (i := 36) (N := some 46) (v := undef) (a' := ?_) (bs 39 137438953471) rfl rfl (by kernel_rfl) (fun _ _ _ h => h) (Or.inr ⟨by rfl, rfl⟩) ?_ ?_; rotate_left; (· (simp only [Act.put, List.setIfInBounds_toArray, List.set_cons_zero, List.set_cons_succ, i64_w, i32_w]; rfl))
    refine pure_ (i := 37) (N := some 47) (v := undef) (a' := ?_) (bs 39 274877906943) rfl rfl (by kernel_rfl) (fun _ _ _ h => h) (Or.inr ⟨by rfl, rfl⟩) ?_ ?_; rotate_left; (· (simp only [Act.put, List.setIfInBounds_toArray, List.set_cons_zero, List.set_cons_succ, i64_w, i32_w]; rfl))
    refine pure_ (i := 38) (N := some 48) (v := ?_) (a' := ?_) (bs 39 549755813887) rfl rfl (by kernel_rfl) (fun _ _ _ h => h) (Or.inl ⟨by rfl, ?_⟩) ?_ ?_; rotate_left; (· (intro w'; go_simp; with_reducible rfl)); rotate_left; (· (simp only [Act.put, List.setIfInBounds_toArray, List.set_cons_zero, List.set_cons_succ, i64_w, i32_w]; rfl))
    refine done_ (by kernel_rfl) ?_
    go_wp2_with fail
    go_ret2
    rw [HF.out]
    exact ⟨_, rfl, Kd.R_nil _ _ _ _ _, below_step HB0.out HC4.out⟩
  | true =>
    rw [hq] at CK
    have CK := Aside0.mk CK
    by_cases h0 : s < 0
    · have h0b : decide (s < 0) = true := decide_eq_true h0
      clear hq h0 hb
      refine start_ (n := 39) (S := fun w' => w'.cell? ⟨w.heap.size, 0, none⟩ = some (.int .u64 x.f0) ∧ w'.cell? ⟨w.heap.size, 1, none⟩ = some (.string x.f1) ∧ w'.cell? ⟨w.heap.size, 2, none⟩ = some (.bool x.f2) ∧ w'.cell? ⟨w.heap.size, 3, none⟩ = some (.int .i64 x.f3)) (ds := []) #[false, false, false, false, false, false, false, false, false, false, false, false, false, false, false, false, false, false, false, false, false, false, false, false, false, false, false, false, false, false, false, false, false, false, false, false, false, false, false] (by kernel_rfl) rfl rfl ⟨((blk_cell HK0.out 0).trans rfl), ((blk_cell HK0.out 1).trans rfl), ((blk_cell HK0.out 2).trans rfl), ((blk_cell HK0.out 3).trans rfl)⟩ (fun hHeld => ?_)
      refine pure_ (i := 0) (N := some 10) (v := ?_) (a' := ?_) (bs 39 1) rfl rfl (by kernel_rfl) (fun _ _ _ h => h) (Or.inl ⟨by rfl, ?_⟩) ?_ ?_; rotate_left; (· (intro w'; go_simp; with_reducible rfl)); rotate_left; (· (simp only [Act.put, List.setIfInBounds_toArray, List.set_cons_zero, List.set_cons_succ, i64_w, i32_w]; rfl))
      refine one_ (i := 1) (N := some 11) (bs 39 3) rfl rfl (by kernel_rfl) (by decide) (fun K hK => ?_)
      refine goes_ Try.func18 (by kernel_rfl) rfl #[.slice A l.length c] (by rfl) rfl rfl (by simp only [List.map_toArray, List.map_cons, List.map_nil]; rfl) ?_
      refine CK.out.mono ?_
      rintro e w4 ⟨rfl, hb⟩
      refine ⟨_, rfl, ?_⟩
      have HC4 := Aside0.mk (below_step (below_drew (Below.refl W0.heap.size W0)) hb)
      have HK4 := Aside0.mk ((hb.block _ (World.block_lt_of_cell? _ _ (blk_cell HK0.out 0))).trans HK0.out)
      clear hb CK
      refine hK.out _ _ ⟨((blk_cell HK4.out 0).trans rfl), ((blk_cell HK4.out 1).trans rfl), ((blk_cell HK4.out 2).trans rfl), ((blk_cell HK4.out 3).trans rfl)⟩ (fun hHeld => ?_)
      clear hK K
      refine norm_ (a' := ?_) ?_ ?_
      rotate_left
      · show Act.put _ (some 11) _ = _
        simp only [Act.put, List.setIfInBounds_toArray, List.set_cons_zero, List.set_cons_succ, i64_w, i32_w]
        rfl
      refine pure_ (i := 2) (N := some 12) (v := ?_) (a' := ?_) (bs 39 7) rfl rfl (by kernel_rfl) (fun _ _ _ h => h) (Or.inl ⟨by rfl, ?_⟩) ?_ ?_; rotate_left; (· (intro w'; go_simp; with_reducible rfl)); rotate_left; (· (simp only [Act.put, List.setIfInBounds_toArray, List.set_cons_zero, List.set_cons_succ, i64_w, i32_w]; rfl))
      refine pure_ (i := 3) (N := some 13) (v := ?_) (a' := ?_) (bs 39 15) rfl rfl (by kernel_rfl) (fun _ _ _ h => h) (Or.inl ⟨by rfl, ?_⟩) ?_ ?_; rotate_left; (· (intro w'; go_simp; with_reducible rfl)); rotate_left; (· (simp only [Act.put, List.setIfInBounds_toArray, List.set_cons_zero, List.set_cons_succ, i64_w, i32_w]; rfl))
      refine pure_ (i := 4) (N := some 14) (v := ?_) (a' := ?_) (bs 39 31) rfl rfl (by kernel_rfl) (fun _ _ _ h => h) (Or.inl ⟨by rfl, ?_⟩) ?_ ?_; rotate_left; (· (intro w'; go_simp; with_reducible rfl)); rotate_left; (· (simp only [Act.put, List.setIfInBounds_toArray, List.set_cons_zero, List.set_cons_succ, i64_w, i32_w]; rfl))
      refine pure_ (i := 5) (N := some 15) (v := ?_) (a' := ?_) (bs 39 63) rfl rfl (by kernel_rfl) (fun _ _ _ h => h) (Or.inl ⟨by rfl, ?_⟩) ?_ ?_; rotate_left; (· (intro w'; go_simp; with_reducible rfl)); rotate_left; (· (simp only [Act.put, List.setIfInBounds_toArray, List.set_cons_zero, List.set_cons_succ, i64_w, i32_w]; rfl))
      refine pure_ (i := 6) (N := some 16) (v := ?_) (a' := ?_) (bs 39 127) rfl rfl (by kernel_rfl) (fun _ _ _ h => h) (Or.inl ⟨by rfl, ?_⟩) ?_ ?_; rotate_left; (· (intro w'; go_simp; with_reducible rfl)); rotate_left; (· (simp only [Act.put, List.setIfInBounds_toArray, List.set_cons_zero, List.set_cons_succ, i64_w, i32_w]; rfl))
      refine pure_ (i := 7) (N := some 17) (v := ?_) (a' := ?_) (bs 39 255) rfl rfl (by kernel_rfl) (fun _ _ _ h => h) (Or.inl ⟨by rfl, ?_⟩) ?_ ?_; rotate_left; (· (intro w'; go_simp; with_reducible rfl)); rotate_left; (· (simp only [Act.put, List.setIfInBounds_toArray, List.set_cons_zero, List.set_cons_succ, i64_w, i32_w]; rfl))
      refine pure_ (i := 8) (N := some 18) (v := undef) (a' := ?_) (bs 39 511) rfl rfl (by kernel_rfl) (fun _ _ _ h => h) (Or.inr ⟨by rfl, rfl⟩) ?_ ?_; rotate_left; (· (simp only [Act.put, List.setIfInBounds_toArray, List.set_cons_zero, List.set_cons_succ, i64_w, i32_w]; rfl))
      refine pure_ (i := 9) (N := some 19) (v := undef) (a' := ?_) (bs 39 1023) rfl rfl (by kernel_rfl) (fun _ _ _ h => h) (Or.inr ⟨by rfl, rfl⟩) ?_ ?_; rotate_left; (· (simp only [Act.put, List.setIfInBounds_toArray, List.set_cons_zero, List.set_cons_succ, i64_w, i32_w]; rfl))
      refine pure_ (i := 10) (N := some 20) (v := ?_) (a' := ?_) (bs 39 2047) rfl rfl (by kernel_rfl) (fun _ _ _ h => h) (Or.inl ⟨by rfl, ?_⟩) ?_ ?_; rotate_left; (· (intro w'; go_simp; with_reducible rfl)); rotate_left; (· (simp only [Act.put, List.setIfInBounds_toArray, List.set_cons_zero, List.set_cons_succ, i64_w, i32_w]; rfl))
      refine pure_ (i := 11) (N := some 21) (v := ?_) (a' := ?_) (bs 39 4095) rfl rfl (by kernel_rfl) (fun _ _ _ h => h) (Or.inl ⟨by rfl, ?_⟩) ?_ ?_; rotate_left; (· (intro w'; go_simp; with_reducible rfl)); rotate_left; (· (simp only [Act.put, List.setIfInBounds_toArray, List.set_cons_zero, List.set_cons_succ, i64_w, i32_w]; rfl))
      refine pure_ (i := 12) (N := some 22) (v := undef) (a' := ?_) (bs 39 8191) rfl rfl (by kernel_rfl) (fun _ _ _ h => h) (Or.inr ⟨by rfl, rfl⟩) ?_ ?_; rotate_left; (· (simp only [Act.put, List.setIfInBounds_toArray, List.set_cons_zero, List.set_cons_succ, i64_w, i32_w]; rfl))
      refine pure_ (i := 13) (N := some 23) (v := undef) (a' := ?_) (bs 39 16383) rfl rfl (by kernel_rfl) (fun _ _ _ h => h) (Or.inr ⟨by rfl, rfl⟩) ?_ ?_; rotate_left; (· (simp only [Act.put, List.setIfInBounds_toArray, List.set_cons_zero, List.set_cons_succ, i64_w, i32_w]; rfl))
      refine pure_ (i := 14) (N := some 24) (v := undef) (a' := ?_) (bs 39 32767) rfl rfl (by kernel_rfl) (fun _ _ _ h => h) (Or.inr ⟨by rfl, rfl⟩) ?_ ?_; rotate_left; (· (simp only [Act.put, List.setIfInBounds_toArray, List.set_cons_zero, List.set_cons_succ, i64_w, i32_w]; rfl))
      refine pure_ (i := 15) (N := some 25) (v := ?_) (a' := ?_) (bs 39 65535) rfl rfl (by kernel_rfl) (fun _ _ _ h => h) (Or.inl ⟨by rfl, ?_⟩) ?_ ?_; rotate_left; (· (intro w'; go_simp; with_reducible rfl)); rotate_left; (· (simp only [Act.put, List.setIfInBounds_toArray, List.set_cons_zero, List.set_cons_succ, i64_w, i32_w]; rfl))
      refine pure_ (i := 16) (N := some 26) (v := ?_) (a' := ?_) (bs 39 131071) rfl rfl (by kernel_rfl) (fun _ _ _ h => h) (Or.inl ⟨by rfl, ?_⟩) ?_ ?_; rotate_left; (· (intro w'; go_simp; with_reducible rfl)); rotate_left; (· (simp only [Act.put, List.setIfInBounds_toArray, List.set_cons_zero, List.set_cons_succ, i64_w, i32_w]; rfl))
      refine pure_ (i := 17) (N := some 27) (v := undef) (a' := ?_) (bs 39 262143) rfl rfl (by kernel_rfl) (fun _ _ _ h => h) (Or.inr ⟨by rfl, rfl⟩) ?_ ?_; rotate_left; (· (simp only [Act.put, List.setIfInBounds_toArray, List.set_cons_zero, List.set_cons_succ, i64_w, i32_w]; rfl))
      refine pure_ (i := 18) (N := some 28) (v := undef) (a' := ?_) (bs 39 524287) rfl rfl (by kernel_rfl) (fun _ _ _ h => h) (Or.inr ⟨by rfl, rfl⟩) ?_ ?_; rotate_left; (· (simp only [Act.put, List.setIfInBounds_toArray, List.set_cons_zero, List.set_cons_succ, i64_w, i32_w]; rfl))
      refine pure_ (i := 19) (N := some 29) (v := undef) (a' := ?_) (bs 39 1048575) rfl rfl (by kernel_rfl) (fun _ _ _ h => h) (Or.inr ⟨by rfl, rfl⟩) ?_ ?_; rotate_left; (· (simp only [Act.put, List.setIfInBounds_toArray, List.set_cons_zero, List.set_cons_succ, i64_w, i32_w]; rfl))
      refine pure_ (i := 20) (N := some 30) (v := undef) (a' := ?_) (bs 39 2097151) rfl rfl (by kernel_rfl) (fun _ _ _ h => h) (Or.inr ⟨by rfl, rfl⟩) ?_ ?_; rotate_left; (· (simp only [Act.put, List.setIfInBounds_toArray, List.set_cons_zero, List.set_cons_succ, i64_w, i32_w]; rfl))
      refine pure_ (i := 21) (N := some 31) (v := undef) (a' := ?_) (bs 39 4194303) rfl rfl (by kernel_rfl) (fun _ _ _ h => h) (Or.inr ⟨by rfl, rfl⟩) ?_ ?_; rotate_left; (· (simp only [Act.put, List.setIfInBounds_toArray, List.set_cons_zero, List.set_cons_succ, i64_w, i32_w]; rfl))
      refine pure_ (i := 22) (N := some 32) (v := undef) (a' := ?_) (bs 39 8388607) rfl rfl (by kernel_rfl) (fun _ _ _ h => h) (Or.inr ⟨by rfl, rfl⟩) ?_ ?_; rotate_left; (· (simp only [Act.put, List.setIfInBounds_toArray, List.set_cons_zero, List.set_cons_succ, i64_w, i32_w]; rfl))
      refine pure_ (i := 23) (N := some 33) (v := undef) (a' := ?_) (bs 39 16777215) rfl rfl (by kernel_rfl) (fun _ _ _ h => h) (Or.inr ⟨by rfl, rfl⟩) ?_ ?_; rotate_left; (· (simp only [Act.put, List.setIfInBounds_toArray, List.set_cons_zero, List.set_cons_succ, i64_w, i32_w]; rfl))
      refine pure_ (i := 24) (N := some 34) (v := ?_) (a' := ?_) (bs 39 33554431) rfl rfl (by kernel_rfl) (fun _ _ _ h => h) (Or.inl ⟨by rfl, ?_⟩) ?_ ?_; rotate_left; (· (intro w'; go_simp; with_reducible rfl)); rotate_left; (· (simp only [Act.put, List.setIfInBounds_toArray, List.set_cons_zero, List.set_cons_succ, i64_w, i32_w]; rfl))
      refine pure_ (i := 25) (N := some 35) (v := ?_) (a' := ?_) (bs 39 67108863) rfl rfl (by kernel_rfl) (fun _ _ _ h => h) (Or.inl ⟨by rfl, ?_⟩) ?_ ?_; rotate_left; (· (intro w'; go_simp; with_reducible rfl)); rotate_left; (· (simp only [Act.put, List.setIfInBounds_toArray, List.set_cons_zero, List.set_cons_succ, i64_w, i32_w]; rfl))
      refine pure_ (i := 26) (N := some 36) (v := undef) (a' := ?_) (bs 39 134217727) rfl rfl (by kernel_rfl) (fun _ _ _ h => h) (Or.inr ⟨by rfl, rfl⟩) ?_ ?_; rotate_left; (· (simp only [Act.put, List.setIfInBounds_toArray, List.set_cons_zero, List.set_cons_succ, i64_w, i32_w]; rfl))
      refine pure_ (i := 27) (N := some 37) (v := undef) (a' := ?_) (bs 39 268435455) rfl rfl (by kernel_rfl) (fun _ _ _ h => h) (Or.inr ⟨by rfl, rfl⟩) ?_ ?_; rotate_left; (· (simp only [Act.put, List.setIfInBounds_toArray, List.set_cons_zero, List.set_cons_succ, i64_w, i32_w]; rfl))
      refine pure_ (i := 28) (N := some 38) (v := undef) (a' := ?_) (bs 39 536870911) rfl rfl (by kernel_rfl) (fun _ _ _ h => h) (Or.inr ⟨by rfl, rfl⟩) ?_ ?_; rotate_left; (· (simp only [Act.put, List.setIfInBounds_toArray, List.set_cons_zero, List.set_cons_succ, i64_w, i32_w]; rfl))
      refine pure_ (i := 29) (N := some 39) (v := undef) (a' := ?_) (bs 39 1073741823) rfl rfl (by kernel_rfl) (fun _ _ _ h => h) (Or.inr ⟨by rfl, rfl⟩) ?_ ?_; rotate_left; (· (simp only [Act.put, List.setIfInBounds_toArray, List.set_cons_zero, List.set_cons_succ, i64_w, i32_w]; rfl))
      refine pure_ (i := 30) (N := some 40) (v := undef) (a' := ?_) (bs 39 2147483647) rfl rfl (by kernel_rfl) (fun _ _ _ h => h) (Or.inr ⟨by rfl, rfl⟩) ?_ ?_; rotate_left; (· (simp only [Act.put, List.setIfInBounds_toArray, List.set_cons_zero, List.set_cons_succ, i64_w, i32_w]; rfl))
      refine pure_ (i := 31) (N := some 41) (v := undef) (a' := ?_) (bs 39 4294967295) rfl rfl (by kernel_rfl) (fun _ _ _ h => h) (Or.inr ⟨by rfl, rfl⟩) ?_ ?_; rotate_left; (· (simp only [Act.put, List.setIfInBounds_toArray, List.set_cons_zero, List.set_cons_succ, i64_w, i32_w]; rfl))
      refine pure_ (i := 32) (N := some 42) (v := undef) (a' := ?_) (bs 39 8589934591) rfl rfl (by kernel_rfl) (fun _ _ _ h => h) (Or.inr ⟨by rfl, rfl⟩) ?_ ?_; rotate_left; (· (simp only [Act.put, List.setIfInBounds_toArray, List.set_cons_zero, List.set_cons_succ, i64_w, i32_w]; rfl))
      refine pure_ (i := 33) (N := some 43) (v := undef) (a' := ?_) (bs 39 17179869183) rfl rfl (by kernel_rfl) (fun _ _ _ h => h) (Or.inr ⟨by rfl, rfl⟩) ?_ ?_; rotate_left; (· (simp only [Act.put, List.setIfInBounds_toArray, List.set_cons_zero, List.set_cons_succ, i64_w, i32_w]; rfl))
      refine pure_ (i := 34) (N := some 44) (v := undef) (a' := ?_) (bs 39 34359738367) rfl rfl (by kernel_rfl) (fun _ _ _ h => h) (Or.inr ⟨by rfl, rfl⟩) ?_ ?_; rotate_left; (· (simp only [Act.put, List.setIfInBounds_toArray, List.set_cons_zero, List.set_cons_succ, i64_w, i32_w]; rfl))
      refine pure_ (i := 35) (N := some 45) (v := undef) (a' := ?_) (bs 39 68719476735) rfl rfl (by kernel_rfl) (fun _ _ _ h => h) (Or.inr ⟨by rfl, rfl⟩) ?_ ?_; rotate_left; (· (simp only [Act.put, List.setIfInBounds_toArray, List.set_cons_zero, List.set_cons_succ, i64_w, i32_w]; rfl))
      refine pure_ (i := 36) (N := some 46) (v := undef) (a' := ?_) (bs 39 137438953471) rfl rfl (by kernel_rfl) (fun _ _ _ h => h) (Or.inr ⟨by rfl, rfl⟩) ?_ ?_; rotate_left; (· (simp only [Act.put, List.setIfInBounds_toArray, List.set_cons_zero, List.set_cons_succ, i64_w, i32_w]; rfl))
      refine pure_ (i := 37) (N := some 47) (v := undef) (a' := ?_) (bs 39 274877906943) rfl rfl (by kernel_rfl) (fun _ _ _ h => h) (Or.inr ⟨by rfl, rfl⟩) ?_ ?_; rotate_left; (· (simp only [Act.put, List.setIfInBounds_toArray, List.set_cons_zero, List.set_cons_succ, i64_w, i32_w]; rfl))
      refine pure_ (i := 38) (N := some 48) (v := ?_) (a' := ?_) (bs 39 549755813887) rfl rfl (by kernel_rfl) (fun _ _ _ h => h) (Or.inl ⟨by rfl, ?_⟩) ?_ ?_; rotate_left; (· (intro w'; go_simp; with_reducible rfl)); rotate_left; (· (simp only [Act.put, List.setIfInBounds_toArray, List.set_cons_zero, List.set_cons_succ, i64_w, i32_w]; rfl))
      refine done_ (by kernel_rfl) ?_
      go_wp2_with fail
      go_ret2
      rw [HF.out]
      exact ⟨_, rfl, Kd.R_nil _ _ _ _ _, below_step HB0.out HC4.out⟩
    · have h0b : decide (s < 0) = false := decide_eq_false h0
      by_cases h2 : s > 2
      · have h2b : decide (2 < s) = true := decide_eq_true h2
        have h2c : decide (s > 2) = true := decide_eq_true h2
        clear hq h0 h2 hb
        refine start_ (n := 39) (S := fun w' => w'.cell? ⟨w.heap.size, 0, none⟩ = some (.int .u64 x.f0) ∧ w'.cell? ⟨w.heap.size, 1, none⟩ = some (.string x.f1) ∧ w'.cell? ⟨w.heap.size, 2, none⟩ = some (.bool x.f2) ∧ w'.cell? ⟨w.heap.size, 3, none⟩ = some (.int .i64 x.f3)) (ds := []) #[false, false, false, false, false, false, false, false, false, false, false, false, false, false, false, false, false, false, false, false, false, false, false, false, false, false, false, false, false, false, false, false, false, false, false, false, false, false, false] (by kernel_rfl) rfl rfl ⟨((blk_cell HK0.out 0).trans rfl), ((blk_cell HK0.out 1).trans rfl), ((blk_cell HK0.out 2).trans rfl), ((blk_cell HK0.out 3).trans rfl)⟩ (fun hHeld => ?_)
        refine pure_ (i := 0) (N := some 10) (v := ?_) (a' := ?_) (bs 39 1) rfl rfl (by kernel_rfl) (fun _ _ _ h => h) (Or.inl ⟨by rfl, ?_⟩) ?_ ?_; rotate_left; (· (intro w'; go_simp; with_reducible rfl)); rotate_left; (· (simp only [Act.put, List.setIfInBounds_toArray, List.set_cons_zero, List.set_cons_succ, i64_w, i32_w]; rfl))
        refine one_ (i := 1) (N := some 11) (bs 39 3) rfl rfl (by kernel_rfl) (by decide) (fun K hK => ?_)
        refine goes_ Try.func18 (by kernel_rfl) rfl #[.slice A l.length c] (by rfl) rfl rfl (by simp only [List.map_toArray, List.map_cons, List.map_nil]; rfl) ?_
        refine CK.out.mono ?_
        rintro e w4 ⟨rfl, hb⟩
        refine ⟨_, rfl, ?_⟩
        have HC4 := Aside0.mk (below_step (below_drew (Below.refl W0.heap.size W0)) hb)
        have HK4 := Aside0.mk ((hb.block _ (World.block_lt_of_cell? _ _ (blk_cell HK0.out 0))).trans HK0.out)
        clear hb CK
        refine hK.out _ _ ⟨((blk_cell HK4.out 0).trans rfl), ((blk_cell HK4.out 1).trans rfl), ((blk_cell HK4.out 2).trans rfl), ((blk_cell HK4.out 3).trans rfl)⟩ (fun hHeld => ?_)
        clear hK K
        refine norm_ (a' := ?_) ?_ ?_
        rotate_left
        · show Act.put _ (some 11) _ = _
          simp only [Act.put, List.setIfInBounds_toArray, List.set_cons_zero, List.set_cons_succ, i64_w, i32_w]
          rfl
        refine pure_ (i := 2) (N := some 12) (v := ?_) (a' := ?_) (bs 39 7) rfl rfl (by kernel_rfl) (fun _ _ _ h => h) (Or.inl ⟨by rfl, ?_⟩) ?_ ?_; rotate_left; (· (intro w'; go_simp; with_reducible rfl)); rotate_left; (· (simp only [Act.put, List.setIfInBounds_toArray, List.set_cons_zero, List.set_cons_succ, i64_w, i32_w]; rfl))
        refine pure_ (i := 3) (N := some 13) (v := ?_) (a' := ?_) (bs 39 15) rfl rfl (by kernel_rfl) (fun _ _ _ h => h) (Or.inl ⟨by rfl, ?_⟩) ?_ ?_; rotate_left; (· (intro w'; go_simp; with_reducible rfl)); rotate_left; (· (simp only [Act.put, List.setIfInBounds_toArray, List.set_cons_zero, List.set_cons_succ, i64_w, i32_w]; rfl))
        refine pure_ (i := 4) (N := some 14) (v := ?_) (a' := ?_) (bs 39 31) rfl rfl (by kernel_rfl) (fun _ _ _ h => h) (Or.inl ⟨by rfl, ?_⟩) ?_ ?_; rotate_left; (· (intro w'; go_simp; with_reducible rfl)); rotate_left; (· (simp only [Act.put, List.setIfInBounds_toArray, List.set_cons_zero, List.set_cons_succ, i64_w, i32_w]; rfl))
        refine pure_ (i := 5) (N := some 15) (v := ?_) (a' := ?_) (bs 39 63) rfl rfl (by kernel_rfl) (fun _ _ _ h => h) (Or.inl ⟨by rfl, ?_⟩) ?_ ?_; rotate_left; (· (intro w'; go_simp; with_reducible rfl)); rotate_left; (· (simp only [Act.put, List.setIfInBounds_toArray, List.set_cons_zero, List.set_cons_succ, i64_w, i32_w]; rfl))
        refine pure_ (i := 6) (N := some 16) (v := ?_) (a' := ?_) (bs 39 127) rfl rfl (by kernel_rfl) (fun _ _ _ h => h) (Or.inl ⟨by rfl, ?_⟩) ?_ ?_; rotate_left; (· (intro w'; go_simp; with_reducible rfl)); rotate_left; (· (simp only [Act.put, List.setIfInBounds_toArray, List.set_cons_zero, List.set_cons_succ, i64_w, i32_w]; rfl))
        refine pure_ (i := 7) (N := some 17) (v := ?_) (a' := ?_) (bs 39 255) rfl rfl (by kernel_rfl) (fun _ _ _ h => h) (Or.inl ⟨by rfl, ?_⟩) ?_ ?_; rotate_left; (· (intro w'; go_simp; with_reducible rfl)); rotate_left; (· (simp only [Act.put, List.setIfInBounds_toArray, List.set_cons_zero, List.set_cons_succ, i64_w, i32_w]; rfl))
        refine pure_ (i := 8) (N := some 18) (v := ?_) (a' := ?_) (bs 39 511) rfl rfl (by kernel_rfl) (fun _ _ _ h => h) (Or.inl ⟨by rfl, ?_⟩) ?_ ?_; rotate_left; (· (intro w'; go_simp; with_reducible rfl)); rotate_left; (· (simp only [Act.put, List.setIfInBounds_toArray, List.set_cons_zero, List.set_cons_succ, i64_w, i32_w]; rfl))
        refine pure_ (i := 9) (N := some 19) (v := ?_) (a' := ?_) (bs 39 1023) rfl rfl (by kernel_rfl) (fun _ _ _ h => h) (Or.inl ⟨by rfl, ?_⟩) ?_ ?_; rotate_left; (· (intro w'; go_simp; with_reducible rfl)); rotate_left; (· (simp only [Act.put, List.setIfInBounds_toArray, List.set_cons_zero, List.set_cons_succ, i64_w, i32_w]; rfl))
        refine pure_ (i := 10) (N := some 20) (v := ?_) (a' := ?_) (bs 39 2047) rfl rfl (by kernel_rfl) (fun _ _ _ h => h) (Or.inl ⟨by rfl, ?_⟩) ?_ ?_; rotate_left; (· (intro w'; go_simp; with_reducible rfl)); rotate_left; (· (simp only [Act.put, List.setIfInBounds_toArray, List.set_cons_zero, List.set_cons_succ, i64_w, i32_w]; rfl))
        refine pure_ (i := 11) (N := some 21) (v := ?_) (a' := ?_) (bs 39 4095) rfl rfl (by kernel_rfl) (fun _ _ _ h => h) (Or.inl ⟨by rfl, ?_⟩) ?_ ?_; rotate_left; (· (intro w'; go_simp; with_reducible rfl)); rotate_left; (· (simp only [Act.put, List.setIfInBounds_toArray, List.set_cons_zero, List.set_cons_succ, i64_w, i32_w]; rfl))
        refine pure_ (i := 12) (N := some 22) (v := undef) (a' := ?_) (bs 39 8191) rfl rfl (by kernel_rfl) (fun _ _ _ h => h) (Or.inr ⟨by rfl, rfl⟩) ?_ ?_; rotate_left; (· (simp only [Act.put, List.setIfInBounds_toArray, List.set_cons_zero, List.set_cons_succ, i64_w, i32_w]; rfl))
        refine pure_ (i := 13) (N := some 23) (v := undef) (a' := ?_) (bs 39 16383) rfl rfl (by kernel_rfl) (fun _ _ _ h => h) (Or.inr ⟨by rfl, rfl⟩) ?_ ?_; rotate_left; (· (simp only [Act.put, List.setIfInBounds_toArray, List.set_cons_zero, List.set_cons_succ, i64_w, i32_w]; rfl))
        refine pure_ (i := 14) (N := some 24) (v := undef) (a' := ?_) (bs 39 32767) rfl rfl (by kernel_rfl) (fun _ _ _ h => h) (Or.inr ⟨by rfl, rfl⟩) ?_ ?_; rotate_left; (· (simp only [Act.put, List.setIfInBounds_toArray, List.set_cons_zero, List.set_cons_succ, i64_w, i32_w]; rfl))
        refine pure_ (i := 15) (N := some 25) (v := ?_) (a' := ?_) (bs 39 65535) rfl rfl (by kernel_rfl) (fun _ _ _ h => h) (Or.inl ⟨by rfl, ?_⟩) ?_ ?_; rotate_left; (· (intro w'; go_simp; with_reducible rfl)); rotate_left; (· (simp only [Act.put, List.setIfInBounds_toArray, List.set_cons_zero, List.set_cons_succ, i64_w, i32_w]; rfl))
        refine pure_ (i := 16) (N := some 26) (v := ?_) (a' := ?_) (bs 39 131071) rfl rfl (by kernel_rfl) (fun _ _ _ h => h) (Or.inl ⟨by rfl, ?_⟩) ?_ ?_; rotate_left; (· (intro w'; go_simp; with_reducible rfl)); rotate_left; (· (simp only [Act.put, List.setIfInBounds_toArray, List.set_cons_zero, List.set_cons_succ, i64_w, i32_w]; rfl))
        refine pure_ (i := 17) (N := some 27) (v := undef) (a' := ?_) (bs 39 262143) rfl rfl (by kernel_rfl) (fun _ _ _ h => h) (Or.inr ⟨by rfl, rfl⟩) ?_ ?_; rotate_left; (· (simp only [Act.put, List.setIfInBounds_toArray, List.set_cons_zero, List.set_cons_succ, i64_w, i32_w]; rfl))
        refine pure_ (i := 18) (N := some 28) (v := undef) (a' := ?_) (bs 39 524287) rfl rfl (by kernel_rfl) (fun _ _ _ h => h) (Or.inr ⟨by rfl, rfl⟩) ?_ ?_; rotate_left; (· (simp only [Act.put, List.setIfInBounds_toArray, List.set_cons_zero, List.set_cons_succ, i64_w, i32_w]; rfl))
        refine pure_ (i := 19) (N := some 29) (v := undef) (a' := ?_) (bs 39 1048575) rfl rfl (by kernel_rfl) (fun _ _ _ h => h) (Or.inr ⟨by rfl, rfl⟩) ?_ ?_; rotate_left; (· (simp only [Act.put, List.setIfInBounds_toArray, List.set_cons_zero, List.set_cons_succ, i64_w, i32_w]; rfl))
        refine pure_ (i := 20) (N := some 30) (v := undef) (a' := ?_) (bs 39 2097151) rfl rfl (by kernel_rfl) (fun _ _ _ h => h) (Or.inr ⟨by rfl, rfl⟩) ?_ ?_; rotate_left; (· (simp only [Act.put, List.setIfInBounds_toArray, List.set_cons_zero, List.set_cons_succ, i64_w, i32_w]; rfl))
        refine pure_ (i := 21) (N := some 31) (v := undef) (a' := ?_) (bs 39 4194303) rfl rfl (by kernel_rfl) (fun _ _ _ h => h) (Or.inr ⟨by rfl, rfl⟩) ?_ ?_; rotate_left; (· (simp only [Act.put, List.setIfInBounds_toArray, List.set_cons_zero, List.set_cons_succ, i64_w, i32_w]; rfl))
        refine pure_ (i := 22) (N := some 32) (v := undef) (a' := ?_) (bs 39 8388607) rfl rfl (by kernel_rfl) (fun _ _ _ h => h) (Or.inr ⟨by rfl, rfl⟩) ?_ ?_; rotate_left; (· (simp only [Act.put, List.setIfInBounds_toArray, List.set_cons_zero, List.set_cons_succ, i64_w, i32_w]; rfl))
        refine pure_ (i := 23) (N := some 33) (v := undef) (a' := ?_) (bs 39 16777215) rfl rfl (by kernel_rfl) (fun _ _ _ h => h) (Or.inr ⟨by rfl, rfl⟩) ?_ ?_; rotate_left; (· (simp only [Act.put, List.setIfInBounds_toArray, List.set_cons_zero, List.set_cons_succ, i64_w, i32_w]; rfl))
        refine pure_ (i := 24) (N := some 34) (v := ?_) (a' := ?_) (bs 39 33554431) rfl rfl (by kernel_rfl) (fun _ _ _ h => h) (Or.inl ⟨by rfl, ?_⟩) ?_ ?_; rotate_left; (· (intro w'; go_simp; with_reducible rfl)); rotate_left; (· (simp only [Act.put, List.setIfInBounds_toArray, List.set_cons_zero, List.set_cons_succ, i64_w, i32_w]; rfl))
        refine pure_ (i := 25) (N := some 35) (v := ?_) (a' := ?_) (bs 39 67108863) rfl rfl (by kernel_rfl) (fun _ _ _ h => h) (Or.inl ⟨by rfl, ?_⟩) ?_ ?_; rotate_left; (· (intro w'; go_simp; with_reducible rfl)); rotate_left; (· (simp only [Act.put, List.setIfInBounds_toArray, List.set_cons_zero, List.set_cons_succ, i64_w, i32_w]; rfl))
        refine pure_ (i := 26) (N := some 36) (v := undef) (a' := ?_) (bs 39 134217727) rfl rfl (by kernel_rfl) (fun _ _ _ h => h) (Or.inr ⟨by rfl, rfl⟩) ?_ ?_; rotate_left; (· (simp only [Act.put, List.setIfInBounds_toArray, List.set_cons_zero, List.set_cons_succ, i64_w, i32_w]; rfl))
        refine pure_ (i := 27) (N := some 37) (v := undef) (a' := ?_) (bs 39 268435455) rfl rfl (by kernel_rfl) (fun _ _ _ h => h) (Or.inr ⟨by rfl, rfl⟩) ?_ ?_; rotate_left; (· (simp only [Act.put, List.setIfInBounds_toArray, List.set_cons_zero, List.set_cons_succ, i64_w, i32_w]; rfl))
        refine pure_ (i := 28) (N := some 38) (v := undef) (a' := ?_) (bs 39 536870911) rfl rfl (by kernel_rfl) (fun _ _ _ h => h) (Or.inr ⟨by rfl, rfl⟩) ?_ ?_; rotate_left; (· (simp only [Act.put, List.setIfInBounds_toArray, List.set_cons_zero, List.set_cons_succ, i64_w, i32_w]; rfl))
        refine pure_ (i := 29) (N := some 39) (v := undef) (a' := ?_) (bs 39 1073741823) rfl rfl (by kernel_rfl) (fun _ _ _ h => h) (Or.inr ⟨by rfl, rfl⟩) ?_ ?_; rotate_left; (· (simp only [Act.put, List.setIfInBounds_toArray, List.set_cons_zero, List.set_cons_succ, i64_w, i32_w]; rfl))
        refine pure_ (i := 30) (N := some 40) (v := undef) (a' := ?_) (bs 39 2147483647) rfl rfl (by kernel_rfl) (fun _ _ _ h => h) (Or.inr ⟨by rfl, rfl⟩) ?_ ?_; rotate_left; (· (simp only [Act.put, List.setIfInBounds_toArray, List.set_cons_zero, List.set_cons_succ, i64_w, i32_w]; rfl))
        refine pure_ (i := 31) (N := some 41) (v := undef) (a' := ?_) (bs 39 4294967295) rfl rfl (by kernel_rfl) (fun _ _ _ h => h) (Or.inr ⟨by rfl, rfl⟩) ?_ ?_; rotate_left; (· (simp only [Act.put, List.setIfInBounds_toArray, List.set_cons_zero, List.set_cons_succ, i64_w, i32_w]; rfl))
        refine pure_ (i := 32) (N := some 42) (v := undef) (a' := ?_) (bs 39 8589934591) rfl rfl (by kernel_rfl) (fun _ _ _ h => h) (Or.inr ⟨by rfl, rfl⟩) ?_ ?_; rotate_left; (· (simp only [Act.put, List.setIfInBounds_toArray, List.set_cons_zero, List.set_cons_succ, i64_w, i32_w]; rfl))
        refine pure_ (i := 33) (N := some 43) (v := undef) (a' := ?_) (bs 39 17179869183) rfl rfl (by kernel_rfl) (fun _ _ _ h => h) (Or.inr ⟨by rfl, rfl⟩) ?_ ?_; rotate_left; (· (simp only [Act.put, List.setIfInBounds_toArray, List.set_cons_zero, List.set_cons_succ, i64_w, i32_w]; rfl))
        refine pure_ (i := 34) (N := some 44) (v := undef) (a' := ?_) (bs 39 34359738367) rfl rfl (by kernel_rfl) (fun _ _ _ h => h) (Or.inr ⟨by rfl, rfl⟩) ?_ ?_; rotate_left; (· (simp only [Act.put, List.setIfInBounds_toArray, List.set_cons_zero, List.set_cons_succ, i64_w, i32_w]; rfl))
        refine pure_ (i := 35) (N := some 45) (v := undef) (a' := ?_) (bs 39 68719476735) rfl rfl (by kernel_rfl) (fun _ _ _ h => h) (Or.inr ⟨by rfl, rfl⟩) ?_ ?_; rotate_left; (· (simp only [Act.put, List.setIfInBounds_toArray, List.set_cons_zero, List.set_cons_succ, i64_w, i32_w]; rfl))
        refine pure_ (i := 36) (N := some 46) (v := undef) (a' := ?_) (bs 39 137438953471) rfl rfl (by kernel_rfl) (fun _ _ _ h => h) (Or.inr ⟨by rfl, rfl⟩) ?_ ?_; rotate_left; (· (simp only [Act.put, List.setIfInBounds_toArray, List.set_cons_zero, List.set_cons_succ, i64_w, i32_w]; rfl))
        refine pure_ (i := 37) (N := some 47) (v := undef) (a' := ?_) (bs 39 274877906943) rfl rfl (by kernel_rfl) (fun _ _ _ h => h) (Or.inr ⟨by rfl, rfl⟩) ?_ ?_; rotate_left; (· (simp only [Act.put, List.setIfInBounds_toArray, List.set_cons_zero, List.set_cons_succ, i64_w, i32_w]; rfl))
        refine pure_ (i := 38) (N := some 48) (v := ?_) (a' := ?_) (bs 39 549755813887) rfl rfl (by kernel_rfl) (fun _ _ _ h => h) (Or.inl ⟨by rfl, ?_⟩) ?_ ?_; rotate_left; (· (intro w'; go_simp; with_reducible rfl)); rotate_left; (· (simp only [Act.put, List.setIfInBounds_toArray, List.set_cons_zero, List.set_cons_succ, i64_w, i32_w]; rfl))
        refine done_ (by kernel_rfl) ?_
        go_wp2_with fail
        go_ret2
        rw [HF.out]
        exact ⟨_, rfl, Kd.R_nil _ _ _ _ _, below_step HB0.out HC4.out⟩
      · have h2b : decide (2 < s) = false := decide_eq_false h2
        have h2c : decide (s > 2) = false := decide_eq_false h2
        cases hm : mayB x with
        | false =>
          have HM : Aside0 (cellarerref05_May.f x.f0 x.f1 x.f2 x.f3 = some false) := ⟨by rw [may_is, hm]⟩
          clear hq h0 h2 hm hb
          refine start_ (n := 39) (S := fun w' => w'.cell? ⟨w.heap.size, 0, none⟩ = some (.int .u64 x.f0) ∧ w'.cell? ⟨w.heap.size, 1, none⟩ = some (.string x.f1) ∧ w'.cell? ⟨w.heap.size, 2, none⟩ = some (.bool x.f2) ∧ w'.cell? ⟨w.heap.size, 3, none⟩ = some (.int .i64 x.f3)) (ds := []) #[false, false, false, false, false, false, false, false, false, false, false, false, false, false, false, false, false, false, false, false, false, false, false, false, false, false, false, false, false, false, false, false, false, false, false, false, false, false, false] (by kernel_rfl) rfl rfl ⟨((blk_cell HK0.out 0).trans rfl), ((blk_cell HK0.out 1).trans rfl), ((blk_cell HK0.out 2).trans rfl), ((blk_cell HK0.out 3).trans rfl)⟩ (fun hHeld => ?_)
          refine pure_ (i := 0) (N := some 10) (v := ?_) (a' := ?_) (bs 39 1) rfl rfl (by kernel_rfl) (fun _ _ _ h => h) (Or.inl ⟨by rfl, ?_⟩) ?_ ?_; rotate_left; (· (intro w'; go_simp; with_reducible rfl)); rotate_left; (· (simp only [Act.put, List.setIfInBounds_toArray, List.set_cons_zero, List.set_cons_succ, i64_w, i32_w]; rfl))
          refine one_ (i := 1) (N := some 11) (bs 39 3) rfl rfl (by kernel_rfl) (by decide) (fun K hK => ?_)
          refine goes_ Try.func18 (by kernel_rfl) rfl #[.slice A l.length c] (by rfl) rfl rfl (by simp only [List.map_toArray, List.map_cons, List.map_nil]; rfl) ?_
          refine CK.out.mono ?_
          rintro e w4 ⟨rfl, hb⟩
          refine ⟨_, rfl, ?_⟩
          have HC4 := Aside0.mk (below_step (below_drew (Below.refl W0.heap.size W0)) hb)
          have HK4 := Aside0.mk ((hb.block _ (World.block_lt_of_cell? _ _ (blk_cell HK0.out 0))).trans HK0.out)
          clear hb CK
          refine hK.out _ _ ⟨((blk_cell HK4.out 0).trans rfl), ((blk_cell HK4.out 1).trans rfl), ((blk_cell HK4.out 2).trans rfl), ((blk_cell HK4.out 3).trans rfl)⟩ (fun hHeld => ?_)
          clear hK K
          refine norm_ (a' := ?_) ?_ ?_
          rotate_left
          · show Act.put _ (some 11) _ = _
            simp only [Act.put, List.setIfInBounds_toArray, List.set_cons_zero, List.set_cons_succ, i64_w, i32_w]
            rfl
          refine pure_ (i := 2) (N := some 12) (v := ?_) (a' := ?_) (bs 39 7) rfl rfl (by kernel_rfl) (fun _ _ _ h => h) (Or.inl ⟨by rfl, ?_⟩) ?_ ?_; rotate_left; (· (intro w'; go_simp; with_reducible rfl)); rotate_left; (· (simp only [Act.put, List.setIfInBounds_toArray, List.set_cons_zero, List.set_cons_succ, i64_w, i32_w]; rfl))
          refine pure_ (i := 3) (N := some 13) (v := ?_) (a' := ?_) (bs 39 15) rfl rfl (by kernel_rfl) (fun _ _ _ h => h) (Or.inl ⟨by rfl, ?_⟩) ?_ ?_; rotate_left; (· (intro w'; go_simp; with_reducible rfl)); rotate_left; (· (simp only [Act.put, List.setIfInBounds_toArray, List.set_cons_zero, List.set_cons_succ, i64_w, i32_w]; rfl))
          refine pure_ (i := 4) (N := some 14) (v := ?_) (a' := ?_) (bs 39 31) rfl rfl (by kernel_rfl) (fun _ _ _ h => h) (Or.inl ⟨by rfl, ?_⟩) ?_ ?_; rotate_left; (· (intro w'; go_simp; with_reducible rfl)); rotate_left; (· (simp only [Act.put, List.setIfInBounds_toArray, List.set_cons_zero, List.set_cons_succ, i64_w, i32_w]; rfl))
          refine pure_ (i := 5) (N := some 15) (v := ?_) (a' := ?_) (bs 39 63) rfl rfl (by kernel_rfl) (fun _ _ _ h => h) (Or.inl ⟨by rfl, ?_⟩) ?_ ?_; rotate_left; (· (intro w'; go_simp; with_reducible rfl)); rotate_left; (· (simp only [Act.put, List.setIfInBounds_toArray, List.set_cons_zero, List.set_cons_succ, i64_w, i32_w]; rfl))
          refine pure_ (i := 6) (N := some 16) (v := ?_) (a' := ?_) (bs 39 127) rfl rfl (by kernel_rfl) (fun _ _ _ h => h) (Or.inl ⟨by rfl, ?_⟩) ?_ ?_; rotate_left; (· (intro w'; go_simp; with_reducible rfl)); rotate_left; (· (simp only [Act.put, List.setIfInBounds_toArray, List.set_cons_zero, List.set_cons_succ, i64_w, i32_w]; rfl))
          refine pure_ (i := 7) (N := some 17) (v := ?_) (a' := ?_) (bs 39 255) rfl rfl (by kernel_rfl) (fun _ _ _ h => h) (Or.inl ⟨by rfl, ?_⟩) ?_ ?_; rotate_left; (· (intro w'; go_simp; with_reducible rfl)); rotate_left; (· (simp only [Act.put, List.setIfInBounds_toArray, List.set_cons_zero, List.set_cons_succ, i64_w, i32_w]; rfl))
          refine pure_ (i := 8) (N := some 18) (v := ?_) (a' := ?_) (bs 39 511) rfl rfl (by kernel_rfl) (fun _ _ _ h => h) (Or.inl ⟨by rfl, ?_⟩) ?_ ?_; rotate_left; (· (intro w'; go_simp; with_reducible rfl)); rotate_left; (· (simp only [Act.put, List.setIfInBounds_toArray, List.set_cons_zero, List.set_cons_succ, i64_w, i32_w]; rfl))
          refine pure_ (i := 9) (N := some 19) (v := ?_) (a' := ?_) (bs 39 1023) rfl rfl (by kernel_rfl) (fun _ _ _ h => h) (Or.inl ⟨by rfl, ?_⟩) ?_ ?_; rotate_left; (· (intro w'; go_simp; with_reducible rfl)); rotate_left; (· (simp only [Act.put, List.setIfInBounds_toArray, List.set_cons_zero, List.set_cons_succ, i64_w, i32_w]; rfl))
          refine pure_ (i := 10) (N := some 20) (v := ?_) (a' := ?_) (bs 39 2047) rfl rfl (by kernel_rfl) (fun _ _ _ h => h) (Or.inl ⟨by rfl, ?_⟩) ?_ ?_; rotate_left; (· (intro w'; go_simp; with_reducible rfl)); rotate_left; (· (simp only [Act.put, List.setIfInBounds_toArray, List.set_cons_zero, List.set_cons_succ, i64_w, i32_w]; rfl))
          refine pure_ (i := 11) (N := some 21) (v := ?_) (a' := ?_) (bs 39 4095) rfl rfl (by kernel_rfl) (fun _ _ _ h => h) (Or.inl ⟨by rfl, ?_⟩) ?_ ?_; rotate_left; (· (intro w'; go_simp; with_reducible rfl)); rotate_left; (· (simp only [Act.put, List.setIfInBounds_toArray, List.set_cons_zero, List.set_cons_succ, i64_w, i32_w]; rfl))
          refine take_ (i := 12) (N := some 22) (v := ?_) (a' := ?_) (bs 39 8191) rfl rfl (by kernel_rfl) (fun _ _ _ h => h) (Or.inl ⟨by rfl, ?_⟩) hHeld ?_ ?_; rotate_left; (· (rintro w' ⟨s0, s1, s2, s3⟩; go_simp; with_reducible rfl)); rotate_left; (· (simp only [Act.put, List.setIfInBounds_toArray, List.set_cons_zero, List.set_cons_succ, i64_w, i32_w]; rfl))
          refine one_ (i := 13) (N := some 23) (bs 39 16383) rfl rfl (by kernel_rfl) (by decide) (fun K hK => ?_)
          refine goes_ Try.func29 (by kernel_rfl) rfl #[.agg #[.int .u64 x.f0, .string x.f1, .bool x.f2, .int .i64 x.f3]] (by rfl) rfl rfl (by simp only [List.map_toArray, List.map_cons, List.map_nil]; rfl) ?_
          with_reducible refine (cellarerref05_May.calls x.f0 x.f1 x.f2 x.f3 _ w4 HM.out).mono ?_
          rintro e w5 ⟨rfl, hb⟩
          refine ⟨_, rfl, ?_⟩
          have HK5 := Aside0.mk ((hb.block _ (World.block_lt_of_cell? _ _ (blk_cell HK4.out 0))).trans HK4.out)
          have HC5 := Aside0.mk (below_step HC4.out hb)
          clear hb
          refine hK.out _ _ ⟨((blk_cell HK5.out 0).trans rfl), ((blk_cell HK5.out 1).trans rfl), ((blk_cell HK5.out 2).trans rfl), ((blk_cell HK5.out 3).trans rfl)⟩ (fun hHeld => ?_)
          clear hK K
          refine norm_ (a' := ?_) ?_ ?_
          rotate_left
          · show Act.put _ (some 23) _ = _
            simp only [Act.put, List.setIfInBounds_toArray, List.set_cons_zero, List.set_cons_succ, i64_w, i32_w]
            rfl
          refine pure_ (i := 14) (N := some 24) (v := ?_) (a' := ?_) (bs 39 32767) rfl rfl (by kernel_rfl) (fun _ _ _ h => h) (Or.inl ⟨by rfl, ?_⟩) ?_ ?_; rotate_left; (· (intro w'; go_simp; with_reducible rfl)); rotate_left; (· (simp only [Act.put, List.setIfInBounds_toArray, List.set_cons_zero, List.set_cons_succ, i64_w, i32_w]; rfl))
          refine pure_ (i := 15) (N := some 25) (v := ?_) (a' := ?_) (bs 39 65535) rfl rfl (by kernel_rfl) (fun _ _ _ h => h) (Or.inl ⟨by rfl, ?_⟩) ?_ ?_; rotate_left; (· (intro w'; go_simp; with_reducible rfl)); rotate_left; (· (simp only [Act.put, List.setIfInBounds_toArray, List.set_cons_zero, List.set_cons_succ, i64_w, i32_w]; rfl))
          refine pure_ (i := 16) (N := some 26) (v := ?_) (a' := ?_) (bs 39 131071) rfl rfl (by kernel_rfl) (fun _ _ _ h => h) (Or.inl ⟨by rfl, ?_⟩) ?_ ?_; rotate_left; (· (intro w'; go_simp; with_reducible rfl)); rotate_left; (· (simp only [Act.put, List.setIfInBounds_toArray, List.set_cons_zero, List.set_cons_succ, i64_w, i32_w]; rfl))
          refine pure_ (i := 17) (N := some 27) (v := undef) (a' := ?_) (bs 39 262143) rfl rfl (by kernel_rfl) (fun _ _ _ h => h) (Or.inr ⟨by rfl, rfl⟩) ?_ ?_; rotate_left; (· (simp only [Act.put, List.setIfInBounds_toArray, List.set_cons_zero, List.set_cons_succ, i64_w, i32_w]; rfl))
          refine pure_ (i := 18) (N := some 28) (v := undef) (a' := ?_) (bs 39 524287) rfl rfl (by kernel_rfl) (fun _ _ _ h => h) (Or.inr ⟨by rfl, rfl⟩) ?_ ?_; rotate_left; (· (simp only [Act.put, List.setIfInBounds_toArray, List.set_cons_zero, List.set_cons_succ, i64_w, i32_w]; rfl))
          refine pure_ (i := 19) (N := some 29) (v := undef) (a' := ?_) (bs 39 1048575) rfl rfl (by kernel_rfl) (fun _ _ _ h => h) (Or.inr ⟨by rfl, rfl⟩) ?_ ?_; rotate_left; (· (simp only [Act.put, List.setIfInBounds_toArray, List.set_cons_zero, List.set_cons_succ, i64_w, i32_w]; rfl))
          refine pure_ (i := 20) (N := some 30) (v := undef) (a' := ?_) (bs 39 2097151) rfl rfl (by kernel_rfl) (fun _ _ _ h => h) (Or.inr ⟨by rfl, rfl⟩) ?_ ?_; rotate_left; (· (simp only [Act.put, List.setIfInBounds_toArray, List.set_cons_zero, List.set_cons_succ, i64_w, i32_w]; rfl))
          refine pure_ (i := 21) (N := some 31) (v := undef) (a' := ?_) (bs 39 4194303) rfl rfl (by kernel_rfl) (fun _ _ _ h => h) (Or.inr ⟨by rfl, rfl⟩) ?_ ?_; rotate_left; (· (simp only [Act.put, List.setIfInBounds_toArray, List.set_cons_zero, List.set_cons_succ, i64_w, i32_w]; rfl))
          refine pure_ (i := 22) (N := some 32) (v := undef) (a' := ?_) (bs 39 8388607) rfl rfl (by kernel_rfl) (fun _ _ _ h => h) (Or.inr ⟨by rfl, rfl⟩) ?_ ?_; rotate_left; (· (simp only [Act.put, List.setIfInBounds_toArray, List.set_cons_zero, List.set_cons_succ, i64_w, i32_w]; rfl))
          refine pure_ (i := 23) (N := some 33) (v := undef) (a' := ?_) (bs 39 16777215) rfl rfl (by kernel_rfl) (fun _ _ _ h => h) (Or.inr ⟨by rfl, rfl⟩) ?_ ?_; rotate_left; (· (simp only [Act.put, List.setIfInBounds_toArray, List.set_cons_zero, List.set_cons_succ, i64_w, i32_w]; rfl))
          refine pure_ (i := 24) (N := some 34) (v := ?_) (a' := ?_) (bs 39 33554431) rfl rfl (by kernel_rfl) (fun _ _ _ h => h) (Or.inl ⟨by rfl, ?_⟩) ?_ ?_; rotate_left; (· (intro w'; go_simp; with_reducible rfl)); rotate_left; (· (simp only [Act.put, List.setIfInBounds_toArray, List.set_cons_zero, List.set_cons_succ, i64_w, i32_w]; rfl))
          refine pure_ (i := 25) (N := some 35) (v := ?_) (a' := ?_) (bs 39 67108863) rfl rfl (by kernel_rfl) (fun _ _ _ h => h) (Or.inl ⟨by rfl, ?_⟩) ?_ ?_; rotate_left; (· (intro w'; go_simp; with_reducible rfl)); rotate_left; (· (simp only [Act.put, List.setIfInBounds_toArray, List.set_cons_zero, List.set_cons_succ, i64_w, i32_w]; rfl))
          refine pure_ (i := 26) (N := some 36) (v := undef) (a' := ?_) (bs 39 134217727) rfl rfl (by kernel_rfl) (fun _ _ _ h => h) (Or.inr ⟨by rfl, rfl⟩) ?_ ?_; rotate_left; (· (simp only [Act.put, List.setIfInBounds_toArray, List.set_cons_zero, List.set_cons_succ, i64_w, i32_w]; rfl))
          refine pure_ (i := 27) (N := some 37) (v := undef) (a' := ?_) (bs 39 268435455) rfl rfl (by kernel_rfl) (fun _ _ _ h => h) (Or.inr ⟨by rfl, rfl⟩) ?_ ?_; rotate_left; (· (simp only [Act.put, List.setIfInBounds_toArray, List.set_cons_zero, List.set_cons_succ, i64_w, i32_w]; rfl))
          refine pure_ (i := 28) (N := some 38) (v := undef) (a' := ?_) (bs 39 536870911) rfl rfl (by kernel_rfl) (fun _ _ _ h => h) (Or.inr ⟨by rfl, rfl⟩) ?_ ?_; rotate_left; (· (simp only [Act.put, List.setIfInBounds_toArray, List.set_cons_zero, List.set_cons_succ, i64_w, i32_w]; rfl))
          refine pure_ (i := 29) (N := some 39) (v := undef) (a' := ?_) (bs 39 1073741823) rfl rfl (by kernel_rfl) (fun _ _ _ h => h) (Or.inr ⟨by rfl, rfl⟩) ?_ ?_; rotate_left; (· (simp only [Act.put, List.setIfInBounds_toArray, List.set_cons_zero, List.set_cons_succ, i64_w, i32_w]; rfl))
          refine pure_ (i := 30) (N := some 40) (v := undef) (a' := ?_) (bs 39 2147483647) rfl rfl (by kernel_rfl) (fun _ _ _ h => h) (Or.inr ⟨by rfl, rfl⟩) ?_ ?_; rotate_left; (· (simp only [Act.put, List.setIfInBounds_toArray, List.set_cons_zero, List.set_cons_succ, i64_w, i32_w]; rfl))
          refine pure_ (i := 31) (N := some 41) (v := undef) (a' := ?_) (bs 39 4294967295) rfl rfl (by kernel_rfl) (fun _ _ _ h => h) (Or.inr ⟨by rfl, rfl⟩) ?_ ?_; rotate_left; (· (simp only [Act.put, List.setIfInBounds_toArray, List.set_cons_zero, List.set_cons_succ, i64_w, i32_w]; rfl))
          refine pure_ (i := 32) (N := some 42) (v := undef) (a' := ?_) (bs 39 8589934591) rfl rfl (by kernel_rfl) (fun _ _ _ h => h) (Or.inr ⟨by rfl, rfl⟩) ?_ ?_; rotate_left; (· (simp only [Act.put, List.setIfInBounds_toArray, List.set_cons_zero, List.set_cons_succ, i64_w, i32_w]; rfl))
          refine pure_ (i := 33) (N := some 43) (v := undef) (a' := ?_) (bs 39 17179869183) rfl rfl (by kernel_rfl) (fun _ _ _ h => h) (Or.inr ⟨by rfl, rfl⟩) ?_ ?_; rotate_left; (· (simp only [Act.put, List.setIfInBounds_toArray, List.set_cons_zero, List.set_cons_succ, i64_w, i32_w]; rfl))
          refine pure_ (i := 34) (N := some 44) (v := undef) (a' := ?_) (bs 39 34359738367) rfl rfl (by kernel_rfl) (fun _ _ _ h => h) (Or.inr ⟨by rfl, rfl⟩) ?_ ?_; rotate_left; (· (simp only [Act.put, List.setIfInBounds_toArray, List.set_cons_zero, List.set_cons_succ, i64_w, i32_w]; rfl))
          refine pure_ (i := 35) (N := some 45) (v := undef) (a' := ?_) (bs 39 68719476735) rfl rfl (by kernel_rfl) (fun _ _ _ h => h) (Or.inr ⟨by rfl, rfl⟩) ?_ ?_; rotate_left; (· (simp only [Act.put, List.setIfInBounds_toArray, List.set_cons_zero, List.set_cons_succ, i64_w, i32_w]; rfl))
          refine pure_ (i := 36) (N := some 46) (v := undef) (a' := ?_) (bs 39 137438953471) rfl rfl (by kernel_rfl) (fun _ _ _ h => h) (Or.inr ⟨by rfl, rfl⟩) ?_ ?_; rotate_left; (· (simp only [Act.put, List.setIfInBounds_toArray, List.set_cons_zero, List.set_cons_succ, i64_w, i32_w]; rfl))
          refine pure_ (i := 37) (N := some 47) (v := undef) (a' := ?_) (bs 39 274877906943) rfl rfl (by kernel_rfl) (fun _ _ _ h => h) (Or.inr ⟨by rfl, rfl⟩) ?_ ?_; rotate_left; (· (simp only [Act.put, List.setIfInBounds_toArray, List.set_cons_zero, List.set_cons_succ, i64_w, i32_w]; rfl))
          refine pure_ (i := 38) (N := some 48) (v := ?_) (a' := ?_) (bs 39 549755813887) rfl rfl (by kernel_rfl) (fun _ _ _ h => h) (Or.inl ⟨by rfl, ?_⟩) ?_ ?_; rotate_left; (· (intro w'; go_simp; with_reducible rfl)); rotate_left; (· (simp only [Act.put, List.setIfInBounds_toArray, List.set_cons_zero, List.set_cons_succ, i64_w, i32_w]; rfl))
          refine done_ (by kernel_rfl) ?_
          go_wp2_with fail
          go_ret2
          rw [HF.out]
          exact ⟨_, rfl, Kd.R_nil _ _ _ _ _, below_step HB0.out HC5.out⟩
        | true =>
          have HM : Aside0 (cellarerref05_May.f x.f0 x.f1 x.f2 x.f3 = some true) := ⟨by rw [may_is, hm]⟩
          have hb0 : ((decide (s = 1) && decide (x.f0 = 0)) || elder l x) = true := by rw [← hb]; simp [badB, hq, h0, h2, hm]
          clear hq h0 h2 hm hb
          by_cases h1 : s = 1
          · have h1b : (s == 1) = true := by simpa using h1
            by_cases hid : x.f0 = 0
            · have hidb : (x.f0 == 0) = true := by simpa using hid
              clear hb0 h1 hid
              refine start_ (n := 39) (S := fun w' => w'.cell? ⟨w.heap.size, 0, none⟩ = some (.int .u64 x.f0) ∧ w'.cell? ⟨w.heap.size, 1, none⟩ = some (.string x.f1) ∧ w'.cell? ⟨w.heap.size, 2, none⟩ = some (.bool x.f2) ∧ w'.cell? ⟨w.heap.size, 3, none⟩ = some (.int .i64 x.f3)) (ds := []) #[false, false, false, false, false, false, false, false, false, false, false, false, false, false, false, false, false, false, false, false, false, false, false, false, false, false, false, false, false, false, false, false, false, false, false, false, false, false, false] (by kernel_rfl) rfl rfl ⟨((blk_cell HK0.out 0).trans rfl), ((blk_cell HK0.out 1).trans rfl), ((blk_cell HK0.out 2).trans rfl), ((blk_cell HK0.out 3).trans rfl)⟩ (fun hHeld => ?_)
              refine pure_ (i := 0) (N := some 10) (v := ?_) (a' := ?_) (bs 39 1) rfl rfl (by kernel_rfl) (fun _ _ _ h => h) (Or.inl ⟨by rfl, ?_⟩) ?_ ?_; rotate_left; (· (intro w'; go_simp; with_reducible rfl)); rotate_left; (· (simp only [Act.put, List.setIfInBounds_toArray, List.set_cons_zero, List.set_cons_succ, i64_w, i32_w]; rfl))
              refine one_ (i := 1) (N := some 11) (bs 39 3) rfl rfl (by kernel_rfl) (by decide) (fun K hK => ?_)
              refine goes_ Try.func18 (by kernel_rfl) rfl #[.slice A l.length c] (by rfl) rfl rfl (by simp only [List.map_toArray, List.map_cons, List.map_nil]; rfl) ?_
              refine CK.out.mono ?_
              rintro e w4 ⟨rfl, hb⟩
              refine ⟨_, rfl, ?_⟩
              have HC4 := Aside0.mk (below_step (below_drew (Below.refl W0.heap.size W0)) hb)
              have HK4 := Aside0.mk ((hb.block _ (World.block_lt_of_cell? _ _ (blk_cell HK0.out 0))).trans HK0.out)
              clear hb CK
              refine hK.out _ _ ⟨((blk_cell HK4.out 0).trans rfl), ((blk_cell HK4.out 1).trans rfl), ((blk_cell HK4.out 2).trans rfl), ((blk_cell HK4.out 3).trans rfl)⟩ (fun hHeld => ?_)
              clear hK K
              refine norm_ (a' := ?_) ?_ ?_
              rotate_left
              · show Act.put _ (some 11) _ = _
                simp only [Act.put, List.setIfInBounds_toArray, List.set_cons_zero, List.set_cons_succ, i64_w, i32_w]
                rfl
              refine pure_ (i := 2) (N := some 12) (v := ?_) (a' := ?_) (bs 39 7) rfl rfl (by kernel_rfl) (fun _ _ _ h => h) (Or.inl ⟨by rfl, ?_⟩) ?_ ?_; rotate_left; (· (intro w'; go_simp; with_reducible rfl)); rotate_left; (· (simp only [Act.put, List.setIfInBounds_toArray, List.set_cons_zero, List.set_cons_succ, i64_w, i32_w]; rfl))
              refine pure_ (i := 3) (N := some 13) (v := ?_) (a' := ?_) (bs 39 15) rfl rfl (by kernel_rfl) (fun _ _ _ h => h) (Or.inl ⟨by rfl, ?_⟩) ?_ ?_; rotate_left; (· (intro w'; go_simp; with_reducible rfl)); rotate_left; (· (simp only [Act.put, List.setIfInBounds_toArray, List.set_cons_zero, List.set_cons_succ, i64_w, i32_w]; rfl))
              refine pure_ (i := 4) (N := some 14) (v := ?_) (a' := ?_) (bs 39 31) rfl rfl (by kernel_rfl) (fun _ _ _ h => h) (Or.inl ⟨by rfl, ?_⟩) ?_ ?_; rotate_left; (· (intro w'; go_simp; with_reducible rfl)); rotate_left; (· (simp only [Act.put, List.setIfInBounds_toArray, List.set_cons_zero, List.set_cons_succ, i64_w, i32_w]; rfl))
              refine pure_ (i := 5) (N := some 15) (v := ?_) (a' := ?_) (bs 39 63) rfl rfl (by kernel_rfl) (fun _ _ _ h => h) (Or.inl ⟨by rfl, ?_⟩) ?_ ?_; rotate_left; (· (intro w'; go_simp; with_reducible rfl)); rotate_left; (· (simp only [Act.put, List.setIfInBounds_toArray, List.set_cons_zero, List.set_cons_succ, i64_w, i32_w]; rfl))
              refine pure_ (i := 6) (N := some 16) (v := ?_) (a' := ?_) (bs 39 127) rfl rfl (by kernel_rfl) (fun _ _ _ h => h) (Or.inl ⟨by rfl, ?_⟩) ?_ ?_; rotate_left; (· (intro w'; go_simp; with_reducible rfl)); rotate_left; (· (simp only [Act.put, List.setIfInBounds_toArray, List.set_cons_zero, List.set_cons_succ, i64_w, i32_w]; rfl))
              refine pure_ (i := 7) (N := some 17) (v := ?_) (a' := ?_) (bs 39 255) rfl rfl (by kernel_rfl) (fun _ _ _ h => h) (Or.inl ⟨by rfl, ?_⟩) ?_ ?_; rotate_left; (· (intro w'; go_simp; with_reducible rfl)); rotate_left; (· (simp only [Act.put, List.setIfInBounds_toArray, List.set_cons_zero, List.set_cons_succ, i64_w, i32_w]; rfl))
              refine pure_ (i := 8) (N := some 18) (v := ?_) (a' := ?_) (bs 39 511) rfl rfl (by kernel_rfl) (fun _ _ _ h => h) (Or.inl ⟨by rfl, ?_⟩) ?_ ?_; rotate_left; (· (intro w'; go_simp; with_reducible rfl)); rotate_left; (· (simp only [Act.put, List.setIfInBounds_toArray, List.set_cons_zero, List.set_cons_succ, i64_w, i32_w]; rfl))
              refine pure_ (i := 9) (N := some 19) (v := ?_) (a' := ?_) (bs 39 1023) rfl rfl (by kernel_rfl) (fun _ _ _ h => h) (Or.inl ⟨by rfl, ?_⟩) ?_ ?_; rotate_left; (· (intro w'; go_simp; with_reducible rfl)); rotate_left; (· (simp only [Act.put, List.setIfInBounds_toArray, List.set_cons_zero, List.set_cons_succ, i64_w, i32_w]; rfl))
              refine pure_ (i := 10) (N := some 20) (v := ?_) (a' := ?_) (bs 39 2047) rfl rfl (by kernel_rfl) (fun _ _ _ h => h) (Or.inl ⟨by rfl, ?_⟩) ?_ ?_; rotate_left; (· (intro w'; go_simp; with_reducible rfl)); rotate_left; (· (simp only [Act.put, List.setIfInBounds_toArray, List.set_cons_zero, List.set_cons_succ, i64_w, i32_w]; rfl))
              refine pure_ (i := 11) (N := some 21) (v := ?_) (a' := ?_) (bs 39 4095) rfl rfl (by kernel_rfl) (fun _ _ _ h => h) (Or.inl ⟨by rfl, ?_⟩) ?_ ?_; rotate_left; (· (intro w'; go_simp; with_reducible rfl)); rotate_left; (· (simp only [Act.put, List.setIfInBounds_toArray, List.set_cons_zero, List.set_cons_succ, i64_w, i32_w]; rfl))
              refine take_ (i := 12) (N := some 22) (v := ?_) (a' := ?_) (bs 39 8191) rfl rfl (by kernel_rfl) (fun _ _ _ h => h) (Or.inl ⟨by rfl, ?_⟩) hHeld ?_ ?_; rotate_left; (· (rintro w' ⟨s0, s1, s2, s3⟩; go_simp; with_reducible rfl)); rotate_left; (· (simp only [Act.put, List.setIfInBounds_toArray, List.set_cons_zero, List.set_cons_succ, i64_w, i32_w]; rfl))
              refine one_ (i := 13) (N := some 23) (bs 39 16383) rfl rfl (by kernel_rfl) (by decide) (fun K hK => ?_)
              refine goes_ Try.func29 (by kernel_rfl) rfl #[.agg #[.int .u64 x.f0, .string x.f1, .bool x.f2, .int .i64 x.f3]] (by rfl) rfl rfl (by simp only [List.map_toArray, List.map_cons, List.map_nil]; rfl) ?_
              with_reducible refine (cellarerref05_May.calls x.f0 x.f1 x.f2 x.f3 _ w4 HM.out).mono ?_
              rintro e w5 ⟨rfl, hb⟩
              refine ⟨_, rfl, ?_⟩
              have HK5 := Aside0.mk ((hb.block _ (World.block_lt_of_cell? _ _ (blk_cell HK4.out 0))).trans HK4.out)
              have HC5 := Aside0.mk (below_step HC4.out hb)
              clear hb
              refine hK.out _ _ ⟨((blk_cell HK5.out 0).trans rfl), ((blk_cell HK5.out 1).trans rfl), ((blk_cell HK5.out 2).trans rfl), ((blk_cell HK5.out 3).trans rfl)⟩ (fun hHeld => ?_)
              clear hK K
              refine norm_ (a' := ?_) ?_ ?_
              rotate_left
              · show Act.put _ (some 23) _ = _
                simp only [Act.put, List.setIfInBounds_toArray, List.set_cons_zero, List.set_cons_succ, i64_w, i32_w]
                rfl
              refine pure_ (i := 14) (N := some 24) (v := ?_) (a' := ?_) (bs 39 32767) rfl rfl (by kernel_rfl) (fun _ _ _ h => h) (Or.inl ⟨by rfl, ?_⟩) ?_ ?_; rotate_left; (· (intro w'; go_simp; with_reducible rfl)); rotate_left; (· (simp only [Act.put, List.setIfInBounds_toArray, List.set_cons_zero, List.set_cons_succ, i64_w, i32_w]; rfl))
              refine pure_ (i := 15) (N := some 25) (v := ?_) (a' := ?_) (bs 39 65535) rfl rfl (by kernel_rfl) (fun _ _ _ h => h) (Or.inl ⟨by rfl, ?_⟩) ?_ ?_; rotate_left; (· (intro w'; go_simp; with_reducible rfl)); rotate_left; (· (simp only [Act.put, List.setIfInBounds_toArray, List.set_cons_zero, List.set_cons_succ, i64_w, i32_w]; rfl))
              refine pure_ (i := 16) (N := some 26) (v := ?_) (a' := ?_) (bs 39 131071) rfl rfl (by kernel_rfl) (fun _ _ _ h => h) (Or.inl ⟨by rfl, ?_⟩) ?_ ?_; rotate_left; (· (intro w'; go_simp; with_reducible rfl)); rotate_left; (· (simp only [Act.put, List.setIfInBounds_toArray, List.set_cons_zero, List.set_cons_succ, i64_w, i32_w]; rfl))
              refine pure_ (i := 17) (N := some 27) (v := ?_) (a' := ?_) (bs 39 262143) rfl rfl (by kernel_rfl) (fun _ _ _ h => h) (Or.inl ⟨by rfl, ?_⟩) ?_ ?_; rotate_left; (· (intro w'; go_simp; with_reducible rfl)); rotate_left; (· (simp only [Act.put, List.setIfInBounds_toArray, List.set_cons_zero, List.set_cons_succ, i64_w, i32_w]; rfl))
              refine pure_ (i := 18) (N := some 28) (v := ?_) (a' := ?_) (bs 39 524287) rfl rfl (by kernel_rfl) (fun _ _ _ h => h) (Or.inl ⟨by rfl, ?_⟩) ?_ ?_; rotate_left; (· (intro w'; go_simp; with_reducible rfl)); rotate_left; (· (simp only [Act.put, List.setIfInBounds_toArray, List.set_cons_zero, List.set_cons_succ, i64_w, i32_w]; rfl))
              refine pure_ (i := 19) (N := some 29) (v := ?_) (a' := ?_) (bs 39 1048575) rfl rfl (by kernel_rfl) (fun _ _ _ h => h) (Or.inl ⟨by rfl, ?_⟩) ?_ ?_; rotate_left; (· (intro w'; go_simp; with_reducible rfl)); rotate_left; (· (simp only [Act.put, List.setIfInBounds_toArray, List.set_cons_zero, List.set_cons_succ, i64_w, i32_w]; rfl))
              refine pure_ (i := 20) (N := some 30) (v := ?_) (a' := ?_) (bs 39 2097151) rfl rfl (by kernel_rfl) (fun _ _ _ h => h) (Or.inl ⟨by rfl, ?_⟩) ?_ ?_; rotate_left; (· (intro w'; go_simp; with_reducible rfl)); rotate_left; (· (simp only [Act.put, List.setIfInBounds_toArray, List.set_cons_zero, List.set_cons_succ, i64_w, i32_w]; rfl))
              refine take_ (i := 21) (N := some 31) (v := ?_) (a' := ?_) (bs 39 4194303) rfl rfl (by kernel_rfl) (fun _ _ _ h => h) (Or.inl ⟨by rfl, ?_⟩) hHeld ?_ ?_; rotate_left; (· (rintro w' ⟨s0, s1, s2, s3⟩; go_simp; with_reducible rfl)); rotate_left; (· (simp only [Act.put, List.setIfInBounds_toArray, List.set_cons_zero, List.set_cons_succ, i64_w, i32_w]; rfl))
              refine pure_ (i := 22) (N := some 32) (v := ?_) (a' := ?_) (bs 39 8388607) rfl rfl (by kernel_rfl) (fun _ _ _ h => h) (Or.inl ⟨by rfl, ?_⟩) ?_ ?_; rotate_left; (· (intro w'; go_simp; with_reducible rfl)); rotate_left; (· (simp only [Act.put, List.setIfInBounds_toArray, List.set_cons_zero, List.set_cons_succ, i64_w, i32_w]; rfl))
              refine pure_ (i := 23) (N := some 33) (v := ?_) (a' := ?_) (bs 39 16777215) rfl rfl (by kernel_rfl) (fun _ _ _ h => h) (Or.inl ⟨by rfl, ?_⟩) ?_ ?_; rotate_left; (· (intro w'; go_simp; with_reducible rfl)); rotate_left; (· (simp only [Act.put, List.setIfInBounds_toArray, List.set_cons_zero, List.set_cons_succ, i64_w, i32_w]; rfl))
              refine pure_ (i := 24) (N := some 34) (v := ?_) (a' := ?_) (bs 39 33554431) rfl rfl (by kernel_rfl) (fun _ _ _ h => h) (Or.inl ⟨by rfl, ?_⟩) ?_ ?_; rotate_left; (· (intro w'; go_simp; with_reducible rfl)); rotate_left; (· (simp only [Act.put, List.setIfInBounds_toArray, List.set_cons_zero, List.set_cons_succ, i64_w, i32_w]; rfl))
              refine pure_ (i := 25) (N := some 35) (v := ?_) (a' := ?_) (bs 39 67108863) rfl rfl (by kernel_rfl) (fun _ _ _ h => h) (Or.inl ⟨by rfl, ?_⟩) ?_ ?_; rotate_left; (· (intro w'; go_simp; with_reducible rfl)); rotate_left; (· (simp only [Act.put, List.setIfInBounds_toArray, List.set_cons_zero, List.set_cons_succ, i64_w, i32_w]; rfl))
              refine pure_ (i := 26) (N := some 36) (v := undef) (a' := ?_) (bs 39 134217727) rfl rfl (by kernel_rfl) (fun _ _ _ h => h) (Or.inr ⟨by rfl, rfl⟩) ?_ ?_; rotate_left; (· (simp only [Act.put, List.setIfInBounds_toArray, List.set_cons_zero, List.set_cons_succ, i64_w, i32_w]; rfl))
              refine pure_ (i := 27) (N := some 37) (v := undef) (a' := ?_) (bs 39 268435455) rfl rfl (by kernel_rfl) (fun _ _ _ h => h) (Or.inr ⟨by rfl, rfl⟩) ?_ ?_; rotate_left; (· (simp only [Act.put, List.setIfInBounds_toArray, List.set_cons_zero, List.set_cons_succ, i64_w, i32_w]; rfl))
              refine pure_ (i := 28) (N := some 38) (v := undef) (a' := ?_) (bs 39 536870911) rfl rfl (by kernel_rfl) (fun _ _ _ h => h) (Or.inr ⟨by rfl, rfl⟩) ?_ ?_; rotate_left; (· (simp only [Act.put, List.setIfInBounds_toArray, List.set_cons_zero, List.set_cons_succ, i64_w, i32_w]; rfl))
              refine pure_ (i := 29) (N := some 39) (v := undef) (a' := ?_) (bs 39 1073741823) rfl rfl (by kernel_rfl) (fun _ _ _ h => h) (Or.inr ⟨by rfl, rfl⟩) ?_ ?_; rotate_left; (· (simp only [Act.put, List.setIfInBounds_toArray, List.set_cons_zero, List.set_cons_succ, i64_w, i32_w]; rfl))
              refine pure_ (i := 30) (N := some 40) (v := undef) (a' := ?_) (bs 39 2147483647) rfl rfl (by kernel_rfl) (fun _ _ _ h => h) (Or.inr ⟨by rfl, rfl⟩) ?_ ?_; rotate_left; (· (simp only [Act.put, List.setIfInBounds_toArray, List.set_cons_zero, List.set_cons_succ, i64_w, i32_w]; rfl))
              refine pure_ (i := 31) (N := some 41) (v := undef) (a' := ?_) (bs 39 4294967295) rfl rfl (by kernel_rfl) (fun _ _ _ h => h) (Or.inr ⟨by rfl, rfl⟩) ?_ ?_; rotate_left; (· (simp only [Act.put, List.setIfInBounds_toArray, List.set_cons_zero, List.set_cons_succ, i64_w, i32_w]; rfl))
              refine pure_ (i := 32) (N := some 42) (v := undef) (a' := ?_) (bs 39 8589934591) rfl rfl (by kernel_rfl) (fun _ _ _ h => h) (Or.inr ⟨by rfl, rfl⟩) ?_ ?_; rotate_left; (· (simp only [Act.put, List.setIfInBounds_toArray, List.set_cons_zero, List.set_cons_succ, i64_w, i32_w]; rfl))
              refine pure_ (i := 33) (N := some 43) (v := undef) (a' := ?_) (bs 39 17179869183) rfl rfl (by kernel_rfl) (fun _ _ _ h => h) (Or.inr ⟨by rfl, rfl⟩) ?_ ?_; rotate_left; (· (simp only [Act.put, List.setIfInBounds_toArray, List.set_cons_zero, List.set_cons_succ, i64_w, i32_w]; rfl))
              refine pure_ (i := 34) (N := some 44) (v := undef) (a' := ?_) (bs 39 34359738367) rfl rfl (by kernel_rfl) (fun _ _ _ h => h) (Or.inr ⟨by rfl, rfl⟩) ?_ ?_; rotate_left; (· (simp only [Act.put, List.setIfInBounds_toArray, List.set_cons_zero, List.set_cons_succ, i64_w, i32_w]; rfl))
              refine pure_ (i := 35) (N := some 45) (v := undef) (a' := ?_) (bs 39 68719476735) rfl rfl (by kernel_rfl) (fun _ _ _ h => h) (Or.inr ⟨by rfl, rfl⟩) ?_ ?_; rotate_left; (· (simp only [Act.put, List.setIfInBounds_toArray, List.set_cons_zero, List.set_cons_succ, i64_w, i32_w]; rfl))
              refine pure_ (i := 36) (N := some 46) (v := undef) (a' := ?_) (bs 39 137438953471) rfl rfl (by kernel_rfl) (fun _ _ _ h => h) (Or.inr ⟨by rfl, rfl⟩) ?_ ?_; rotate_left; (· (simp only [Act.put, List.setIfInBounds_toArray, List.set_cons_zero, List.set_cons_succ, i64_w, i32_w]; rfl))
              refine pure_ (i := 37) (N := some 47) (v := undef) (a' := ?_) (bs 39 274877906943) rfl rfl (by kernel_rfl) (fun _ _ _ h => h) (Or.inr ⟨by rfl, rfl⟩) ?_ ?_; rotate_left; (· (simp only [Act.put, List.setIfInBounds_toArray, List.set_cons_zero, List.set_cons_succ, i64_w, i32_w]; rfl))
              refine pure_ (i := 38) (N := some 48) (v := ?_) (a' := ?_) (bs 39 549755813887) rfl rfl (by kernel_rfl) (fun _ _ _ h => h) (Or.inl ⟨by rfl, ?_⟩) ?_ ?_; rotate_left; (· (intro w'; go_simp; with_reducible rfl)); rotate_left; (· (simp only [Act.put, List.setIfInBounds_toArray, List.set_cons_zero, List.set_cons_succ, i64_w, i32_w]; rfl))
              refine done_ (by kernel_rfl) ?_
              go_wp2_with fail
              go_ret2
              rw [HF.out]
              exact ⟨_, rfl, Kd.R_nil _ _ _ _ _, below_step HB0.out HC5.out⟩
            · have hidb : (x.f0 == 0) = false := by simpa using hid
              have he : elder l x = true := by simpa [hid] using hb0
              clear hb0 h1 hid
              have hle : l ≠ [] := fun h => by rw [h] at he; cases he
              obtain ⟨z, zs, hle⟩ := List.exists_cons_of_ne_nil hle
              have hrd : rd_T25 l 0 = z := by rw [hle]; rfl
              have hz : 0 < l.length := by rw [hle]; simp
              have hel : elder l x = decide (x.f3 < z.f3) := by rw [hle]; rfl
              obtain ⟨ad, hA, _, _, _, hy⟩ := at_T25 HR0.out (0 : Int) (by omega) (by omega)
              rw [hrd, show ad.add ((0 : Int).toNat * 4) = ad from rfl] at hy
              subst hA
              have HY := Aside0.mk hy
              have hz1 : decide (0 < l.length) = true := decide_eq_true hz
              have hz2 : decide ((l.length : Int) > 0) = true := decide_eq_true (by omega)
              have hz3 : (0 : Int) < (l.length : Int) := by omega
              rw [hel] at he
              clear hy hle hrd hel
              generalize z.f3 = y at HY he
              clear z zs
              refine start_ (n := 39) (S := fun w' => w'.cell? ⟨w.heap.size, 0, none⟩ = some (.int .u64 x.f0) ∧ w'.cell? ⟨w.heap.size, 1, none⟩ = some (.string x.f1) ∧ w'.cell? ⟨w.heap.size, 2, none⟩ = some (.bool x.f2) ∧ w'.cell? ⟨w.heap.size, 3, none⟩ = some (.int .i64 x.f3) ∧ w'.cell? ⟨ad.block, ad.off + 3, none⟩ = some (.int .i64 y)) (ds := []) #[false, false, false, false, false, false, false, false, false, false, false, false, false, false, false, false, false, false, false, false, false, false, false, false, false, false, false, false, false, false, false, false, false, false, false, false, false, false, false] (by kernel_rfl) rfl rfl ⟨((blk_cell HK0.out 0).trans rfl), ((blk_cell HK0.out 1).trans rfl), ((blk_cell HK0.out 2).trans rfl), ((blk_cell HK0.out 3).trans rfl), HY.out⟩ (fun hHeld => ?_)
              refine pure_ (i := 0) (N := some 10) (v := ?_) (a' := ?_) (bs 39 1) rfl rfl (by kernel_rfl) (fun _ _ _ h => h) (Or.inl ⟨by rfl, ?_⟩) ?_ ?_; rotate_left; (· (intro w'; go_simp; with_reducible rfl)); rotate_left; (· (simp only [Act.put, List.setIfInBounds_toArray, List.set_cons_zero, List.set_cons_succ, i64_w, i32_w]; rfl))
              refine one_ (i := 1) (N := some 11) (bs 39 3) rfl rfl (by kernel_rfl) (by decide) (fun K hK => ?_)
              refine goes_ Try.func18 (by kernel_rfl) rfl #[.slice (some ad) l.length c] (by rfl) rfl rfl (by simp only [List.map_toArray, List.map_cons, List.map_nil]; rfl) ?_
              refine CK.out.mono ?_
              rintro e w4 ⟨rfl, hb⟩
              refine ⟨_, rfl, ?_⟩
              have HC4 := Aside0.mk (below_step (below_drew (Below.refl W0.heap.size W0)) hb)
              have HK4 := Aside0.mk ((hb.block _ (World.block_lt_of_cell? _ _ (blk_cell HK0.out 0))).trans HK0.out)
              clear hb CK
              refine hK.out _ _ ⟨((blk_cell HK4.out 0).trans rfl), ((blk_cell HK4.out 1).trans rfl), ((blk_cell HK4.out 2).trans rfl), ((blk_cell HK4.out 3).trans rfl), ((HC4.out.cell (World.block_lt_of_cell? _ _ HY.out)).trans HY.out)⟩ (fun hHeld => ?_)
              clear hK K
              refine norm_ (a' := ?_) ?_ ?_
              rotate_left
              · show Act.put _ (some 11) _ = _
                simp only [Act.put, List.setIfInBounds_toArray, List.set_cons_zero, List.set_cons_succ, i64_w, i32_w]
                rfl
              refine pure_ (i := 2) (N := some 12) (v := ?_) (a' := ?_) (bs 39 7) rfl rfl (by kernel_rfl) (fun _ _ _ h => h) (Or.inl ⟨by rfl, ?_⟩) ?_ ?_; rotate_left; (· (intro w'; go_simp; with_reducible rfl)); rotate_left; (· (simp only [Act.put, List.setIfInBounds_toArray, List.set_cons_zero, List.set_cons_succ, i64_w, i32_w]; rfl))
              refine pure_ (i := 3) (N := some 13) (v := ?_) (a' := ?_) (bs 39 15) rfl rfl (by kernel_rfl) (fun _ _ _ h => h) (Or.inl ⟨by rfl, ?_⟩) ?_ ?_; rotate_left; (· (intro w'; go_simp; with_reducible rfl)); rotate_left; (· (simp only [Act.put, List.setIfInBounds_toArray, List.set_cons_zero, List.set_cons_succ, i64_w, i32_w]; rfl))
              refine pure_ (i := 4) (N := some 14) (v := ?_) (a' := ?_) (bs 39 31) rfl rfl (by kernel_rfl) (fun _ _ _ h => h) (Or.inl ⟨by rfl, ?_⟩) ?_ ?_; rotate_left; (· (intro w'; go_simp; with_reducible rfl)); rotate_left; (· (simp only [Act.put, List.setIfInBounds_toArray, List.set_cons_zero, List.set_cons_succ, i64_w, i32_w]; rfl))
              refine pure_ (i := 5) (N := some 15) (v := ?_) (a' := ?_) (bs 39 63) rfl rfl (by kernel_rfl) (fun _ _ _ h => h) (Or.inl ⟨by rfl, ?_⟩) ?_ ?_; rotate_left; (· (intro w'; go_simp; with_reducible rfl)); rotate_left; (· (simp only [Act.put, List.setIfInBounds_toArray, List.set_cons_zero, List.set_cons_succ, i64_w, i32_w]; rfl))
              refine pure_ (i := 6) (N := some 16) (v := ?_) (a' := ?_) (bs 39 127) rfl rfl (by kernel_rfl) (fun _ _ _ h => h) (Or.inl ⟨by rfl, ?_⟩) ?_ ?_; rotate_left; (· (intro w'; go_simp; with_reducible rfl)); rotate_left; (· (simp only [Act.put, List.setIfInBounds_toArray, List.set_cons_zero, List.set_cons_succ, i64_w, i32_w]; rfl))
              refine pure_ (i := 7) (N := some 17) (v := ?_) (a' := ?_) (bs 39 255) rfl rfl (by kernel_rfl) (fun _ _ _ h => h) (Or.inl ⟨by rfl, ?_⟩) ?_ ?_; rotate_left; (· (intro w'; go_simp; with_reducible rfl)); rotate_left; (· (simp only [Act.put, List.setIfInBounds_toArray, List.set_cons_zero, List.set_cons_succ, i64_w, i32_w]; rfl))
              refine pure_ (i := 8) (N := some 18) (v := ?_) (a' := ?_) (bs 39 511) rfl rfl (by kernel_rfl) (fun _ _ _ h => h) (Or.inl ⟨by rfl, ?_⟩) ?_ ?_; rotate_left; (· (intro w'; go_simp; with_reducible rfl)); rotate_left; (· (simp only [Act.put, List.setIfInBounds_toArray, List.set_cons_zero, List.set_cons_succ, i64_w, i32_w]; rfl))
              refine pure_ (i := 9) (N := some 19) (v := ?_) (a' := ?_) (bs 39 1023) rfl rfl (by kernel_rfl) (fun _ _ _ h => h) (Or.inl ⟨by rfl, ?_⟩) ?_ ?_; rotate_left; (· (intro w'; go_simp; with_reducible rfl)); rotate_left; (· (simp only [Act.put, List.setIfInBounds_toArray, List.set_cons_zero, List.set_cons_succ, i64_w, i32_w]; rfl))
              refine pure_ (i := 10) (N := some 20) (v := ?_) (a' := ?_) (bs 39 2047) rfl rfl (by kernel_rfl) (fun _ _ _ h => h) (Or.inl ⟨by rfl, ?_⟩) ?_ ?_; rotate_left; (· (intro w'; go_simp; with_reducible rfl)); rotate_left; (· (simp only [Act.put, List.setIfInBounds_toArray, List.set_cons_zero, List.set_cons_succ, i64_w, i32_w]; rfl))
              refine pure_ (i := 11) (N := some 21) (v := ?_) (a' := ?_) (bs 39 4095) rfl rfl (by kernel_rfl) (fun _ _ _ h => h) (Or.inl ⟨by rfl, ?_⟩) ?_ ?_; rotate_left; (· (intro w'; go_simp; with_reducible rfl)); rotate_left; (· (simp only [Act.put, List.setIfInBounds_toArray, List.set_cons_zero, List.set_cons_succ, i64_w, i32_w]; rfl))
              refine take_ (i := 12) (N := some 22) (v := ?_) (a' := ?_) (bs 39 8191) rfl rfl (by kernel_rfl) (fun _ _ _ h => h) (Or.inl ⟨by rfl, ?_⟩) hHeld ?_ ?_; rotate_left; (· (rintro w' ⟨s0, s1, s2, s3, s4⟩; go_simp; with_reducible rfl)); rotate_left; (· (simp only [Act.put, List.setIfInBounds_toArray, List.set_cons_zero, List.set_cons_succ, i64_w, i32_w]; rfl))
              refine one_ (i := 13) (N := some 23) (bs 39 16383) rfl rfl (by kernel_rfl) (by decide) (fun K hK => ?_)
              refine goes_ Try.func29 (by kernel_rfl) rfl #[.agg #[.int .u64 x.f0, .string x.f1, .bool x.f2, .int .i64 x.f3]] (by rfl) rfl rfl (by simp only [List.map_toArray, List.map_cons, List.map_nil]; rfl) ?_
              with_reducible refine (cellarerref05_May.calls x.f0 x.f1 x.f2 x.f3 _ w4 HM.out).mono ?_
              rintro e w5 ⟨rfl, hb⟩
              refine ⟨_, rfl, ?_⟩
              have HK5 := Aside0.mk ((hb.block _ (World.block_lt_of_cell? _ _ (blk_cell HK4.out 0))).trans HK4.out)
              have HC5 := Aside0.mk (below_step HC4.out hb)
              clear hb
              refine hK.out _ _ ⟨((blk_cell HK5.out 0).trans rfl), ((blk_cell HK5.out 1).trans rfl), ((blk_cell HK5.out 2).trans rfl), ((blk_cell HK5.out 3).trans rfl), ((HC5.out.cell (World.block_lt_of_cell? _ _ HY.out)).trans HY.out)⟩ (fun hHeld => ?_)
              clear hK K
              refine norm_ (a' := ?_) ?_ ?_
              rotate_left
              · show Act.put _ (some 23) _ = _
                simp only [Act.put, List.setIfInBounds_toArray, List.set_cons_zero, List.set_cons_succ, i64_w, i32_w]
                rfl
              refine pure_ (i := 14) (N := some 24) (v := ?_) (a' := ?_) (bs 39 32767) rfl rfl (by kernel_rfl) (fun _ _ _ h => h) (Or.inl ⟨by rfl, ?_⟩) ?_ ?_; rotate_left; (· (intro w'; go_simp; with_reducible rfl)); rotate_left; (· (simp only [Act.put, List.setIfInBounds_toArray, List.set_cons_zero, List.set_cons_succ, i64_w, i32_w]; rfl))
              refine pure_ (i := 15) (N := some 25) (v := ?_) (a' := ?_) (bs 39 65535) rfl rfl (by kernel_rfl) (fun _ _ _ h => h) (Or.inl ⟨by rfl, ?_⟩) ?_ ?_; rotate_left; (· (intro w'; go_simp; with_reducible rfl)); rotate_left; (· (simp only [Act.put, List.setIfInBounds_toArray, List.set_cons_zero, List.set_cons_succ, i64_w, i32_w]; rfl))
              refine pure_ (i := 16) (N := some 26) (v := ?_) (a' := ?_) (bs 39 131071) rfl rfl (by kernel_rfl) (fun _ _ _ h => h) (Or.inl ⟨by rfl, ?_⟩) ?_ ?_; rotate_left; (· (intro w'; go_simp; with_reducible rfl)); rotate_left; (· (simp only [Act.put, List.setIfInBounds_toArray, List.set_cons_zero, List.set_cons_succ, i64_w, i32_w]; rfl))
              refine pure_ (i := 17) (N := some 27) (v := ?_) (a' := ?_) (bs 39 262143) rfl rfl (by kernel_rfl) (fun _ _ _ h => h) (Or.inl ⟨by rfl, ?_⟩) ?_ ?_; rotate_left; (· (intro w'; go_simp; with_reducible rfl)); rotate_left; (· (simp only [Act.put, List.setIfInBounds_toArray, List.set_cons_zero, List.set_cons_succ, i64_w, i32_w]; rfl))
              refine pure_ (i := 18) (N := some 28) (v := ?_) (a' := ?_) (bs 39 524287) rfl rfl (by kernel_rfl) (fun _ _ _ h => h) (Or.inl ⟨by rfl, ?_⟩) ?_ ?_; rotate_left; (· (intro w'; go_simp; with_reducible rfl)); rotate_left; (· (simp only [Act.put, List.setIfInBounds_toArray, List.set_cons_zero, List.set_cons_succ, i64_w, i32_w]; rfl))
              refine pure_ (i := 19) (N := some 29) (v := ?_) (a' := ?_) (bs 39 1048575) rfl rfl (by kernel_rfl) (fun _ _ _ h => h) (Or.inl ⟨by rfl, ?_⟩) ?_ ?_; rotate_left; (· (intro w'; go_simp; with_reducible rfl)); rotate_left; (· (simp only [Act.put, List.setIfInBounds_toArray, List.set_cons_zero, List.set_cons_succ, i64_w, i32_w]; rfl))
              refine pure_ (i := 20) (N := some 30) (v := ?_) (a' := ?_) (bs 39 2097151) rfl rfl (by kernel_rfl) (fun _ _ _ h => h) (Or.inl ⟨by rfl, ?_⟩) ?_ ?_; rotate_left; (· (intro w'; go_simp; with_reducible rfl)); rotate_left; (· (simp only [Act.put, List.setIfInBounds_toArray, List.set_cons_zero, List.set_cons_succ, i64_w, i32_w]; rfl))
              refine take_ (i := 21) (N := some 31) (v := ?_) (a' := ?_) (bs 39 4194303) rfl rfl (by kernel_rfl) (fun _ _ _ h => h) (Or.inl ⟨by rfl, ?_⟩) hHeld ?_ ?_; rotate_left; (· (rintro w' ⟨s0, s1, s2, s3, s4⟩; go_simp; with_reducible rfl)); rotate_left; (· (simp only [Act.put, List.setIfInBounds_toArray, List.set_cons_zero, List.set_cons_succ, i64_w, i32_w]; rfl))
              refine pure_ (i := 22) (N := some 32) (v := ?_) (a' := ?_) (bs 39 8388607) rfl rfl (by kernel_rfl) (fun _ _ _ h => h) (Or.inl ⟨by rfl, ?_⟩) ?_ ?_; rotate_left; (· (intro w'; go_simp; with_reducible rfl)); rotate_left; (· (simp only [Act.put, List.setIfInBounds_toArray, List.set_cons_zero, List.set_cons_succ, i64_w, i32_w]; rfl))
              refine pure_ (i := 23) (N := some 33) (v := ?_) (a' := ?_) (bs 39 16777215) rfl rfl (by kernel_rfl) (fun _ _ _ h => h) (Or.inl ⟨by rfl, ?_⟩) ?_ ?_; rotate_left; (· (intro w'; go_simp; with_reducible rfl)); rotate_left; (· (simp only [Act.put, List.setIfInBounds_toArray, List.set_cons_zero, List.set_cons_succ, i64_w, i32_w]; rfl))
              refine pure_ (i := 24) (N := some 34) (v := ?_) (a' := ?_) (bs 39 33554431) rfl rfl (by kernel_rfl) (fun _ _ _ h => h) (Or.inl ⟨by rfl, ?_⟩) ?_ ?_; rotate_left; (· (intro w'; go_simp; with_reducible rfl)); rotate_left; (· (simp only [Act.put, List.setIfInBounds_toArray, List.set_cons_zero, List.set_cons_succ, i64_w, i32_w]; rfl))
              refine pure_ (i := 25) (N := some 35) (v := ?_) (a' := ?_) (bs 39 67108863) rfl rfl (by kernel_rfl) (fun _ _ _ h => h) (Or.inl ⟨by rfl, ?_⟩) ?_ ?_; rotate_left; (· (intro w'; go_simp; with_reducible rfl)); rotate_left; (· (simp only [Act.put, List.setIfInBounds_toArray, List.set_cons_zero, List.set_cons_succ, i64_w, i32_w]; rfl))
              refine pure_ (i := 26) (N := some 36) (v := ?_) (a' := ?_) (bs 39 134217727) rfl rfl (by kernel_rfl) (fun _ _ _ h => h) (Or.inl ⟨by rfl, ?_⟩) ?_ ?_; rotate_left; (· (intro w'; go_simp; with_reducible rfl)); rotate_left; (· (simp only [Act.put, List.setIfInBounds_toArray, List.set_cons_zero, List.set_cons_succ, i64_w, i32_w]; rfl))
              refine pure_ (i := 27) (N := some 37) (v := ?_) (a' := ?_) (bs 39 268435455) rfl rfl (by kernel_rfl) (fun _ _ _ h => h) (Or.inl ⟨by rfl, ?_⟩) ?_ ?_; rotate_left; (· (intro w'; go_simp; with_reducible rfl)); rotate_left; (· (simp only [Act.put, List.setIfInBounds_toArray, List.set_cons_zero, List.set_cons_succ, i64_w, i32_w]; rfl))
              refine pure_ (i := 28) (N := some 38) (v := ?_) (a' := ?_) (bs 39 536870911) rfl rfl (by kernel_rfl) (fun _ _ _ h => h) (Or.inl ⟨by rfl, ?_⟩) ?_ ?_; rotate_left; (· (intro w'; go_simp; with_reducible rfl)); rotate_left; (· (simp only [Act.put, List.setIfInBounds_toArray, List.set_cons_zero, List.set_cons_succ, i64_w, i32_w]; rfl))
              refine pure_ (i := 29) (N := some 39) (v := ?_) (a' := ?_) (bs 39 1073741823) rfl rfl (by kernel_rfl) (fun _ _ _ h => h) (Or.inl ⟨by rfl, ?_⟩) ?_ ?_; rotate_left; (· (intro w'; go_simp; with_reducible rfl)); rotate_left; (· (simp only [Act.put, List.setIfInBounds_toArray, List.set_cons_zero, List.set_cons_succ, i64_w, i32_w]; rfl))
              refine pure_ (i := 30) (N := some 40) (v := ?_) (a' := ?_) (bs 39 2147483647) rfl rfl (by kernel_rfl) (fun _ _ _ h => h) (Or.inl ⟨by rfl, ?_⟩) ?_ ?_; rotate_left; (· (intro w'; go_simp; with_reducible rfl)); rotate_left; (· (simp only [Act.put, List.setIfInBounds_toArray, List.set_cons_zero, List.set_cons_succ, i64_w, i32_w]; rfl))
              refine pure_ (i := 32) (N := some 42) (v := ?_) (a' := ?_) (bs 39 6442450943) rfl rfl (by kernel_rfl) (fun _ _ _ h => h) (Or.inl ⟨by rfl, ?_⟩) ?_ ?_; rotate_left; (· (intro w'; go_simp; with_reducible rfl)); rotate_left; (· (simp only [Act.put, List.setIfInBounds_toArray, List.set_cons_zero, List.set_cons_succ, i64_w, i32_w]; rfl))
              refine pure_ (i := 33) (N := some 43) (v := ?_) (a' := ?_) (bs 39 15032385535) rfl rfl (by kernel_rfl) (fun _ _ _ h => h) (Or.inl ⟨by rfl, ?_⟩) ?_ ?_; rotate_left; (· (intro w'; go_simp; with_reducible rfl)); rotate_left; (· (simp only [Act.put, List.setIfInBounds_toArray, List.set_cons_zero, List.set_cons_succ, i64_w, i32_w]; rfl))
              refine pure_ (i := 34) (N := some 44) (v := ?_) (a' := ?_) (bs 39 32212254719) rfl rfl (by kernel_rfl) (fun _ _ _ h => h) (Or.inl ⟨by rfl, ?_⟩) ?_ ?_; rotate_left; (· (intro w'; go_simp; with_reducible rfl)); rotate_left; (· (simp only [Act.put, List.setIfInBounds_toArray, List.set_cons_zero, List.set_cons_succ, i64_w, i32_w]; rfl))
              refine take_ (i := 31) (N := some 41) (v := ?_) (a' := ?_) (bs 39 34359738367) rfl rfl (by kernel_rfl) (fun _ _ _ h => h) (Or.inl ⟨by rfl, ?_⟩) hHeld ?_ ?_; rotate_left; (· (rintro w' ⟨s0, s1, s2, s3, s4⟩; go_simp; with_reducible rfl)); rotate_left; (· (simp only [Act.put, List.setIfInBounds_toArray, List.set_cons_zero, List.set_cons_succ, i64_w, i32_w]; rfl))
              refine take_ (i := 35) (N := some 45) (v := ?_) (a' := ?_) (bs 39 68719476735) rfl rfl (by kernel_rfl) (fun _ _ _ h => h) (Or.inl ⟨by rfl, ?_⟩) hHeld ?_ ?_; rotate_left; (· (rintro w' ⟨s0, s1, s2, s3, s4⟩; go_simp; with_reducible rfl)); rotate_left; (· (simp only [Act.put, List.setIfInBounds_toArray, List.set_cons_zero, List.set_cons_succ, i64_w, i32_w]; rfl))
              refine pure_ (i := 36) (N := some 46) (v := ?_) (a' := ?_) (bs 39 137438953471) rfl rfl (by kernel_rfl) (fun _ _ _ h => h) (Or.inl ⟨by rfl, ?_⟩) ?_ ?_; rotate_left; (· (intro w'; go_simp; with_reducible rfl)); rotate_left; (· (simp only [Act.put, List.setIfInBounds_toArray, List.set_cons_zero, List.set_cons_succ, i64_w, i32_w]; rfl))
              refine pure_ (i := 37) (N := some 47) (v := ?_) (a' := ?_) (bs 39 274877906943) rfl rfl (by kernel_rfl) (fun _ _ _ h => h) (Or.inl ⟨by rfl, ?_⟩) ?_ ?_; rotate_left; (· (intro w'; go_simp; with_reducible rfl)); rotate_left; (· (simp only [Act.put, List.setIfInBounds_toArray, List.set_cons_zero, List.set_cons_succ, i64_w, i32_w]; rfl))
              refine pure_ (i := 38) (N := some 48) (v := ?_) (a' := ?_) (bs 39 549755813887) rfl rfl (by kernel_rfl) (fun _ _ _ h => h) (Or.inl ⟨by rfl, ?_⟩) ?_ ?_; rotate_left; (· (intro w'; go_simp; with_reducible rfl)); rotate_left; (· (simp only [Act.put, List.setIfInBounds_toArray, List.set_cons_zero, List.set_cons_succ, i64_w, i32_w]; rfl))
              refine done_ (by kernel_rfl) ?_
              go_wp2_with fail
              go_ret2
              rw [HF.out]
              exact ⟨_, rfl, Kd.R_nil _ _ _ _ _, below_step HB0.out HC5.out⟩
          · have h1b : (s == 1) = false := by simpa using h1
            have he : elder l x = true := by simpa [h1] using hb0
            clear hb0 h1
            have hle : l ≠ [] := fun h => by rw [h] at he; cases he
            obtain ⟨z, zs, hle⟩ := List.exists_cons_of_ne_nil hle
            have hrd : rd_T25 l 0 = z := by rw [hle]; rfl
            have hz : 0 < l.length := by rw [hle]; simp
            have hel : elder l x = decide (x.f3 < z.f3) := by rw [hle]; rfl
            obtain ⟨ad, hA, _, _, _, hy⟩ := at_T25 HR0.out (0 : Int) (by omega) (by omega)
            rw [hrd, show ad.add ((0 : Int).toNat * 4) = ad from rfl] at hy
            subst hA
            have HY := Aside0.mk hy
            have hz1 : decide (0 < l.length) = true := decide_eq_true hz
            have hz2 : decide ((l.length : Int) > 0) = true := decide_eq_true (by omega)
            have hz3 : (0 : Int) < (l.length : Int) := by omega
            rw [hel] at he
            clear hy hle hrd hel
            generalize z.f3 = y at HY he
            clear z zs
            refine start_ (n := 39) (S := fun w' => w'.cell? ⟨w.heap.size, 0, none⟩ = some (.int .u64 x.f0) ∧ w'.cell? ⟨w.heap.size, 1, none⟩ = some (.string x.f1) ∧ w'.cell? ⟨w.heap.size, 2, none⟩ = some (.bool x.f2) ∧ w'.cell? ⟨w.heap.size, 3, none⟩ = some (.int .i64 x.f3) ∧ w'.cell? ⟨ad.block, ad.off + 3, none⟩ = some (.int .i64 y)) (ds := []) #[false, false, false, false, false, false, false, false, false, false, false, false, false, false, false, false, false, false, false, false, false, false, false, false, false, false, false, false, false, false, false, false, false, false, false, false, false, false, false] (by kernel_rfl) rfl rfl ⟨((blk_cell HK0.out 0).trans rfl), ((blk_cell HK0.out 1).trans rfl), ((blk_cell HK0.out 2).trans rfl), ((blk_cell HK0.out 3).trans rfl), HY.out⟩ (fun hHeld => ?_)
            refine pure_ (i := 0) (N := some 10) (v := ?_) (a' := ?_) (bs 39 1) rfl rfl (by kernel_rfl) (fun _ _ _ h => h) (Or.inl ⟨by rfl, ?_⟩) ?_ ?_; rotate_left; (· (intro w'; go_simp; with_reducible rfl)); rotate_left; (· (simp only [Act.put, List.setIfInBounds_toArray, List.set_cons_zero, List.set_cons_succ, i64_w, i32_w]; rfl))
            refine one_ (i := 1) (N := some 11) (bs 39 3) rfl rfl (by kernel_rfl) (by decide) (fun K hK => ?_)
            refine goes_ Try.func18 (by kernel_rfl) rfl #[.slice (some ad) l.length c] (by rfl) rfl rfl (by simp only [List.map_toArray, List.map_cons, List.map_nil]; rfl) ?_
            refine CK.out.mono ?_
            rintro e w4 ⟨rfl, hb⟩
            refine ⟨_, rfl, ?_⟩
            have HC4 := Aside0.mk (below_step (below_drew (Below.refl W0.heap.size W0)) hb)
            have HK4 := Aside0.mk ((hb.block _ (World.block_lt_of_cell? _ _ (blk_cell HK0.out 0))).trans HK0.out)
            clear hb CK
            refine hK.out _ _ ⟨((blk_cell HK4.out 0).trans rfl), ((blk_cell HK4.out 1).trans rfl), ((blk_cell HK4.out 2).trans rfl), ((blk_cell HK4.out 3).trans rfl), ((HC4.out.cell (World.block_lt_of_cell? _ _ HY.out)).trans HY.out)⟩ (fun hHeld => ?_)
            clear hK K
            refine norm_ (a' := ?_) ?_ ?_
            rotate_left
            · show Act.put _ (some 11) _ = _
              simp only [Act.put, List.setIfInBounds_toArray, List.set_cons_zero, List.set_cons_succ, i64_w, i32_w]
              rfl
            refine pure_ (i := 2) (N := some 12) (v := ?_) (a' := ?_) (bs 39 7) rfl rfl (by kernel_rfl) (fun _ _ _ h => h) (Or.inl ⟨by rfl, ?_⟩) ?_ ?_; rotate_left; (· (intro w'; go_simp; with_reducible rfl)); rotate_left; (· (simp only [Act.put, List.setIfInBounds_toArray, List.set_cons_zero, List.set_cons_succ, i64_w, i32_w]; rfl))
            refine pure_ (i := 3) (N := some 13) (v := ?_) (a' := ?_) (bs 39 15) rfl rfl (by kernel_rfl) (fun _ _ _ h => h) (Or.inl ⟨by rfl, ?_⟩) ?_ ?_; rotate_left; (· (intro w'; go_simp; with_reducible rfl)); rotate_left; (· (simp only [Act.put, List.setIfInBounds_toArray, List.set_cons_zero, List.set_cons_succ, i64_w, i32_w]; rfl))
            refine pure_ (i := 4) (N := some 14) (v := ?_) (a' := ?_) (bs 39 31) rfl rfl (by kernel_rfl) (fun _ _ _ h => h) (Or.inl ⟨by rfl, ?_⟩) ?_ ?_; rotate_left; (· (intro w'; go_simp; with_reducible rfl)); rotate_left; (· (simp only [Act.put, List.setIfInBounds_toArray, List.set_cons_zero, List.set_cons_succ, i64_w, i32_w]; rfl))
            refine pure_ (i := 5) (N := some 15) (v := ?_) (a' := ?_) (bs 39 63) rfl rfl (by kernel_rfl) (fun _ _ _ h => h) (Or.inl ⟨by rfl, ?_⟩) ?_ ?_; rotate_left; (· (intro w'; go_simp; with_reducible rfl)); rotate_left; (· (simp only [Act.put, List.setIfInBounds_toArray, List.set_cons_zero, List.set_cons_succ, i64_w, i32_w]; rfl))
            refine pure_ (i := 6) (N := some 16) (v := ?_) (a' := ?_) (bs 39 127) rfl rfl (by kernel_rfl) (fun _ _ _ h => h) (Or.inl ⟨by rfl, ?_⟩) ?_ ?_; rotate_left; (· (intro w'; go_simp; with_reducible rfl)); rotate_left; (· (simp only [Act.put, List.setIfInBounds_toArray, List.set_cons_zero, List.set_cons_succ, i64_w, i32_w]; rfl))
            refine pure_ (i := 7) (N := some 17) (v := ?_) (a' := ?_) (bs 39 255) rfl rfl (by kernel_rfl) (fun _ _ _ h => h) (Or.inl ⟨by rfl, ?_⟩) ?_ ?_; rotate_left; (· (intro w'; go_simp; with_reducible rfl)); rotate_left; (· (simp only [Act.put, List.setIfInBounds_toArray, List.set_cons_zero, List.set_cons_succ, i64_w, i32_w]; rfl))
            refine pure_ (i := 8) (N := some 18) (v := ?_) (a' := ?_) (bs 39 511) rfl rfl (by kernel_rfl) (fun _ _ _ h => h) (Or.inl ⟨by rfl, ?_⟩) ?_ ?_; rotate_left; (· (intro w'; go_simp; with_reducible rfl)); rotate_left; (· (simp only [Act.put, List.setIfInBounds_toArray, List.set_cons_zero, List.set_cons_succ, i64_w, i32_w]; rfl))
            refine pure_ (i := 9) (N := some 19) (v := ?_) (a' := ?_) (bs 39 1023) rfl rfl (by kernel_rfl) (fun _ _ _ h => h) (Or.inl ⟨by rfl, ?_⟩) ?_ ?_; rotate_left; (· (intro w'; go_simp; with_reducible rfl)); rotate_left; (· (simp only [Act.put, List.setIfInBounds_toArray, List.set_cons_zero, List.set_cons_succ, i64_w, i32_w]; rfl))
            refine pure_ (i := 10) (N := some 20) (v := ?_) (a' := ?_) (bs 39 2047) rfl rfl (by kernel_rfl) (fun _ _ _ h => h) (Or.inl ⟨by rfl, ?_⟩) ?_ ?_; rotate_left; (· (intro w'; go_simp; with_reducible rfl)); rotate_left; (· (simp only [Act.put, List.setIfInBounds_toArray, List.set_cons_zero, List.set_cons_succ, i64_w, i32_w]; rfl))
            refine pure_ (i := 11) (N := some 21) (v := ?_) (a' := ?_) (bs 39 4095) rfl rfl (by kernel_rfl) (fun _ _ _ h => h) (Or.inl ⟨by rfl, ?_⟩) ?_ ?_; rotate_left; (· (intro w'; go_simp; with_reducible rfl)); rotate_left; (· (simp only [Act.put, List.setIfInBounds_toArray, List.set_cons_zero, List.set_cons_succ, i64_w, i32_w]; rfl))
            refine take_ (i := 12) (N := some 22) (v := ?_) (a' := ?_) (bs 39 8191) rfl rfl (by kernel_rfl) (fun _ _ _ h => h) (Or.inl ⟨by rfl, ?_⟩) hHeld ?_ ?_; rotate_left; (· (rintro w' ⟨s0, s1, s2, s3, s4⟩; go_simp; with_reducible rfl)); rotate_left; (· (simp only [Act.put, List.setIfInBounds_toArray, List.set_cons_zero, List.set_cons_succ, i64_w, i32_w]; rfl))
            refine one_ (i := 13) (N := some 23) (bs 39 16383) rfl rfl (by kernel_rfl) (by decide) (fun K hK => ?_)
            refine goes_ Try.func29 (by kernel_rfl) rfl #[.agg #[.int .u64 x.f0, .string x.f1, .bool x.f2, .int .i64 x.f3]] (by rfl) rfl rfl (by simp only [List.map_toArray, List.map_cons, List.map_nil]; rfl) ?_
            with_reducible refine (cellarerref05_May.calls x.f0 x.f1 x.f2 x.f3 _ w4 HM.out).mono ?_
            rintro e w5 ⟨rfl, hb⟩
            refine ⟨_, rfl, ?_⟩
            have HK5 := Aside0.mk ((hb.block _ (World.block_lt_of_cell? _ _ (blk_cell HK4.out 0))).trans HK4.out)
            have HC5 := Aside0.mk (below_step HC4.out hb)
            clear hb
            refine hK.out _ _ ⟨((blk_cell HK5.out 0).trans rfl), ((blk_cell HK5.out 1).trans rfl), ((blk_cell HK5.out 2).trans rfl), ((blk_cell HK5.out 3).trans rfl), ((HC5.out.cell (World.block_lt_of_cell? _ _ HY.out)).trans HY.out)⟩ (fun hHeld => ?_)
            clear hK K
            refine norm_ (a' := ?_) ?_ ?_
            rotate_left
            · show Act.put _ (some 23) _ = _
              simp only [Act.put, List.setIfInBounds_toArray, List.set_cons_zero, List.set_cons_succ, i64_w, i32_w]
              rfl
            refine pure_ (i := 14) (N := some 24) (v := ?_) (a' := ?_) (bs 39 32767) rfl rfl (by kernel_rfl) (fun _ _ _ h => h) (Or.inl ⟨by rfl, ?_⟩) ?_ ?_; rotate_left; (· (intro w'; go_simp; with_reducible rfl)); rotate_left; (· (simp only [Act.put, List.setIfInBounds_toArray, List.set_cons_zero, List.set_cons_succ, i64_w, i32_w]; rfl))
            refine pure_ (i := 15) (N := some 25) (v := ?_) (a' := ?_) (bs 39 65535) rfl rfl (by kernel_rfl) (fun _ _ _ h => h) (Or.inl ⟨by rfl, ?_⟩) ?_ ?_; rotate_left; (· (intro w'; go_simp; with_reducible rfl)); rotate_left; (· (simp only [Act.put, List.setIfInBounds_toArray, List.set_cons_zero, List.set_cons_succ, i64_w, i32_w]; rfl))
            refine pure_ (i := 16) (N := some 26) (v := ?_) (a' := ?_) (bs 39 131071) rfl rfl (by kernel_rfl) (fun _ _ _ h => h) (Or.inl ⟨by rfl, ?_⟩) ?_ ?_; rotate_left; (· (intro w'; go_simp; with_reducible rfl)); rotate_left; (· (simp only [Act.put, List.setIfInBounds_toArray, List.set_cons_zero, List.set_cons_succ, i64_w, i32_w]; rfl))
            refine pure_ (i := 17) (N := some 27) (v := ?_) (a' := ?_) (bs 39 262143) rfl rfl (by kernel_rfl) (fun _ _ _ h => h) (Or.inl ⟨by rfl, ?_⟩) ?_ ?_; rotate_left; (· (intro w'; go_simp; with_reducible rfl)); rotate_left; (· (simp only [Act.put, List.setIfInBounds_toArray, List.set_cons_zero, List.set_cons_succ, i64_w, i32_w]; rfl))
            refine pure_ (i := 18) (N := some 28) (v := ?_) (a' := ?_) (bs 39 524287) rfl rfl (by kernel_rfl) (fun _ _ _ h => h) (Or.inl ⟨by rfl, ?_⟩) ?_ ?_; rotate_left; (· (intro w'; go_simp; with_reducible rfl)); rotate_left; (· (simp only [Act.put, List.setIfInBounds_toArray, List.set_cons_zero, List.set_cons_succ, i64_w, i32_w]; rfl))
            refine pure_ (i := 19) (N := some 29) (v := ?_) (a' := ?_) (bs 39 1048575) rfl rfl (by kernel_rfl) (fun _ _ _ h => h) (Or.inl ⟨by rfl, ?_⟩) ?_ ?_; rotate_left; (· (intro w'; go_simp; with_reducible rfl)); rotate_left; (· (simp only [Act.put, List.setIfInBounds_toArray, List.set_cons_zero, List.set_cons_succ, i64_w, i32_w]; rfl))
            refine pure_ (i := 20) (N := some 30) (v := undef) (a' := ?_) (bs 39 2097151) rfl rfl (by kernel_rfl) (fun _ _ _ h => h) (Or.inr ⟨by rfl, rfl⟩) ?_ ?_; rotate_left; (· (simp only [Act.put, List.setIfInBounds_toArray, List.set_cons_zero, List.set_cons_succ, i64_w, i32_w]; rfl))
            refine pure_ (i := 21) (N := some 31) (v := undef) (a' := ?_) (bs 39 4194303) rfl rfl (by kernel_rfl) (fun _ _ _ h => h) (Or.inr ⟨by rfl, rfl⟩) ?_ ?_; rotate_left; (· (simp only [Act.put, List.setIfInBounds_toArray, List.set_cons_zero, List.set_cons_succ, i64_w, i32_w]; rfl))
            refine pure_ (i := 22) (N := some 32) (v := undef) (a' := ?_) (bs 39 8388607) rfl rfl (by kernel_rfl) (fun _ _ _ h => h) (Or.inr ⟨by rfl, rfl⟩) ?_ ?_; rotate_left; (· (simp only [Act.put, List.setIfInBounds_toArray, List.set_cons_zero, List.set_cons_succ, i64_w, i32_w]; rfl))
            refine pure_ (i := 23) (N := some 33) (v := ?_) (a' := ?_) (bs 39 16777215) rfl rfl (by kernel_rfl) (fun _ _ _ h => h) (Or.inl ⟨by rfl, ?_⟩) ?_ ?_; rotate_left; (· (intro w'; go_simp; with_reducible rfl)); rotate_left; (· (simp only [Act.put, List.setIfInBounds_toArray, List.set_cons_zero, List.set_cons_succ, i64_w, i32_w]; rfl))
            refine pure_ (i := 24) (N := some 34) (v := ?_) (a' := ?_) (bs 39 33554431) rfl rfl (by kernel_rfl) (fun _ _ _ h => h) (Or.inl ⟨by rfl, ?_⟩) ?_ ?_; rotate_left; (· (intro w'; go_simp; with_reducible rfl)); rotate_left; (· (simp only [Act.put, List.setIfInBounds_toArray, List.set_cons_zero, List.set_cons_succ, i64_w, i32_w]; rfl))
            refine pure_ (i := 25) (N := some 35) (v := ?_) (a' := ?_) (bs 39 67108863) rfl rfl (by kernel_rfl) (fun _ _ _ h => h) (Or.inl ⟨by rfl, ?_⟩) ?_ ?_; rotate_left; (· (intro w'; go_simp; with_reducible rfl)); rotate_left; (· (simp only [Act.put, List.setIfInBounds_toArray, List.set_cons_zero, List.set_cons_succ, i64_w, i32_w]; rfl))
            refine pure_ (i := 26) (N := some 36) (v := ?_) (a' := ?_) (bs 39 134217727) rfl rfl (by kernel_rfl) (fun _ _ _ h => h) (Or.inl ⟨by rfl, ?_⟩) ?_ ?_; rotate_left; (· (intro w'; go_simp; with_reducible rfl)); rotate_left; (· (simp only [Act.put, List.setIfInBounds_toArray, List.set_cons_zero, List.set_cons_succ, i64_w, i32_w]; rfl))
            refine pure_ (i := 27) (N := some 37) (v := ?_) (a' := ?_) (bs 39 268435455) rfl rfl (by kernel_rfl) (fun _ _ _ h => h) (Or.inl ⟨by rfl, ?_⟩) ?_ ?_; rotate_left; (· (intro w'; go_simp; with_reducible rfl)); rotate_left; (· (simp only [Act.put, List.setIfInBounds_toArray, List.set_cons_zero, List.set_cons_succ, i64_w, i32_w]; rfl))
            refine pure_ (i := 28) (N := some 38) (v := ?_) (a' := ?_) (bs 39 536870911) rfl rfl (by kernel_rfl) (fun _ _ _ h => h) (Or.inl ⟨by rfl, ?_⟩) ?_ ?_; rotate_left; (· (intro w'; go_simp; with_reducible rfl)); rotate_left; (· (simp only [Act.put, List.setIfInBounds_toArray, List.set_cons_zero, List.set_cons_succ, i64_w, i32_w]; rfl))
            refine pure_ (i := 29) (N := some 39) (v := ?_) (a' := ?_) (bs 39 1073741823) rfl rfl (by kernel_rfl) (fun _ _ _ h => h) (Or.inl ⟨by rfl, ?_⟩) ?_ ?_; rotate_left; (· (intro w'; go_simp; with_reducible rfl)); rotate_left; (· (simp only [Act.put, List.setIfInBounds_toArray, List.set_cons_zero, List.set_cons_succ, i64_w, i32_w]; rfl))
            refine pure_ (i := 30) (N := some 40) (v := ?_) (a' := ?_) (bs 39 2147483647) rfl rfl (by kernel_rfl) (fun _ _ _ h => h) (Or.inl ⟨by rfl, ?_⟩) ?_ ?_; rotate_left; (· (intro w'; go_simp; with_reducible rfl)); rotate_left; (· (simp only [Act.put, List.setIfInBounds_toArray, List.set_cons_zero, List.set_cons_succ, i64_w, i32_w]; rfl))
            refine pure_ (i := 32) (N := some 42) (v := ?_) (a' := ?_) (bs 39 6442450943) rfl rfl (by kernel_rfl) (fun _ _ _ h => h) (Or.inl ⟨by rfl, ?_⟩) ?_ ?_; rotate_left; (· (intro w'; go_simp; with_reducible rfl)); rotate_left; (· (simp only [Act.put, List.setIfInBounds_toArray, List.set_cons_zero, List.set_cons_succ, i64_w, i32_w]; rfl))
            refine pure_ (i := 33) (N := some 43) (v := ?_) (a' := ?_) (bs 39 15032385535) rfl rfl (by kernel_rfl) (fun _ _ _ h => h) (Or.inl ⟨by rfl, ?_⟩) ?_ ?_; rotate_left; (· (intro w'; go_simp; with_reducible rfl)); rotate_left; (· (simp only [Act.put, List.setIfInBounds_toArray, List.set_cons_zero, List.set_cons_succ, i64_w, i32_w]; rfl))
            refine pure_ (i := 34) (N := some 44) (v := ?_) (a' := ?_) (bs 39 32212254719) rfl rfl (by kernel_rfl) (fun _ _ _ h => h) (Or.inl ⟨by rfl, ?_⟩) ?_ ?_; rotate_left; (· (intro w'; go_simp; with_reducible rfl)); rotate_left; (· (simp only [Act.put, List.setIfInBounds_toArray, List.set_cons_zero, List.set_cons_succ, i64_w, i32_w]; rfl))
            refine take_ (i := 31) (N := some 41) (v := ?_) (a' := ?_) (bs 39 34359738367) rfl rfl (by kernel_rfl) (fun _ _ _ h => h) (Or.inl ⟨by rfl, ?_⟩) hHeld ?_ ?_; rotate_left; (· (rintro w' ⟨s0, s1, s2, s3, s4⟩; go_simp; with_reducible rfl)); rotate_left; (· (simp only [Act.put, List.setIfInBounds_toArray, List.set_cons_zero, List.set_cons_succ, i64_w, i32_w]; rfl))
            refine take_ (i := 35) (N := some 45) (v := ?_) (a' := ?_) (bs 39 68719476735) rfl rfl (by kernel_rfl) (fun _ _ _ h => h) (Or.inl ⟨by rfl, ?_⟩) hHeld ?_ ?_; rotate_left; (· (rintro w' ⟨s0, s1, s2, s3, s4⟩; go_simp; with_reducible rfl)); rotate_left; (· (simp only [Act.put, List.setIfInBounds_toArray, List.set_cons_zero, List.set_cons_succ, i64_w, i32_w]; rfl))
            refine pure_ (i := 36) (N := some 46) (v := ?_) (a' := ?_) (bs 39 137438953471) rfl rfl (by kernel_rfl) (fun _ _ _ h => h) (Or.inl ⟨by rfl, ?_⟩) ?_ ?_; rotate_left; (· (intro w'; go_simp; with_reducible rfl)); rotate_left; (· (simp only [Act.put, List.setIfInBounds_toArray, List.set_cons_zero, List.set_cons_succ, i64_w, i32_w]; rfl))
            refine pure_ (i := 37) (N := some 47) (v := ?_) (a' := ?_) (bs 39 274877906943) rfl rfl (by kernel_rfl) (fun _ _ _ h => h) (Or.inl ⟨by rfl, ?_⟩) ?_ ?_; rotate_left; (· (intro w'; go_simp; with_reducible rfl)); rotate_left; (· (simp only [Act.put, List.setIfInBounds_toArray, List.set_cons_zero, List.set_cons_succ, i64_w, i32_w]; rfl))
            refine pure_ (i := 38) (N := some 48) (v := ?_) (a' := ?_) (bs 39 549755813887) rfl rfl (by kernel_rfl) (fun _ _ _ h => h) (Or.inl ⟨by rfl, ?_⟩) ?_ ?_; rotate_left; (· (intro w'; go_simp; with_reducible rfl)); rotate_left; (· (simp only [Act.put, List.setIfInBounds_toArray, List.set_cons_zero, List.set_cons_succ, i64_w, i32_w]; rfl))
            refine done_ (by kernel_rfl) ?_
            go_wp2_with fail
            go_ret2
            rw [HF.out]
            exact ⟨_, rfl, Kd.R_nil _ _ _ _ _, below_step HB0.out HC5.out⟩

set_option maxRecDepth 100000 in
set_option maxHeartbeats 16000000 in
theorem put_ahead_any (A : Option Addr) (c : Nat) (l : List V) (s : Int) (x : V) (w : World) (hr : Kd.C k25 w A l.length l) (hc : l.length ≤ c) (hl : l.length ≤ 1000) (hw : ∀ v ∈ l, 0 ≤ v.f0) (hb : badB l s x = false) (h1 : s = 1) :
    Calls Try.prog 13 #[.slice A l.length c, .int .i64 s, ver x] w (Post w (putF l s x)) := by
  have hu := Try.underlying25
  unfold ver
  obtain ⟨k, hk⟩ := (ref_check l hl hw).rounds
  obtain ⟨W0, hW0⟩ : ∃ W0, W0 = w.alloc (.cells #[.int .u64 x.f0, .string x.f1, .bool x.f2, .int .i64 x.f3] 25) := ⟨_, rfl⟩
  have HB0 : Aside0 (Below w.heap.size w W0) := ⟨by rw [hW0]; exact below_alloc (Below.refl _ _) _⟩
  have HK0 : Aside0 (W0.heap[w.heap.size]? = some (.cells #[.int .u64 x.f0, .string x.f1, .bool x.f2, .int .i64 x.f3] 25 (0, 0))) := ⟨by rw [hW0]; exact Array.getElem?_push_size⟩
  have HR0 : Aside0 (Kd.C k25 W0 A l.length l) := ⟨Kd.C_below hr HB0.out⟩
  have CK := cellarerref05_Check.calls k A c l _ W0.drew (Kd.C_drew HR0.out) hc hk
  have HR := Aside0.mk hr
  have HC0 := Aside0.mk hc
  clear hr hc hk
  have hb' := hb
  simp only [badB, Bool.or_eq_false_iff, Bool.not_eq_false', Bool.and_eq_false_iff, decide_eq_false_iff_not] at hb'
  obtain ⟨hq, h0, h2, hm, h5, he⟩ := hb'
  rw [hq] at CK
  have CK := Aside0.mk CK
  have h0b : decide (s < 0) = false := decide_eq_false h0
  have h2b : decide (2 < s) = false := decide_eq_false h2
  have h2c : decide (s > 2) = false := decide_eq_false h2
  have HM : Aside0 (cellarerref05_May.f x.f0 x.f1 x.f2 x.f3 = some true) := ⟨by rw [may_is, hm]⟩
  obtain ⟨hid, hput⟩ := good_put hb
  clear hq h0 h2 hm hb
  have hx0 := hid h1
  subst h1
  have HP := Aside0.mk hput
  have HX := Aside0.mk hx0
  clear hput hid hx0 h5
  go_enter Try.func13, Try.ntmps13
  go_upto_region 1 with (fail)
  rw [← hW0]
  clear hW0
  go_cut [48] (fun v48 wc => v48 = .bool false ∧ Aside0 (Below w.heap.size w wc) ∧ Aside0 (wc.heap[w.heap.size]? = some (.cells #[.int .u64 x.f0, .string x.f1, .bool x.f2, .int .i64 x.f3] 25 (0, 0))))
  case first =>
    have h1b : ((1 : Int) == 1) = true := rfl
    have hidb : (x.f0 == 0) = false := by simpa using HX.out
    clear HP HX HR
    by_cases hle : l = []
    · skip
      have hz : l.length = 0 := by rw [hle]; rfl
      have hz1 : decide (0 < l.length) = false := decide_eq_false (by omega)
      have hz2 : decide ((l.length : Int) > 0) = false := decide_eq_false (by omega)
      clear hle hz he
      refine start_ (n := 39) (S := fun w' => w'.cell? ⟨w.heap.size, 0, none⟩ = some (.int .u64 x.f0) ∧ w'.cell? ⟨w.heap.size, 1, none⟩ = some (.string x.f1) ∧ w'.cell? ⟨w.heap.size, 2, none⟩ = some (.bool x.f2) ∧ w'.cell? ⟨w.heap.size, 3, none⟩ = some (.int .i64 x.f3)) (ds := []) #[false, false, false, false, false, false, false, false, false, false, false, false, false, false, false, false, false, false, false, false, false, false, false, false, false, false, false, false, false, false, false, false, false, false, false, false, false, false, false] (by kernel_rfl) rfl rfl ⟨((blk_cell HK0.out 0).trans rfl), ((blk_cell HK0.out 1).trans rfl), ((blk_cell HK0.out 2).trans rfl), ((blk_cell HK0.out 3).trans rfl)⟩ (fun hHeld => ?_)
      refine pure_ (i := 0) (N := some 10) (v := ?_) (a' := ?_) (bs 39 1) rfl rfl (by kernel_rfl) (fun _ _ _ h => h) (Or.inl ⟨by rfl, ?_⟩) ?_ ?_; rotate_left; (· (intro w'; go_simp; with_reducible rfl)); rotate_left; (· (simp only [Act.put, List.setIfInBounds_toArray, List.set_cons_zero, List.set_cons_succ, i64_w, i32_w]; rfl))
      refine one_ (i := 1) (N := some 11) (bs 39 3) rfl rfl (by kernel_rfl) (by decide) (fun K hK => ?_)
      refine goes_ Try.func18 (by kernel_rfl) rfl #[.slice A l.length c] (by rfl) rfl rfl (by simp only [List.map_toArray, List.map_cons, List.map_nil]; rfl) ?_
      refine CK.out.mono ?_
      rintro e w4 ⟨rfl, hb⟩
      refine ⟨_, rfl, ?_⟩
      have HC4 := Aside0.mk (below_step (below_drew (Below.refl W0.heap.size W0)) hb)
      have HK4 := Aside0.mk ((hb.block _ (World.block_lt_of_cell? _ _ (blk_cell HK0.out 0))).trans HK0.out)
      clear hb CK
      refine hK.out _ _ ⟨((blk_cell HK4.out 0).trans rfl), ((blk_cell HK4.out 1).trans rfl), ((blk_cell HK4.out 2).trans rfl), ((blk_cell HK4.out 3).trans rfl)⟩ (fun hHeld => ?_)
      clear hK K
      refine norm_ (a' := ?_) ?_ ?_
      rotate_left
      · show Act.put _ (some 11) _ = _
        simp only [Act.put, List.setIfInBounds_toArray, List.set_cons_zero, List.set_cons_succ, i64_w, i32_w]
        rfl
      refine pure_ (i := 2) (N := some 12) (v := ?_) (a' := ?_) (bs 39 7) rfl rfl (by kernel_rfl) (fun _ _ _ h => h) (Or.inl ⟨by rfl, ?_⟩) ?_ ?_; rotate_left; (· (intro w'; go_simp; with_reducible rfl)); rotate_left; (· (simp only [Act.put, List.setIfInBounds_toArray, List.set_cons_zero, List.set_cons_succ, i64_w, i32_w]; rfl))
      refine pure_ (i := 3) (N := some 13) (v := ?_) (a' := ?_) (bs 39 15) rfl rfl (by kernel_rfl) (fun _ _ _ h => h) (Or.inl ⟨by rfl, ?_⟩) ?_ ?_; rotate_left; (· (intro w'; go_simp; with_reducible rfl)); rotate_left; (· (simp only [Act.put, List.setIfInBounds_toArray, List.set_cons_zero, List.set_cons_succ, i64_w, i32_w]; rfl))
      refine pure_ (i := 4) (N := some 14) (v := ?_) (a' := ?_) (bs 39 31) rfl rfl (by kernel_rfl) (fun _ _ _ h => h) (Or.inl ⟨by rfl, ?_⟩) ?_ ?_; rotate_left; (· (intro w'; go_simp; with_reducible rfl)); rotate_left; (· (simp only [Act.put, List.setIfInBounds_toArray, List.set_cons_zero, List.set_cons_succ, i64_w, i32_w]; rfl))
      refine pure_ (i := 5) (N := some 15) (v := ?_) (a' := ?_) (bs 39 63) rfl rfl (by kernel_rfl) (fun _ _ _ h => h) (Or.inl ⟨by rfl, ?_⟩) ?_ ?_; rotate_left; (· (intro w'; go_simp; with_reducible rfl)); rotate_left; (· (simp only [Act.put, List.setIfInBounds_toArray, List.set_cons_zero, List.set_cons_succ, i64_w, i32_w]; rfl))
      refine pure_ (i := 6) (N := some 16) (v := ?_) (a' := ?_) (bs 39 127) rfl rfl (by kernel_rfl) (fun _ _ _ h => h) (Or.inl ⟨by rfl, ?_⟩) ?_ ?_; rotate_left; (· (intro w'; go_simp; with_reducible rfl)); rotate_left; (· (simp only [Act.put, List.setIfInBounds_toArray, List.set_cons_zero, List.set_cons_succ, i64_w, i32_w]; rfl))
      refine pure_ (i := 7) (N := some 17) (v := ?_) (a' := ?_) (bs 39 255) rfl rfl (by kernel_rfl) (fun _ _ _ h => h) (Or.inl ⟨by rfl, ?_⟩) ?_ ?_; rotate_left; (· (intro w'; go_simp; with_reducible rfl)); rotate_left; (· (simp only [Act.put, List.setIfInBounds_toArray, List.set_cons_zero, List.set_cons_succ, i64_w, i32_w]; rfl))
      refine pure_ (i := 8) (N := some 18) (v := ?_) (a' := ?_) (bs 39 511) rfl rfl (by kernel_rfl) (fun _ _ _ h => h) (Or.inl ⟨by rfl, ?_⟩) ?_ ?_; rotate_left; (· (intro w'; go_simp; with_reducible rfl)); rotate_left; (· (simp only [Act.put, List.setIfInBounds_toArray, List.set_cons_zero, List.set_cons_succ, i64_w, i32_w]; rfl))
      refine pure_ (i := 9) (N := some 19) (v := ?_) (a' := ?_) (bs 39 1023) rfl rfl (by kernel_rfl) (fun _ _ _ h => h) (Or.inl ⟨by rfl, ?_⟩) ?_ ?_; rotate_left; (· (intro w'; go_simp; with_reducible rfl)); rotate_left; (· (simp only [Act.put, List.setIfInBounds_toArray, List.set_cons_zero, List.set_cons_succ, i64_w, i32_w]; rfl))
      refine pure_ (i := 10) (N := some 20) (v := ?_) (a' := ?_) (bs 39 2047) rfl rfl (by kernel_rfl) (fun _ _ _ h => h) (Or.inl ⟨by rfl, ?_⟩) ?_ ?_; rotate_left; (· (intro w'; go_simp; with_reducible rfl)); rotate_left; (· (simp only [Act.put, List.setIfInBounds_toArray, List.set_cons_zero, List.set_cons_succ, i64_w, i32_w]; rfl))
      refine pure_ (i := 11) (N := some 21) (v := ?_) (a' := ?_) (bs 39 4095) rfl rfl (by kernel_rfl) (fun _ _ _ h => h) (Or.inl ⟨by rfl, ?_⟩) ?_ ?_; rotate_left; (· (intro w'; go_simp; with_reducible rfl)); rotate_left; (· (simp only [Act.put, List.setIfInBounds_toArray, List.set_cons_zero, List.set_cons_succ, i64_w, i32_w]; rfl))
      refine take_ (i := 12) (N := some 22) (v := ?_) (a' := ?_) (bs 39 8191) rfl rfl (by kernel_rfl) (fun _ _ _ h => h) (Or.inl ⟨by rfl, ?_⟩) hHeld ?_ ?_; rotate_left; (· (rintro w' ⟨s0, s1, s2, s3⟩; go_simp; with_reducible rfl)); rotate_left; (· (simp only [Act.put, List.setIfInBounds_toArray, List.set_cons_zero, List.set_cons_succ, i64_w, i32_w]; rfl))
      refine one_ (i := 13) (N := some 23) (bs 39 16383) rfl rfl (by kernel_rfl) (by decide) (fun K hK => ?_)
      refine goes_ Try.func29 (by kernel_rfl) rfl #[.agg #[.int .u64 x.f0, .string x.f1, .bool x.f2, .int .i64 x.f3]] (by rfl) rfl rfl (by simp only [List.map_toArray, List.map_cons, List.map_nil]; rfl) ?_
      with_reducible refine (cellarerref05_May.calls x.f0 x.f1 x.f2 x.f3 _ w4 HM.out).mono ?_
      rintro e w5 ⟨rfl, hb⟩
      refine ⟨_, rfl, ?_⟩
      have HK5 := Aside0.mk ((hb.block _ (World.block_lt_of_cell? _ _ (blk_cell HK4.out 0))).trans HK4.out)
      have HC5 := Aside0.mk (below_step HC4.out hb)
      clear hb
      refine hK.out _ _ ⟨((blk_cell HK5.out 0).trans rfl), ((blk_cell HK5.out 1).trans rfl), ((blk_cell HK5.out 2).trans rfl), ((blk_cell HK5.out 3).trans rfl)⟩ (fun hHeld => ?_)
      clear hK K
      refine norm_ (a' := ?_) ?_ ?_
      rotate_left
      · show Act.put _ (some 23) _ = _
        simp only [Act.put, List.setIfInBounds_toArray, List.set_cons_zero, List.set_cons_succ, i64_w, i32_w]
        rfl
      refine pure_ (i := 14) (N := some 24) (v := ?_) (a' := ?_) (bs 39 32767) rfl rfl (by kernel_rfl) (fun _ _ _ h => h) (Or.inl ⟨by rfl, ?_⟩) ?_ ?_; rotate_left; (· (intro w'; go_simp; with_reducible rfl)); rotate_left; (· (simp only [Act.put, List.setIfInBounds_toArray, List.set_cons_zero, List.set_cons_succ, i64_w, i32_w]; rfl))
      refine pure_ (i := 15) (N := some 25) (v := ?_) (a' := ?_) (bs 39 65535) rfl rfl (by kernel_rfl) (fun _ _ _ h => h) (Or.inl ⟨by rfl, ?_⟩) ?_ ?_; rotate_left; (· (intro w'; go_simp; with_reducible rfl)); rotate_left; (· (simp only [Act.put, List.setIfInBounds_toArray, List.set_cons_zero, List.set_cons_succ, i64_w, i32_w]; rfl))
      refine pure_ (i := 16) (N := some 26) (v := ?_) (a' := ?_) (bs 39 131071) rfl rfl (by kernel_rfl) (fun _ _ _ h => h) (Or.inl ⟨by rfl, ?_⟩) ?_ ?_; rotate_left; (· (intro w'; go_simp; with_reducible rfl)); rotate_left; (· (simp only [Act.put, List.setIfInBounds_toArray, List.set_cons_zero, List.set_cons_succ, i64_w, i32_w]; rfl))
      refine pure_ (i := 17) (N := some 27) (v := ?_) (a' := ?_) (bs 39 262143) rfl rfl (by kernel_rfl) (fun _ _ _ h => h) (Or.inl ⟨by rfl, ?_⟩) ?_ ?_; rotate_left; (· (intro w'; go_simp; with_reducible rfl)); rotate_left; (· (simp only [Act.put, List.setIfInBounds_toArray, List.set_cons_zero, List.set_cons_succ, i64_w, i32_w]; rfl))
      refine pure_ (i := 18) (N := some 28) (v := ?_) (a' := ?_) (bs 39 524287) rfl rfl (by kernel_rfl) (fun _ _ _ h => h) (Or.inl ⟨by rfl, ?_⟩) ?_ ?_; rotate_left; (· (intro w'; go_simp; with_reducible rfl)); rotate_left; (· (simp only [Act.put, List.setIfInBounds_toArray, List.set_cons_zero, List.set_cons_succ, i64_w, i32_w]; rfl))
      refine pure_ (i := 19) (N := some 29) (v := ?_) (a' := ?_) (bs 39 1048575) rfl rfl (by kernel_rfl) (fun _ _ _ h => h) (Or.inl ⟨by rfl, ?_⟩) ?_ ?_; rotate_left; (· (intro w'; go_simp; with_reducible rfl)); rotate_left; (· (simp only [Act.put, List.setIfInBounds_toArray, List.set_cons_zero, List.set_cons_succ, i64_w, i32_w]; rfl))
      refine pure_ (i := 20) (N := some 30) (v := ?_) (a' := ?_) (bs 39 2097151) rfl rfl (by kernel_rfl) (fun _ _ _ h => h) (Or.inl ⟨by rfl, ?_⟩) ?_ ?_; rotate_left; (· (intro w'; go_simp; with_reducible rfl)); rotate_left; (· (simp only [Act.put, List.setIfInBounds_toArray, List.set_cons_zero, List.set_cons_succ, i64_w, i32_w]; rfl))
      refine take_ (i := 21) (N := some 31) (v := ?_) (a' := ?_) (bs 39 4194303) rfl rfl (by kernel_rfl) (fun _ _ _ h => h) (Or.inl ⟨by rfl, ?_⟩) hHeld ?_ ?_; rotate_left; (· (rintro w' ⟨s0, s1, s2, s3⟩; go_simp; with_reducible rfl)); rotate_left; (· (simp only [Act.put, List.setIfInBounds_toArray, List.set_cons_zero, List.set_cons_succ, i64_w, i32_w]; rfl))
      refine pure_ (i := 22) (N := some 32) (v := ?_) (a' := ?_) (bs 39 8388607) rfl rfl (by kernel_rfl) (fun _ _ _ h => h) (Or.inl ⟨by rfl, ?_⟩) ?_ ?_; rotate_left; (· (intro w'; go_simp; with_reducible rfl)); rotate_left; (· (simp only [Act.put, List.setIfInBounds_toArray, List.set_cons_zero, List.set_cons_succ, i64_w, i32_w]; rfl))
      refine pure_ (i := 23) (N := some 33) (v := ?_) (a' := ?_) (bs 39 16777215) rfl rfl (by kernel_rfl) (fun _ _ _ h => h) (Or.inl ⟨by rfl, ?_⟩) ?_ ?_; rotate_left; (· (intro w'; go_simp; with_reducible rfl)); rotate_left; (· (simp only [Act.put, List.setIfInBounds_toArray, List.set_cons_zero, List.set_cons_succ, i64_w, i32_w]; rfl))
      refine pure_ (i := 24) (N := some 34) (v := ?_) (a' := ?_) (bs 39 33554431) rfl rfl (by kernel_rfl) (fun _ _ _ h => h) (Or.inl ⟨by rfl, ?_⟩) ?_ ?_; rotate_left; (· (intro w'; go_simp; with_reducible rfl)); rotate_left; (· (simp only [Act.put, List.setIfInBounds_toArray, List.set_cons_zero, List.set_cons_succ, i64_w, i32_w]; rfl))
      refine pure_ (i := 25) (N := some 35) (v := ?_) (a' := ?_) (bs 39 67108863) rfl rfl (by kernel_rfl) (fun _ _ _ h => h) (Or.inl ⟨by rfl, ?_⟩) ?_ ?_; rotate_left; (· (intro w'; go_simp; with_reducible rfl)); rotate_left; (· (simp only [Act.put, List.setIfInBounds_toArray, List.set_cons_zero, List.set_cons_succ, i64_w, i32_w]; rfl))
      refine pure_ (i := 26) (N := some 36) (v := ?_) (a' := ?_) (bs 39 134217727) rfl rfl (by kernel_rfl) (fun _ _ _ h => h) (Or.inl ⟨by rfl, ?_⟩) ?_ ?_; rotate_left; (· (intro w'; go_simp; with_reducible rfl)); rotate_left; (· (simp only [Act.put, List.setIfInBounds_toArray, List.set_cons_zero, List.set_cons_succ, i64_w, i32_w]; rfl))
      refine pure_ (i := 27) (N := some 37) (v := ?_) (a' := ?_) (bs 39 268435455) rfl rfl (by kernel_rfl) (fun _ _ _ h => h) (Or.inl ⟨by rfl, ?_⟩) ?_ ?_; rotate_left; (· (intro w'; go_simp; with_reducible rfl)); rotate_left; (· (simp only [Act.put, List.setIfInBounds_toArray, List.set_cons_zero, List.set_cons_succ, i64_w, i32_w]; rfl))
      refine pure_ (i := 28) (N := some 38) (v := ?_) (a' := ?_) (bs 39 536870911) rfl rfl (by kernel_rfl) (fun _ _ _ h => h) (Or.inl ⟨by rfl, ?_⟩) ?_ ?_; rotate_left; (· (intro w'; go_simp; with_reducible rfl)); rotate_left; (· (simp only [Act.put, List.setIfInBounds_toArray, List.set_cons_zero, List.set_cons_succ, i64_w, i32_w]; rfl))
      refine pure_ (i := 29) (N := some 39) (v := ?_) (a' := ?_) (bs 39 1073741823) rfl rfl (by kernel_rfl) (fun _ _ _ h => h) (Or.inl ⟨by rfl, ?_⟩) ?_ ?_; rotate_left; (· (intro w'; go_simp; with_reducible rfl)); rotate_left; (· (simp only [Act.put, List.setIfInBounds_toArray, List.set_cons_zero, List.set_cons_succ, i64_w, i32_w]; rfl))
      refine pure_ (i := 30) (N := some 40) (v := undef) (a' := ?_) (bs 39 2147483647) rfl rfl (by kernel_rfl) (fun _ _ _ h => h) (Or.inr ⟨by rfl, rfl⟩) ?_ ?_; rotate_left; (· (simp only [Act.put, List.setIfInBounds_toArray, List.set_cons_zero, List.set_cons_succ, i64_w, i32_w]; rfl))
      refine pure_ (i := 31) (N := some 41) (v := undef) (a' := ?_) (bs 39 4294967295) rfl rfl (by kernel_rfl) (fun _ _ _ h => h) (Or.inr ⟨by rfl, rfl⟩) ?_ ?_; rotate_left; (· (simp only [Act.put, List.setIfInBounds_toArray, List.set_cons_zero, List.set_cons_succ, i64_w, i32_w]; rfl))
      refine pure_ (i := 32) (N := some 42) (v := undef) (a' := ?_) (bs 39 8589934591) rfl rfl (by kernel_rfl) (fun _ _ _ h => h) (Or.inr ⟨by rfl, rfl⟩) ?_ ?_; rotate_left; (· (simp only [Act.put, List.setIfInBounds_toArray, List.set_cons_zero, List.set_cons_succ, i64_w, i32_w]; rfl))
      refine pure_ (i := 33) (N := some 43) (v := undef) (a' := ?_) (bs 39 17179869183) rfl rfl (by kernel_rfl) (fun _ _ _ h => h) (Or.inr ⟨by rfl, rfl⟩) ?_ ?_; rotate_left; (· (simp only [Act.put, List.setIfInBounds_toArray, List.set_cons_zero, List.set_cons_succ, i64_w, i32_w]; rfl))
      refine pure_ (i := 34) (N := some 44) (v := undef) (a' := ?_) (bs 39 34359738367) rfl rfl (by kernel_rfl) (fun _ _ _ h => h) (Or.inr ⟨by rfl, rfl⟩) ?_ ?_; rotate_left; (· (simp only [Act.put, List.setIfInBounds_toArray, List.set_cons_zero, List.set_cons_succ, i64_w, i32_w]; rfl))
      refine pure_ (i := 35) (N := some 45) (v := undef) (a' := ?_) (bs 39 68719476735) rfl rfl (by kernel_rfl) (fun _ _ _ h => h) (Or.inr ⟨by rfl, rfl⟩) ?_ ?_; rotate_left; (· (simp only [Act.put, List.setIfInBounds_toArray, List.set_cons_zero, List.set_cons_succ, i64_w, i32_w]; rfl))
      refine pure_ (i := 36) (N := some 46) (v := undef) (a' := ?_) (bs 39 137438953471) rfl rfl (by kernel_rfl) (fun _ _ _ h => h) (Or.inr ⟨by rfl, rfl⟩) ?_ ?_; rotate_left; (· (simp only [Act.put, List.setIfInBounds_toArray, List.set_cons_zero, List.set_cons_succ, i64_w, i32_w]; rfl))
      refine pure_ (i := 37) (N := some 47) (v := ?_) (a' := ?_) (bs 39 274877906943) rfl rfl (by kernel_rfl) (fun _ _ _ h => h) (Or.inl ⟨by rfl, ?_⟩) ?_ ?_; rotate_left; (· (intro w'; go_simp; with_reducible rfl)); rotate_left; (· (simp only [Act.put, List.setIfInBounds_toArray, List.set_cons_zero, List.set_cons_succ, i64_w, i32_w]; rfl))
      refine pure_ (i := 38) (N := some 48) (v := ?_) (a' := ?_) (bs 39 549755813887) rfl rfl (by kernel_rfl) (fun _ _ _ h => h) (Or.inl ⟨by rfl, ?_⟩) ?_ ?_; rotate_left; (· (intro w'; go_simp; with_reducible rfl)); rotate_left; (· (simp only [Act.put, List.setIfInBounds_toArray, List.set_cons_zero, List.set_cons_succ, i64_w, i32_w]; rfl))
      refine done_ (by kernel_rfl) ?_
      try go_wp2
      go_meet
      case rel => exact ⟨by first | rfl | simp, ⟨below_step HB0.out HC5.out⟩, ⟨HK5.out⟩⟩
    · skip
      obtain ⟨z, zs, hle⟩ := List.exists_cons_of_ne_nil hle
      have hrd : rd_T25 l 0 = z := by rw [hle]; rfl
      have hz : 0 < l.length := by rw [hle]; simp
      have hel : elder l x = decide (x.f3 < z.f3) := by rw [hle]; rfl
      obtain ⟨ad, hA, _, _, _, hy⟩ := at_T25 HR0.out (0 : Int) (by omega) (by omega)
      rw [hrd, show ad.add ((0 : Int).toNat * 4) = ad from rfl] at hy
      subst hA
      have HY := Aside0.mk hy
      have hz1 : decide (0 < l.length) = true := decide_eq_true hz
      have hz2 : decide ((l.length : Int) > 0) = true := decide_eq_true (by omega)
      have hz3 : (0 : Int) < (l.length : Int) := by omega
      rw [hel] at he
      clear hy hle hrd hel
      generalize z.f3 = y at HY he
      clear z zs
      refine start_ (n := 39) (S := fun w' => w'.cell? ⟨w.heap.size, 0, none⟩ = some (.int .u64 x.f0) ∧ w'.cell? ⟨w.heap.size, 1, none⟩ = some (.string x.f1) ∧ w'.cell? ⟨w.heap.size, 2, none⟩ = some (.bool x.f2) ∧ w'.cell? ⟨w.heap.size, 3, none⟩ = some (.int .i64 x.f3) ∧ w'.cell? ⟨ad.block, ad.off + 3, none⟩ = some (.int .i64 y)) (ds := []) #[false, false, false, false, false, false, false, false, false, false, false, false, false, false, false, false, false, false, false, false, false, false, false, false, false, false, false, false, false, false, false, false, false, false, false, false, false, false, false] (by kernel_rfl) rfl rfl ⟨((blk_cell HK0.out 0).trans rfl), ((blk_cell HK0.out 1).trans rfl), ((blk_cell HK0.out 2).trans rfl), ((blk_cell HK0.out 3).trans rfl), HY.out⟩ (fun hHeld => ?_)
      refine pure_ (i := 0) (N := some 10) (v := ?_) (a' := ?_) (bs 39 1) rfl rfl (by kernel_rfl) (fun _ _ _ h => h) (Or.inl ⟨by rfl, ?_⟩) ?_ ?_; rotate_left; (· (intro w'; go_simp; with_reducible rfl)); rotate_left; (· (simp only [Act.put, List.setIfInBounds_toArray, List.set_cons_zero, List.set_cons_succ, i64_w, i32_w]; rfl))
      refine one_ (i := 1) (N := some 11) (bs 39 3) rfl rfl (by kernel_rfl) (by decide) (fun K hK => ?_)
      refine goes_ Try.func18 (by kernel_rfl) rfl #[.slice (some ad) l.length c] (by rfl) rfl rfl (by simp only [List.map_toArray, List.map_cons, List.map_nil]; rfl) ?_
      refine CK.out.mono ?_
      rintro e w4 ⟨rfl, hb⟩
      refine ⟨_, rfl, ?_⟩
      have HC4 := Aside0.mk (below_step (below_drew (Below.refl W0.heap.size W0)) hb)
      have HK4 := Aside0.mk ((hb.block _ (World.block_lt_of_cell? _ _ (blk_cell HK0.out 0))).trans HK0.out)
      clear hb CK
      refine hK.out _ _ ⟨((blk_cell HK4.out 0).trans rfl), ((blk_cell HK4.out 1).trans rfl), ((blk_cell HK4.out 2).trans rfl), ((blk_cell HK4.out 3).trans rfl), ((HC4.out.cell (World.block_lt_of_cell? _ _ HY.out)).trans HY.out)⟩ (fun hHeld => ?_)
      clear hK K
      refine norm_ (a' := ?_) ?_ ?_
      rotate_left
      · show Act.put _ (some 11) _ = _
        simp only [Act.put, List.setIfInBounds_toArray, List.set_cons_zero, List.set_cons_succ, i64_w, i32_w]
        rfl
      refine pure_ (i := 2) (N := some 12) (v := ?_) (a' := ?_) (bs 39 7) rfl rfl (by kernel_rfl) (fun _ _ _ h => h) (Or.inl ⟨by rfl, ?_⟩) ?_ ?_; rotate_left; (· (intro w'; go_simp; with_reducible rfl)); rotate_left; (· (simp only [Act.put, List.setIfInBounds_toArray, List.set_cons_zero, List.set_cons_succ, i64_w, i32_w]; rfl))
      refine pure_ (i := 3) (N := some 13) (v := ?_) (a' := ?_) (bs 39 15) rfl rfl (by kernel_rfl) (fun _ _ _ h => h) (Or.inl ⟨by rfl, ?_⟩) ?_ ?_; rotate_left; (· (intro w'; go_simp; with_reducible rfl)); rotate_left; (· (simp only [Act.put, List.setIfInBounds_toArray, List.set_cons_zero, List.set_cons_succ, i64_w, i32_w]; rfl))
      refine pure_ (i := 4) (N := some 14) (v := ?_) (a' := ?_) (bs 39 31) rfl rfl (by kernel_rfl) (fun _ _ _ h => h) (Or.inl ⟨by rfl, ?_⟩) ?_ ?_; rotate_left; (· (intro w'; go_simp; with_reducible rfl)); rotate_left; (· (simp only [Act.put, List.setIfInBounds_toArray, List.set_cons_zero, List.set_cons_succ, i64_w, i32_w]; rfl))
      refine pure_ (i := 5) (N := some 15) (v := ?_) (a' := ?_) (bs 39 63) rfl rfl (by kernel_rfl) (fun _ _ _ h => h) (Or.inl ⟨by rfl, ?_⟩) ?_ ?_; rotate_left; (· (intro w'; go_simp; with_reducible rfl)); rotate_left; (· (simp only [Act.put, List.setIfInBounds_toArray, List.set_cons_zero, List.set_cons_succ, i64_w, i32_w]; rfl))
      refine pure_ (i := 6) (N := some 16) (v := ?_) (a' := ?_) (bs 39 127) rfl rfl (by kernel_rfl) (fun _ _ _ h => h) (Or.inl ⟨by rfl, ?_⟩) ?_ ?_; rotate_left; (· (intro w'; go_simp; with_reducible rfl)); rotate_left; (· (simp only [Act.put, List.setIfInBounds_toArray, List.set_cons_zero, List.set_cons_succ, i64_w, i32_w]; rfl))
      refine pure_ (i := 7) (N := some 17) (v := ?_) (a' := ?_) (bs 39 255) rfl rfl (by kernel_rfl) (fun _ _ _ h => h) (Or.inl ⟨by rfl, ?_⟩) ?_ ?_; rotate_left; (· (intro w'; go_simp; with_reducible rfl)); rotate_left; (· (simp only [Act.put, List.setIfInBounds_toArray, List.set_cons_zero, List.set_cons_succ, i64_w, i32_w]; rfl))
      refine pure_ (i := 8) (N := some 18) (v := ?_) (a' := ?_) (bs 39 511) rfl rfl (by kernel_rfl) (fun _ _ _ h => h) (Or.inl ⟨by rfl, ?_⟩) ?_ ?_; rotate_left; (· (intro w'; go_simp; with_reducible rfl)); rotate_left; (· (simp only [Act.put, List.setIfInBounds_toArray, List.set_cons_zero, List.set_cons_succ, i64_w, i32_w]; rfl))
      refine pure_ (i := 9) (N := some 19) (v := ?_) (a' := ?_) (bs 39 1023) rfl rfl (by kernel_rfl) (fun _ _ _ h => h) (Or.inl ⟨by rfl, ?_⟩) ?_ ?_; rotate_left; (· (intro w'; go_simp; with_reducible rfl)); rotate_left; (· (simp only [Act.put, List.setIfInBounds_toArray, List.set_cons_zero, List.set_cons_succ, i64_w, i32_w]; rfl))
      refine pure_ (i := 10) (N := some 20) (v := ?_) (a' := ?_) (bs 39 2047) rfl rfl (by kernel_rfl) (fun _ _ _ h => h) (Or.inl ⟨by rfl, ?_⟩) ?_ ?_; rotate_left; (· (intro w'; go_simp; with_reducible rfl)); rotate_left; (· (simp only [Act.put, List.setIfInBounds_toArray, List.set_cons_zero, List.set_cons_succ, i64_w, i32_w]; rfl))
      refine pure_ (i := 11) (N := some 21) (v := ?_) (a' := ?_) (bs 39 4095) rfl rfl (by kernel_rfl) (fun _ _ _ h => h) (Or.inl ⟨by rfl, ?_⟩) ?_ ?_; rotate_left; (· (intro w'; go_simp; with_reducible rfl)); rotate_left; (· (simp only [Act.put, List.setIfInBounds_toArray, List.set_cons_zero, List.set_cons_succ, i64_w, i32_w]; rfl))
      refine take_ (i := 12) (N := some 22) (v := ?_) (a' := ?_) (bs 39 8191) rfl rfl (by kernel_rfl) (fun _ _ _ h => h) (Or.inl ⟨by rfl, ?_⟩) hHeld ?_ ?_; rotate_left; (· (rintro w' ⟨s0, s1, s2, s3, s4⟩; go_simp; with_reducible rfl)); rotate_left; (· (simp only [Act.put, List.setIfInBounds_toArray, List.set_cons_zero, List.set_cons_succ, i64_w, i32_w]; rfl))
      refine one_ (i := 13) (N := some 23) (bs 39 16383) rfl rfl (by kernel_rfl) (by decide) (fun K hK => ?_)
      refine goes_ Try.func29 (by kernel_rfl) rfl #[.agg #[.int .u64 x.f0, .string x.f1, .bool x.f2, .int .i64 x.f3]] (by rfl) rfl rfl (by simp only [List.map_toArray, List.map_cons, List.map_nil]; rfl) ?_
      with_reducible refine (cellarerref05_May.calls x.f0 x.f1 x.f2 x.f3 _ w4 HM.out).mono ?_
      rintro e w5 ⟨rfl, hb⟩
      refine ⟨_, rfl, ?_⟩
      have HK5 := Aside0.mk ((hb.block _ (World.block_lt_of_cell? _ _ (blk_cell HK4.out 0))).trans HK4.out)
      have HC5 := Aside0.mk (below_step HC4.out hb)
      clear hb
      refine hK.out _ _ ⟨((blk_cell HK5.out 0).trans rfl), ((blk_cell HK5.out 1).trans rfl), ((blk_cell HK5.out 2).trans rfl), ((blk_cell HK5.out 3).trans rfl), ((HC5.out.cell (World.block_lt_of_cell? _ _ HY.out)).trans HY.out)⟩ (fun hHeld => ?_)
      clear hK K
      refine norm_ (a' := ?_) ?_ ?_
      rotate_left
      · show Act.put _ (some 23) _ = _
        simp only [Act.put, List.setIfInBounds_toArray, List.set_cons_zero, List.set_cons_succ, i64_w, i32_w]
        rfl
      refine pure_ (i := 14) (N := some 24) (v := ?_) (a' := ?_) (bs 39 32767) rfl rfl (by kernel_rfl) (fun _ _ _ h => h) (Or.inl ⟨by rfl, ?_⟩) ?_ ?_; rotate_left; (· (intro w'; go_simp; with_reducible rfl)); rotate_left; (· (simp only [Act.put, List.setIfInBounds_toArray, List.set_cons_zero, List.set_cons_succ, i64_w, i32_w]; rfl))
      refine pure_ (i := 15) (N := some 25) (v := ?_) (a' := ?_) (bs 39 65535) rfl rfl (by kernel_rfl) (fun _ _ _ h => h) (Or.inl ⟨by rfl, ?_⟩) ?_ ?_; rotate_left; (· (intro w'; go_simp; with_reducible rfl)); rotate_left; (· (simp only [Act.put, List.setIfInBounds_toArray, List.set_cons_zero, List.set_cons_succ, i64_w, i32_w]; rfl))
      refine pure_ (i := 16) (N := some 26) (v := ?_) (a' := ?_) (bs 39 131071) rfl rfl (by kernel_rfl) (fun _ _ _ h => h) (Or.inl ⟨by rfl, ?_⟩) ?_ ?_; rotate_left; (· (intro w'; go_simp; with_reducible rfl)); rotate_left; (· (simp only [Act.put, List.setIfInBounds_toArray, List.set_cons_zero, List.set_cons_succ, i64_w, i32_w]; rfl))
      refine pure_ (i := 17) (N := some 27) (v := ?_) (a' := ?_) (bs 39 262143) rfl rfl (by kernel_rfl) (fun _ _ _ h => h) (Or.inl ⟨by rfl, ?_⟩) ?_ ?_; rotate_left; (· (intro w'; go_simp; with_reducible rfl)); rotate_left; (· (simp only [Act.put, List.setIfInBounds_toArray, List.set_cons_zero, List.set_cons_succ, i64_w, i32_w]; rfl))
      refine pure_ (i := 18) (N := some 28) (v := ?_) (a' := ?_) (bs 39 524287) rfl rfl (by kernel_rfl) (fun _ _ _ h => h) (Or.inl ⟨by rfl, ?_⟩) ?_ ?_; rotate_left; (· (intro w'; go_simp; with_reducible rfl)); rotate_left; (· (simp only [Act.put, List.setIfInBounds_toArray, List.set_cons_zero, List.set_cons_succ, i64_w, i32_w]; rfl))
      refine pure_ (i := 19) (N := some 29) (v := ?_) (a' := ?_) (bs 39 1048575) rfl rfl (by kernel_rfl) (fun _ _ _ h => h) (Or.inl ⟨by rfl, ?_⟩) ?_ ?_; rotate_left; (· (intro w'; go_simp; with_reducible rfl)); rotate_left; (· (simp only [Act.put, List.setIfInBounds_toArray, List.set_cons_zero, List.set_cons_succ, i64_w, i32_w]; rfl))
      refine pure_ (i := 20) (N := some 30) (v := ?_) (a' := ?_) (bs 39 2097151) rfl rfl (by kernel_rfl) (fun _ _ _ h => h) (Or.inl ⟨by rfl, ?_⟩) ?_ ?_; rotate_left; (· (intro w'; go_simp; with_reducible rfl)); rotate_left; (· (simp only [Act.put, List.setIfInBounds_toArray, List.set_cons_zero, List.set_cons_succ, i64_w, i32_w]; rfl))
      refine take_ (i := 21) (N := some 31) (v := ?_) (a' := ?_) (bs 39 4194303) rfl rfl (by kernel_rfl) (fun _ _ _ h => h) (Or.inl ⟨by rfl, ?_⟩) hHeld ?_ ?_; rotate_left; (· (rintro w' ⟨s0, s1, s2, s3, s4⟩; go_simp; with_reducible rfl)); rotate_left; (· (simp only [Act.put, List.setIfInBounds_toArray, List.set_cons_zero, List.set_cons_succ, i64_w, i32_w]; rfl))
      refine pure_ (i := 22) (N := some 32) (v := ?_) (a' := ?_) (bs 39 8388607) rfl rfl (by kernel_rfl) (fun _ _ _ h => h) (Or.inl ⟨by rfl, ?_⟩) ?_ ?_; rotate_left; (· (intro w'; go_simp; with_reducible rfl)); rotate_left; (· (simp only [Act.put, List.setIfInBounds_toArray, List.set_cons_zero, List.set_cons_succ, i64_w, i32_w]; rfl))
      refine pure_ (i := 23) (N := some 33) (v := ?_) (a' := ?_) (bs 39 16777215) rfl rfl (by kernel_rfl) (fun _ _ _ h => h) (Or.inl ⟨by rfl, ?_⟩) ?_ ?_; rotate_left; (· (intro w'; go_simp; with_reducible rfl)); rotate_left; (· (simp only [Act.put, List.setIfInBounds_toArray, List.set_cons_zero, List.set_cons_succ, i64_w, i32_w]; rfl))
      refine pure_ (i := 24) (N := some 34) (v := ?_) (a' := ?_) (bs 39 33554431) rfl rfl (by kernel_rfl) (fun _ _ _ h => h) (Or.inl ⟨by rfl, ?_⟩) ?_ ?_; rotate_left; (· (intro w'; go_simp; with_reducible rfl)); rotate_left; (· (simp only [Act.put, List.setIfInBounds_toArray, List.set_cons_zero, List.set_cons_succ, i64_w, i32_w]; rfl))
      refine pure_ (i := 25) (N := some 35) (v := ?_) (a' := ?_) (bs 39 67108863) rfl rfl (by kernel_rfl) (fun _ _ _ h => h) (Or.inl ⟨by rfl, ?_⟩) ?_ ?_; rotate_left; (· (intro w'; go_simp; with_reducible rfl)); rotate_left; (· (simp only [Act.put, List.setIfInBounds_toArray, List.set_cons_zero, List.set_cons_succ, i64_w, i32_w]; rfl))
      refine pure_ (i := 26) (N := some 36) (v := ?_) (a' := ?_) (bs 39 134217727) rfl rfl (by kernel_rfl) (fun _ _ _ h => h) (Or.inl ⟨by rfl, ?_⟩) ?_ ?_; rotate_left; (· (intro w'; go_simp; with_reducible rfl)); rotate_left; (· (simp only [Act.put, List.setIfInBounds_toArray, List.set_cons_zero, List.set_cons_succ, i64_w, i32_w]; rfl))
      refine pure_ (i := 27) (N := some 37) (v := ?_) (a' := ?_) (bs 39 268435455) rfl rfl (by kernel_rfl) (fun _ _ _ h => h) (Or.inl ⟨by rfl, ?_⟩) ?_ ?_; rotate_left; (· (intro w'; go_simp; with_reducible rfl)); rotate_left; (· (simp only [Act.put, List.setIfInBounds_toArray, List.set_cons_zero, List.set_cons_succ, i64_w, i32_w]; rfl))
      refine pure_ (i := 28) (N := some 38) (v := ?_) (a' := ?_) (bs 39 536870911) rfl rfl (by kernel_rfl) (fun _ _ _ h => h) (Or.inl ⟨by rfl, ?_⟩) ?_ ?_; rotate_left; (· (intro w'; go_simp; with_reducible rfl)); rotate_left; (· (simp only [Act.put, List.setIfInBounds_toArray, List.set_cons_zero, List.set_cons_succ, i64_w, i32_w]; rfl))
      refine pure_ (i := 29) (N := some 39) (v := ?_) (a' := ?_) (bs 39 1073741823) rfl rfl (by kernel_rfl) (fun _ _ _ h => h) (Or.inl ⟨by rfl, ?_⟩) ?_ ?_; rotate_left; (· (intro w'; go_simp; with_reducible rfl)); rotate_left; (· (simp only [Act.put, List.setIfInBounds_toArray, List.set_cons_zero, List.set_cons_succ, i64_w, i32_w]; rfl))
      refine pure_ (i := 30) (N := some 40) (v := ?_) (a' := ?_) (bs 39 2147483647) rfl rfl (by kernel_rfl) (fun _ _ _ h => h) (Or.inl ⟨by rfl, ?_⟩) ?_ ?_; rotate_left; (· (intro w'; go_simp; with_reducible rfl)); rotate_left; (· (simp only [Act.put, List.setIfInBounds_toArray, List.set_cons_zero, List.set_cons_succ, i64_w, i32_w]; rfl))
      refine pure_ (i := 32) (N := some 42) (v := ?_) (a' := ?_) (bs 39 6442450943) rfl rfl (by kernel_rfl) (fun _ _ _ h => h) (Or.inl ⟨by rfl, ?_⟩) ?_ ?_; rotate_left; (· (intro w'; go_simp; with_reducible rfl)); rotate_left; (· (simp only [Act.put, List.setIfInBounds_toArray, List.set_cons_zero, List.set_cons_succ, i64_w, i32_w]; rfl))
      refine pure_ (i := 33) (N := some 43) (v := ?_) (a' := ?_) (bs 39 15032385535) rfl rfl (by kernel_rfl) (fun _ _ _ h => h) (Or.inl ⟨by rfl, ?_⟩) ?_ ?_; rotate_left; (· (intro w'; go_simp; with_reducible rfl)); rotate_left; (· (simp only [Act.put, List.setIfInBounds_toArray, List.set_cons_zero, List.set_cons_succ, i64_w, i32_w]; rfl))
      refine pure_ (i := 34) (N := some 44) (v := ?_) (a' := ?_) (bs 39 32212254719) rfl rfl (by kernel_rfl) (fun _ _ _ h => h) (Or.inl ⟨by rfl, ?_⟩) ?_ ?_; rotate_left; (· (intro w'; go_simp; with_reducible rfl)); rotate_left; (· (simp only [Act.put, List.setIfInBounds_toArray, List.set_cons_zero, List.set_cons_succ, i64_w, i32_w]; rfl))
      refine take_ (i := 31) (N := some 41) (v := ?_) (a' := ?_) (bs 39 34359738367) rfl rfl (by kernel_rfl) (fun _ _ _ h => h) (Or.inl ⟨by rfl, ?_⟩) hHeld ?_ ?_; rotate_left; (· (rintro w' ⟨s0, s1, s2, s3, s4⟩; go_simp; with_reducible rfl)); rotate_left; (· (simp only [Act.put, List.setIfInBounds_toArray, List.set_cons_zero, List.set_cons_succ, i64_w, i32_w]; rfl))
      refine take_ (i := 35) (N := some 45) (v := ?_) (a' := ?_) (bs 39 68719476735) rfl rfl (by kernel_rfl) (fun _ _ _ h => h) (Or.inl ⟨by rfl, ?_⟩) hHeld ?_ ?_; rotate_left; (· (rintro w' ⟨s0, s1, s2, s3, s4⟩; go_simp; with_reducible rfl)); rotate_left; (· (simp only [Act.put, List.setIfInBounds_toArray, List.set_cons_zero, List.set_cons_succ, i64_w, i32_w]; rfl))
      refine pure_ (i := 36) (N := some 46) (v := ?_) (a' := ?_) (bs 39 137438953471) rfl rfl (by kernel_rfl) (fun _ _ _ h => h) (Or.inl ⟨by rfl, ?_⟩) ?_ ?_; rotate_left; (· (intro w'; go_simp; with_reducible rfl)); rotate_left; (· (simp only [Act.put, List.setIfInBounds_toArray, List.set_cons_zero, List.set_cons_succ, i64_w, i32_w]; rfl))
      refine pure_ (i := 37) (N := some 47) (v := ?_) (a' := ?_) (bs 39 274877906943) rfl rfl (by kernel_rfl) (fun _ _ _ h => h) (Or.inl ⟨by rfl, ?_⟩) ?_ ?_; rotate_left; (· (intro w'; go_simp; with_reducible rfl)); rotate_left; (· (simp only [Act.put, List.setIfInBounds_toArray, List.set_cons_zero, List.set_cons_succ, i64_w, i32_w]; rfl))
      refine pure_ (i := 38) (N := some 48) (v := ?_) (a' := ?_) (bs 39 549755813887) rfl rfl (by kernel_rfl) (fun _ _ _ h => h) (Or.inl ⟨by rfl, ?_⟩) ?_ ?_; rotate_left; (· (intro w'; go_simp; with_reducible rfl)); rotate_left; (· (simp only [Act.put, List.setIfInBounds_toArray, List.set_cons_zero, List.set_cons_succ, i64_w, i32_w]; rfl))
      refine done_ (by kernel_rfl) ?_
      try go_wp2
      go_meet
      case rel => exact ⟨by first | rfl | simp, ⟨below_step HB0.out HC5.out⟩, ⟨HK5.out⟩⟩
  case rest =>
    clear CK HR0 HK0 HB0 HM he
    obtain ⟨rfl, HB, HK⟩ := hcut
    go_wp2_with fail
    go_loopw [9] (fun i wr => ∃ k : Nat, k ≤ l.length ∧ i = .int .i64 k ∧ Aside0 (∀ j (h : j < l.length), j < k → ¬ l[j].f0 ≥ x.f0) ∧ Aside0 (Below w.heap.size w wr) ∧ Aside0 (wr.heap[w.heap.size]? = some (.cells #[.int .u64 x.f0, .string x.f1, .bool x.f2, .int .i64 x.f3] 25 (0, 0)))) (fun i _ => l.length - (intOf i).toNat)
    case atStart => exact ⟨0, by omega, rfl, ⟨fun j _ h => absurd h (Nat.not_lt_zero _)⟩, HB, HK⟩
    case round =>
      clear HB HK
      obtain ⟨k, hk, rfl, HN, HB, HK⟩ := hrel
      by_cases hlt : k < l.length
      · obtain ⟨ad, e0, h0, _, _, _⟩ := at_T25 (Kd.C_below HR.out HB.out) (k : Int) (by omega) (by omega)
        have hx : rd_T25 l (k : Int) = l[k] := by unfold rd_T25; rw [Int.toNat_natCast, List.getD_eq_getElem?_getD, List.getElem?_eq_getElem hlt]; rfl
        rw [hx, Int.toNat_natCast] at h0
        cases e0
        have g0 : wr.cell? ⟨w.heap.size, 0, none⟩ = some (.int .u64 x.f0) := (blk_cell HK.out 0).trans rfl
        have hwk : wrap64 ((k : Int) + 1) = (k : Int) + 1 := wrap_id (by omega) (by omega)
        have p0 : (0 : Int) ≤ (k : Int) := by omega
        have p1 : (k : Int) < (l.length : Int) := by omega
        by_cases hge : l[k].f0 ≥ x.f0
        · have HF : Aside0 (putF l 1 x = ([], 9)) := ⟨by
            rw [HP.out, ahead_old HX.out (List.any_eq_true.2 ⟨l[k], List.getElem_mem hlt, by simpa using hge⟩)]
            rfl⟩
          generalize l[k].f0 = t at h0 hge
          have hgb : decide (x.f0 ≤ t) = true := decide_eq_true hge
          clear hx hge HP HX HN
          go_wp2_with fail
          go_quiet (fail)
          go_wp2_with fail
          go_ret2
          rw [HF.out]
          exact ⟨_, rfl, Kd.R_nil _ _ _ _ _, by repeat (first | exact HB.out | apply pw_below_drewN | apply below_drew1)⟩
        · have HN2 : Aside0 (∀ j (h : j < l.length), j < k + 1 → ¬ l[j].f0 ≥ x.f0) := ⟨fun j h hj => by
            by_cases e : j = k
            · subst e; exact hge
            · exact HN.out j h (by omega)⟩
          generalize l[k].f0 = t at h0 hge
          have hgb : decide (x.f0 ≤ t) = false := decide_eq_false hge
          clear hx hge HN
          go_wp2_with fail
          go_quiet (fail)
          go_wp2_with fail
          refine ⟨⟨k + 1, by omega, by first | go_num | (rw [hwk]; simp), ⟨fun j h hj => by have := HN2.out j h hj; omega⟩, ⟨by repeat (first | exact HB.out | apply pw_below_drewN | apply below_drew1)⟩, ⟨by (with_reducible repeat (first | refine blk_drewN ?_ _ | refine blk_drew ?_)); exact HK.out⟩⟩, by simp [intOf, hwk]; omega⟩
      · obtain rfl : k = l.length := by omega
        have HF : Aside0 (putF l 1 x = if (x :: l).length > 20 then ([], 6) else (x :: l, 0)) := ⟨by
          have ha : l.any (fun y => decide (y.f0 ≥ x.f0)) = false := by
            rw [List.any_eq_false]
            intro y hy
            obtain ⟨j, hj, rfl⟩ := List.getElem_of_mem hy
            simpa using HN.out j hj hj
          rw [HP.out, ahead_new HX.out ha, if_neg (by simp)]⟩
        have HBt := HB
        have HKt := HK
        have HCt := Aside0.mk (Kd.C_below HR.out HB.out)
        clear HP HX HN HB HK hk hlt
        by_cases h20 : l.length ≥ 20
        · have hl1 : decide (20 ≤ l.length) = true := decide_eq_true h20
          have hl2 : decide ((l.length : Int) ≥ 20) = true := decide_eq_true (by omega)
          have HG : Aside0 (putF l 1 x = ([], 6)) := ⟨by rw [HF.out, if_pos (by simp; omega)]⟩
          clear h20
          go_wp2_with fail
          go_ret2
          rw [HG.out]
          exact ⟨_, rfl, Kd.R_nil _ _ _ _ _, HBt.out⟩
        · have hl1 : decide (20 ≤ l.length) = false := decide_eq_false h20
          have hl2 : decide ((l.length : Int) ≥ 20) = false := decide_eq_false (by omega)
          have HG : Aside0 (putF l 1 x = (x :: l, 0)) := ⟨by rw [HF.out, if_neg (by simp; omega)]⟩
          have Hl : Aside0 (l.length < 20) := ⟨by omega⟩
          have g0 : wr.cell? ⟨w.heap.size, 0, none⟩ = some (.int .u64 x.f0) := (blk_cell HKt.out 0).trans rfl
          have g1 : wr.cell? ⟨w.heap.size, 1, none⟩ = some (.string x.f1) := (blk_cell HKt.out 1).trans rfl
          have g2 : wr.cell? ⟨w.heap.size, 2, none⟩ = some (.bool x.f2) := (blk_cell HKt.out 2).trans rfl
          have g3 : wr.cell? ⟨w.heap.size, 3, none⟩ = some (.int .i64 x.f3) := (blk_cell HKt.out 3).trans rfl
          clear h20
          go_wp2_with (first
            | ((with_reducible refine gate_dst (N := 73) rfl ?_); refine Kd.R_lit (w0 := w) k25 w.heap.size 25 ?hg (N := 73) ?hd (xs := [x]) (inner := [.int .u64 x.f0, .string x.f1, .bool x.f2, .int .i64 x.f3]) (ok := fun _ => True) (okp := fun _ => True) ?hr ?hp (fun _ hk => hk) trivial ?hB ?hs (by simp) ?_; (case hd => rfl); (case hg => rfl); (case hr => first | (go_simp; done) | (go_simp; rfl)); (case hp => exact (Reps.c4 (k25_mkM _ _ _ x) (Reps.none _ _))); (case hB => exact HBt.out); (case hs => exact HBt.out.size); intro v1 w1 ho hb hg hat; have HO := Aside0.mk ho; have HB := Aside0.mk hb; have HC1 := Aside0.mk (Kd.C_below HCt.out ⟨hg.os, hg.tape, hg.output, hg.size, fun i hi => hg.block i hi (fun e => by cases e)⟩); clear ho hb hg hat)
            | ((with_reducible refine gate_builtin (b := .append) (xs := #[.tmp 73, .tmp 74]) rfl ?_); at_builtin; refine Kd.R_append_rows k25 (w0 := w) w.heap.size rfl (.tmp 73) (.tmp 74) 22 25 (.agg #[(.int .u64 0), (.string ⟨#[]⟩), (.bool false), (.int .i64 0)]) 40 rfl Try.underlying22 info25 rfl (by decide) (by omega) v1 [x] l _ _ _ (fun _ => True) (fun _ => False) rfl rfl ?aO ?aR (fun _ _ h => h) (fun _ h => h.elim) ?aF ?aB ?aS ?aL ?_; (case aR => exact HC1.out); (case aB => exact HB.out); (case aF => exact (fun _ _ => trivial)); (case aO => exact HO.out); (case aS => exact HB.out.size); (case aL => have := Hl.out; simp; omega); intro v2 w2 ho hb hg hat; have HO2 := Aside0.mk ho; have HB2 := Aside0.mk hb; clear HO HB; clear ho hb hg hat))
          go_ret2
          rw [HG.out]
          exact ⟨_, rfl, HO2.out, HB2.out⟩

set_option maxRecDepth 100000 in
set_option maxHeartbeats 16000000 in
theorem put_over_any (A : Option Addr) (c : Nat) (l : List V) (s : Int) (x : V) (w : World) (hr : Kd.C k25 w A l.length l) (hc : l.length ≤ c) (hl : l.length ≤ 1000) (hw : ∀ v ∈ l, 0 ≤ v.f0) (hb : badB l s x = false) (h1 : s ≠ 1) :
    Calls Try.prog 13 #[.slice A l.length c, .int .i64 s, ver x] w (Post w (putF l s x)) := by
  have hu := Try.underlying25
  unfold ver
  obtain ⟨k, hk⟩ := (ref_check l hl hw).rounds
  obtain ⟨W0, hW0⟩ : ∃ W0, W0 = w.alloc (.cells #[.int .u64 x.f0, .string x.f1, .bool x.f2, .int .i64 x.f3] 25) := ⟨_, rfl⟩
  have HB0 : Aside0 (Below w.heap.size w W0) := ⟨by rw [hW0]; exact below_alloc (Below.refl _ _) _⟩
  have HK0 : Aside0 (W0.heap[w.heap.size]? = some (.cells #[.int .u64 x.f0, .string x.f1, .bool x.f2, .int .i64 x.f3] 25 (0, 0))) := ⟨by rw [hW0]; exact Array.getElem?_push_size⟩
  have HR0 : Aside0 (Kd.C k25 W0 A l.length l) := ⟨Kd.C_below hr HB0.out⟩
  have CK := cellarerref05_Check.calls k A c l _ W0.drew (Kd.C_drew HR0.out) hc hk
  have HR := Aside0.mk hr
  have HC0 := Aside0.mk hc
  clear hr hc hk
  have hb' := hb
  simp only [badB, Bool.or_eq_false_iff, Bool.not_eq_false', Bool.and_eq_false_iff, decide_eq_false_iff_not] at hb'
  obtain ⟨hq, h0, h2, hm, h5, he⟩ := hb'
  rw [hq] at CK
  have CK := Aside0.mk CK
  have h0b : decide (s < 0) = false := decide_eq_false h0
  have h2b : decide (2 < s) = false := decide_eq_false h2
  have h2c : decide (s > 2) = false := decide_eq_false h2
  have HM : Aside0 (cellarerref05_May.f x.f0 x.f1 x.f2 x.f3 = some true) := ⟨by rw [may_is, hm]⟩
  obtain ⟨hid, hput⟩ := good_put hb
  clear hq h0 h2 hm hb
  have HF : Aside0 (putF l s x = if ((⟨0, x.f1, x.f2, x.f3⟩ : V) :: withoutL l 0).length > 20 then ([], 6) else ((⟨0, x.f1, x.f2, x.f3⟩ : V) :: withoutL l 0, 0)) := ⟨by rw [hput, over_lay h1, if_neg (by simp)]⟩
  have h1b : (s == 1) = false := by simpa using h1
  obtain ⟨k2, hk2⟩ := (without_is l 0 hl).rounds
  have HK2 := Aside0.mk hk2
  have HL := Aside0.mk hl
  clear hput hid h1 h5 hk2
  go_enter Try.func13, Try.ntmps13
  go_upto_region 1 with (fail)
  rw [← hW0]
  clear hW0
  go_cut [48] (fun v48 wc => v48 = .bool false ∧ Aside0 (Below w.heap.size w wc) ∧ Aside0 (wc.heap[w.heap.size]? = some (.cells #[.int .u64 x.f0, .string x.f1, .bool x.f2, .int .i64 x.f3] 25 (0, 0))))
  case first =>
    clear HF HK2 HR HL
    by_cases hle : l = []
    · skip
      have hz : l.length = 0 := by rw [hle]; rfl
      have hz1 : decide (0 < l.length) = false := decide_eq_false (by omega)
      have hz2 : decide ((l.length : Int) > 0) = false := decide_eq_false (by omega)
      clear hle hz he
      refine start_ (n := 39) (S := fun w' => w'.cell? ⟨w.heap.size, 0, none⟩ = some (.int .u64 x.f0) ∧ w'.cell? ⟨w.heap.size, 1, none⟩ = some (.string x.f1) ∧ w'.cell? ⟨w.heap.size, 2, none⟩ = some (.bool x.f2) ∧ w'.cell? ⟨w.heap.size, 3, none⟩ = some (.int .i64 x.f3)) (ds := []) #[false, false, false, false, false, false, false, false, false, false, false, false, false, false, false, false, false, false, false, false, false, false, false, false, false, false, false, false, false, false, false, false, false, false, false, false, false, false, false] (by kernel_rfl) rfl rfl ⟨((blk_cell HK0.out 0).trans rfl), ((blk_cell HK0.out 1).trans rfl), ((blk_cell HK0.out 2).trans rfl), ((blk_cell HK0.out 3).trans rfl)⟩ (fun hHeld => ?_)
      refine pure_ (i := 0) (N := some 10) (v := ?_) (a' := ?_) (bs 39 1) rfl rfl (by kernel_rfl) (fun _ _ _ h => h) (Or.inl ⟨by rfl, ?_⟩) ?_ ?_; rotate_left; (· (intro w'; go_simp; with_reducible rfl)); rotate_left; (· (simp only [Act.put, List.setIfInBounds_toArray, List.set_cons_zero, List.set_cons_succ, i64_w, i32_w]; rfl))
      refine one_ (i := 1) (N := some 11) (bs 39 3) rfl rfl (by kernel_rfl) (by decide) (fun K hK => ?_)
      refine goes_ Try.func18 (by kernel_rfl) rfl #[.slice A l.length c] (by rfl) rfl rfl (by simp only [List.map_toArray, List.map_cons, List.map_nil]; rfl) ?_
      refine CK.out.mono ?_
      rintro e w4 ⟨rfl, hb⟩
      refine ⟨_, rfl, ?_⟩
      have HC4 := Aside0.mk (below_step (below_drew (Below.refl W0.heap.size W0)) hb)
      have HK4 := Aside0.mk ((hb.block _ (World.block_lt_of_cell? _ _ (blk_cell HK0.out 0))).trans HK0.out)
      clear hb CK
      refine hK.out _ _ ⟨((blk_cell HK4.out 0).trans rfl), ((blk_cell HK4.out 1).trans rfl), ((blk_cell HK4.out 2).trans rfl), ((blk_cell HK4.out 3).trans rfl)⟩ (fun hHeld => ?_)
      clear hK K
      refine norm_ (a' := ?_) ?_ ?_
      rotate_left
      · show Act.put _ (some 11) _ = _
        simp only [Act.put, List.setIfInBounds_toArray, List.set_cons_zero, List.set_cons_succ, i64_w, i32_w]
        rfl
      refine pure_ (i := 2) (N := some 12) (v := ?_) (a' := ?_) (bs 39 7) rfl rfl (by kernel_rfl) (fun _ _ _ h => h) (Or.inl ⟨by rfl, ?_⟩) ?_ ?_; rotate_left; (· (intro w'; go_simp; with_reducible rfl)); rotate_left; (· (simp only [Act.put, List.setIfInBounds_toArray, List.set_cons_zero, List.set_cons_succ, i64_w, i32_w]; rfl))
      refine pure_ (i := 3) (N := some 13) (v := ?_) (a' := ?_) (bs 39 15) rfl rfl (by kernel_rfl) (fun _ _ _ h => h) (Or.inl ⟨by rfl, ?_⟩) ?_ ?_; rotate_left; (· (intro w'; go_simp; with_reducible rfl)); rotate_left; (· (simp only [Act.put, List.setIfInBounds_toArray, List.set_cons_zero, List.set_cons_succ, i64_w, i32_w]; rfl))
      refine pure_ (i := 4) (N := some 14) (v := ?_) (a' := ?_) (bs 39 31) rfl rfl (by kernel_rfl) (fun _ _ _ h => h) (Or.inl ⟨by rfl, ?_⟩) ?_ ?_; rotate_left; (· (intro w'; go_simp; with_reducible rfl)); rotate_left; (· (simp only [Act.put, List.setIfInBounds_toArray, List.set_cons_zero, List.set_cons_succ, i64_w, i32_w]; rfl))
      refine pure_ (i := 5) (N := some 15) (v := ?_) (a' := ?_) (bs 39 63) rfl rfl (by kernel_rfl) (fun _ _ _ h => h) (Or.inl ⟨by rfl, ?_⟩) ?_ ?_; rotate_left; (· (intro w'; go_simp; with_reducible rfl)); rotate_left; (· (simp only [Act.put, List.setIfInBounds_toArray, List.set_cons_zero, List.set_cons_succ, i64_w, i32_w]; rfl))
      refine pure_ (i := 6) (N := some 16) (v := ?_) (a' := ?_) (bs 39 127) rfl rfl (by kernel_rfl) (fun _ _ _ h => h) (Or.inl ⟨by rfl, ?_⟩) ?_ ?_; rotate_left; (· (intro w'; go_simp; with_reducible rfl)); rotate_left; (· (simp only [Act.put, List.setIfInBounds_toArray, List.set_cons_zero, List.set_cons_succ, i64_w, i32_w]; rfl))
      refine pure_ (i := 7) (N := some 17) (v := ?_) (a' := ?_) (bs 39 255) rfl rfl (by kernel_rfl) (fun _ _ _ h => h) (Or.inl ⟨by rfl, ?_⟩) ?_ ?_; rotate_left; (· (intro w'; go_simp; with_reducible rfl)); rotate_left; (· (simp only [Act.put, List.setIfInBounds_toArray, List.set_cons_zero, List.set_cons_succ, i64_w, i32_w]; rfl))
      refine pure_ (i := 8) (N := some 18) (v := ?_) (a' := ?_) (bs 39 511) rfl rfl (by kernel_rfl) (fun _ _ _ h => h) (Or.inl ⟨by rfl, ?_⟩) ?_ ?_; rotate_left; (· (intro w'; go_simp; with_reducible rfl)); rotate_left; (· (simp only [Act.put, List.setIfInBounds_toArray, List.set_cons_zero, List.set_cons_succ, i64_w, i32_w]; rfl))
      refine pure_ (i := 9) (N := some 19) (v := ?_) (a' := ?_) (bs 39 1023) rfl rfl (by kernel_rfl) (fun _ _ _ h => h) (Or.inl ⟨by rfl, ?_⟩) ?_ ?_; rotate_left; (· (intro w'; go_simp; with_reducible rfl)); rotate_left; (· (simp only [Act.put, List.setIfInBounds_toArray, List.set_cons_zero, List.set_cons_succ, i64_w, i32_w]; rfl))
      refine pure_ (i := 10) (N := some 20) (v := ?_) (a' := ?_) (bs 39 2047) rfl rfl (by kernel_rfl) (fun _ _ _ h => h) (Or.inl ⟨by rfl, ?_⟩) ?_ ?_; rotate_left; (· (intro w'; go_simp; with_reducible rfl)); rotate_left; (· (simp only [Act.put, List.setIfInBounds_toArray, List.set_cons_zero, List.set_cons_succ, i64_w, i32_w]; rfl))
      refine pure_ (i := 11) (N := some 21) (v := ?_) (a' := ?_) (bs 39 4095) rfl rfl (by kernel_rfl) (fun _ _ _ h => h) (Or.inl ⟨by rfl, ?_⟩) ?_ ?_; rotate_left; (· (intro w'; go_simp; with_reducible rfl)); rotate_left; (· (simp only [Act.put, List.setIfInBounds_toArray, List.set_cons_zero, List.set_cons_succ, i64_w, i32_w]; rfl))
      refine take_ (i := 12) (N := some 22) (v := ?_) (a' := ?_) (bs 39 8191) rfl rfl (by kernel_rfl) (fun _ _ _ h => h) (Or.inl ⟨by rfl, ?_⟩) hHeld ?_ ?_; rotate_left; (· (rintro w' ⟨s0, s1, s2, s3⟩; go_simp; with_reducible rfl)); rotate_left; (· (simp only [Act.put, List.setIfInBounds_toArray, List.set_cons_zero, List.set_cons_succ, i64_w, i32_w]; rfl))
      refine one_ (i := 13) (N := some 23) (bs 39 16383) rfl rfl (by kernel_rfl) (by decide) (fun K hK => ?_)
      refine goes_ Try.func29 (by kernel_rfl) rfl #[.agg #[.int .u64 x.f0, .string x.f1, .bool x.f2, .int .i64 x.f3]] (by rfl) rfl rfl (by simp only [List.map_toArray, List.map_cons, List.map_nil]; rfl) ?_
      with_reducible refine (cellarerref05_May.calls x.f0 x.f1 x.f2 x.f3 _ w4 HM.out).mono ?_
      rintro e w5 ⟨rfl, hb⟩
      refine ⟨_, rfl, ?_⟩
      have HK5 := Aside0.mk ((hb.block _ (World.block_lt_of_cell? _ _ (blk_cell HK4.out 0))).trans HK4.out)
      have HC5 := Aside0.mk (below_step HC4.out hb)
      clear hb
      refine hK.out _ _ ⟨((blk_cell HK5.out 0).trans rfl), ((blk_cell HK5.out 1).trans rfl), ((blk_cell HK5.out 2).trans rfl), ((blk_cell HK5.out 3).trans rfl)⟩ (fun hHeld => ?_)
      clear hK K
      refine norm_ (a' := ?_) ?_ ?_
      rotate_left
      · show Act.put _ (some 23) _ = _
        simp only [Act.put, List.setIfInBounds_toArray, List.set_cons_zero, List.set_cons_succ, i64_w, i32_w]
        rfl
      refine pure_ (i := 14) (N := some 24) (v := ?_) (a' := ?_) (bs 39 32767) rfl rfl (by kernel_rfl) (fun _ _ _ h => h) (Or.inl ⟨by rfl, ?_⟩) ?_ ?_; rotate_left; (· (intro w'; go_simp; with_reducible rfl)); rotate_left; (· (simp only [Act.put, List.setIfInBounds_toArray, List.set_cons_zero, List.set_cons_succ, i64_w, i32_w]; rfl))
      refine pure_ (i := 15) (N := some 25) (v := ?_) (a' := ?_) (bs 39 65535) rfl rfl (by kernel_rfl) (fun _ _ _ h => h) (Or.inl ⟨by rfl, ?_⟩) ?_ ?_; rotate_left; (· (intro w'; go_simp; with_reducible rfl)); rotate_left; (· (simp only [Act.put, List.setIfInBounds_toArray, List.set_cons_zero, List.set_cons_succ, i64_w, i32_w]; rfl))
      refine pure_ (i := 16) (N := some 26) (v := ?_) (a' := ?_) (bs 39 131071) rfl rfl (by kernel_rfl) (fun _ _ _ h => h) (Or.inl ⟨by rfl, ?_⟩) ?_ ?_; rotate_left; (· (intro w'; go_simp; with_reducible rfl)); rotate_left; (· (simp only [Act.put, List.setIfInBounds_toArray, List.set_cons_zero, List.set_cons_succ, i64_w, i32_w]; rfl))
      refine pure_ (i := 17) (N := some 27) (v := ?_) (a' := ?_) (bs 39 262143) rfl rfl (by kernel_rfl) (fun _ _ _ h => h) (Or.inl ⟨by rfl, ?_⟩) ?_ ?_; rotate_left; (· (intro w'; go_simp; with_reducible rfl)); rotate_left; (· (simp only [Act.put, List.setIfInBounds_toArray, List.set_cons_zero, List.set_cons_succ, i64_w, i32_w]; rfl))
      refine pure_ (i := 18) (N := some 28) (v := ?_) (a' := ?_) (bs 39 524287) rfl rfl (by kernel_rfl) (fun _ _ _ h => h) (Or.inl ⟨by rfl, ?_⟩) ?_ ?_; rotate_left; (· (intro w'; go_simp; with_reducible rfl)); rotate_left; (· (simp only [Act.put, List.setIfInBounds_toArray, List.set_cons_zero, List.set_cons_succ, i64_w, i32_w]; rfl))
      refine pure_ (i := 19) (N := some 29) (v := ?_) (a' := ?_) (bs 39 1048575) rfl rfl (by kernel_rfl) (fun _ _ _ h => h) (Or.inl ⟨by rfl, ?_⟩) ?_ ?_; rotate_left; (· (intro w'; go_simp; with_reducible rfl)); rotate_left; (· (simp only [Act.put, List.setIfInBounds_toArray, List.set_cons_zero, List.set_cons_succ, i64_w, i32_w]; rfl))
      refine pure_ (i := 20) (N := some 30) (v := undef) (a' := ?_) (bs 39 2097151) rfl rfl (by kernel_rfl) (fun _ _ _ h => h) (Or.inr ⟨by rfl, rfl⟩) ?_ ?_; rotate_left; (· (simp only [Act.put, List.setIfInBounds_toArray, List.set_cons_zero, List.set_cons_succ, i64_w, i32_w]; rfl))
      refine pure_ (i := 21) (N := some 31) (v := undef) (a' := ?_) (bs 39 4194303) rfl rfl (by kernel_rfl) (fun _ _ _ h => h) (Or.inr ⟨by rfl, rfl⟩) ?_ ?_; rotate_left; (· (simp only [Act.put, List.setIfInBounds_toArray, List.set_cons_zero, List.set_cons_succ, i64_w, i32_w]; rfl))
      refine pure_ (i := 22) (N := some 32) (v := undef) (a' := ?_) (bs 39 8388607) rfl rfl (by kernel_rfl) (fun _ _ _ h => h) (Or.inr ⟨by rfl, rfl⟩) ?_ ?_; rotate_left; (· (simp only [Act.put, List.setIfInBounds_toArray, List.set_cons_zero, List.set_cons_succ, i64_w, i32_w]; rfl))
      refine pure_ (i := 23) (N := some 33) (v := ?_) (a' := ?_) (bs 39 16777215) rfl rfl (by kernel_rfl) (fun _ _ _ h => h) (Or.inl ⟨by rfl, ?_⟩) ?_ ?_; rotate_left; (· (intro w'; go_simp; with_reducible rfl)); rotate_left; (· (simp only [Act.put, List.setIfInBounds_toArray, List.set_cons_zero, List.set_cons_succ, i64_w, i32_w]; rfl))
      refine pure_ (i := 24) (N := some 34) (v := ?_) (a' := ?_) (bs 39 33554431) rfl rfl (by kernel_rfl) (fun _ _ _ h => h) (Or.inl ⟨by rfl, ?_⟩) ?_ ?_; rotate_left; (· (intro w'; go_simp; with_reducible rfl)); rotate_left; (· (simp only [Act.put, List.setIfInBounds_toArray, List.set_cons_zero, List.set_cons_succ, i64_w, i32_w]; rfl))
      refine pure_ (i := 25) (N := some 35) (v := ?_) (a' := ?_) (bs 39 67108863) rfl rfl (by kernel_rfl) (fun _ _ _ h => h) (Or.inl ⟨by rfl, ?_⟩) ?_ ?_; rotate_left; (· (intro w'; go_simp; with_reducible rfl)); rotate_left; (· (simp only [Act.put, List.setIfInBounds_toArray, List.set_cons_zero, List.set_cons_succ, i64_w, i32_w]; rfl))
      refine pure_ (i := 26) (N := some 36) (v := ?_) (a' := ?_) (bs 39 134217727) rfl rfl (by kernel_rfl) (fun _ _ _ h => h) (Or.inl ⟨by rfl, ?_⟩) ?_ ?_; rotate_left; (· (intro w'; go_simp; with_reducible rfl)); rotate_left; (· (simp only [Act.put, List.setIfInBounds_toArray, List.set_cons_zero, List.set_cons_succ, i64_w, i32_w]; rfl))
      refine pure_ (i := 27) (N := some 37) (v := ?_) (a' := ?_) (bs 39 268435455) rfl rfl (by kernel_rfl) (fun _ _ _ h => h) (Or.inl ⟨by rfl, ?_⟩) ?_ ?_; rotate_left; (· (intro w'; go_simp; with_reducible rfl)); rotate_left; (· (simp only [Act.put, List.setIfInBounds_toArray, List.set_cons_zero, List.set_cons_succ, i64_w, i32_w]; rfl))
      refine pure_ (i := 28) (N := some 38) (v := ?_) (a' := ?_) (bs 39 536870911) rfl rfl (by kernel_rfl) (fun _ _ _ h => h) (Or.inl ⟨by rfl, ?_⟩) ?_ ?_; rotate_left; (· (intro w'; go_simp; with_reducible rfl)); rotate_left; (· (simp only [Act.put, List.setIfInBounds_toArray, List.set_cons_zero, List.set_cons_succ, i64_w, i32_w]; rfl))
      refine pure_ (i := 29) (N := some 39) (v := ?_) (a' := ?_) (bs 39 1073741823) rfl rfl (by kernel_rfl) (fun _ _ _ h => h) (Or.inl ⟨by rfl, ?_⟩) ?_ ?_; rotate_left; (· (intro w'; go_simp; with_reducible rfl)); rotate_left; (· (simp only [Act.put, List.setIfInBounds_toArray, List.set_cons_zero, List.set_cons_succ, i64_w, i32_w]; rfl))
      refine pure_ (i := 30) (N := some 40) (v := undef) (a' := ?_) (bs 39 2147483647) rfl rfl (by kernel_rfl) (fun _ _ _ h => h) (Or.inr ⟨by rfl, rfl⟩) ?_ ?_; rotate_left; (· (simp only [Act.put, List.setIfInBounds_toArray, List.set_cons_zero, List.set_cons_succ, i64_w, i32_w]; rfl))
      refine pure_ (i := 31) (N := some 41) (v := undef) (a' := ?_) (bs 39 4294967295) rfl rfl (by kernel_rfl) (fun _ _ _ h => h) (Or.inr ⟨by rfl, rfl⟩) ?_ ?_; rotate_left; (· (simp only [Act.put, List.setIfInBounds_toArray, List.set_cons_zero, List.set_cons_succ, i64_w, i32_w]; rfl))
      refine pure_ (i := 32) (N := some 42) (v := undef) (a' := ?_) (bs 39 8589934591) rfl rfl (by kernel_rfl) (fun _ _ _ h => h) (Or.inr ⟨by rfl, rfl⟩) ?_ ?_; rotate_left; (· (simp only [Act.put, List.setIfInBounds_toArray, List.set_cons_zero, List.set_cons_succ, i64_w, i32_w]; rfl))
      refine pure_ (i := 33) (N := some 43) (v := undef) (a' := ?_) (bs 39 17179869183) rfl rfl (by kernel_rfl) (fun _ _ _ h => h) (Or.inr ⟨by rfl, rfl⟩) ?_ ?_; rotate_left; (· (simp only [Act.put, List.setIfInBounds_toArray, List.set_cons_zero, List.set_cons_succ, i64_w, i32_w]; rfl))
      refine pure_ (i := 34) (N := some 44) (v := undef) (a' := ?_) (bs 39 34359738367) rfl rfl (by kernel_rfl) (fun _ _ _ h => h) (Or.inr ⟨by rfl, rfl⟩) ?_ ?_; rotate_left; (· (simp only [Act.put, List.setIfInBounds_toArray, List.set_cons_zero, List.set_cons_succ, i64_w, i32_w]; rfl))
      refine pure_ (i := 35) (N := some 45) (v := undef) (a' := ?_) (bs 39 68719476735) rfl rfl (by kernel_rfl) (fun _ _ _ h => h) (Or.inr ⟨by rfl, rfl⟩) ?_ ?_; rotate_left; (· (simp only [Act.put, List.setIfInBounds_toArray, List.set_cons_zero, List.set_cons_succ, i64_w, i32_w]; rfl))
      refine pure_ (i := 36) (N := some 46) (v := undef) (a' := ?_) (bs 39 137438953471) rfl rfl (by kernel_rfl) (fun _ _ _ h => h) (Or.inr ⟨by rfl, rfl⟩) ?_ ?_; rotate_left; (· (simp only [Act.put, List.setIfInBounds_toArray, List.set_cons_zero, List.set_cons_succ, i64_w, i32_w]; rfl))
      refine pure_ (i := 37) (N := some 47) (v := ?_) (a' := ?_) (bs 39 274877906943) rfl rfl (by kernel_rfl) (fun _ _ _ h => h) (Or.inl ⟨by rfl, ?_⟩) ?_ ?_; rotate_left; (· (intro w'; go_simp; with_reducible rfl)); rotate_left; (· (simp only [Act.put, List.setIfInBounds_toArray, List.set_cons_zero, List.set_cons_succ, i64_w, i32_w]; rfl))
      refine pure_ (i := 38) (N := some 48) (v := ?_) (a' := ?_) (bs 39 549755813887) rfl rfl (by kernel_rfl) (fun _ _ _ h => h) (Or.inl ⟨by rfl, ?_⟩) ?_ ?_; rotate_left; (· (intro w'; go_simp; with_reducible rfl)); rotate_left; (· (simp only [Act.put, List.setIfInBounds_toArray, List.set_cons_zero, List.set_cons_succ, i64_w, i32_w]; rfl))
      refine done_ (by kernel_rfl) ?_
      try go_wp2
      go_meet
      case rel => exact ⟨by first | rfl | simp, ⟨below_step HB0.out HC5.out⟩, ⟨HK5.out⟩⟩
    · skip
      obtain ⟨z, zs, hle⟩ := List.exists_cons_of_ne_nil hle
      have hrd : rd_T25 l 0 = z := by rw [hle]; rfl
      have hz : 0 < l.length := by rw [hle]; simp
      have hel : elder l x = decide (x.f3 < z.f3) := by rw [hle]; rfl
      obtain ⟨ad, hA, _, _, _, hy⟩ := at_T25 HR0.out (0 : Int) (by omega) (by omega)
      rw [hrd, show ad.add ((0 : Int).toNat * 4) = ad from rfl] at hy
      subst hA
      have HY := Aside0.mk hy
      have hz1 : decide (0 < l.length) = true := decide_eq_true hz
      have hz2 : decide ((l.length : Int) > 0) = true := decide_eq_true (by omega)
      have hz3 : (0 : Int) < (l.length : Int) := by omega
      rw [hel] at he
      clear hy hle hrd hel
      generalize z.f3 = y at HY he
      clear z zs
      refine start_ (n := 39) (S := fun w' => w'.cell? ⟨w.heap.size, 0, none⟩ = some (.int .u64 x.f0) ∧ w'.cell? ⟨w.heap.size, 1, none⟩ = some (.string x.f1) ∧ w'.cell? ⟨w.heap.size, 2, none⟩ = some (.bool x.f2) ∧ w'.cell? ⟨w.heap.size, 3, none⟩ = some (.int .i64 x.f3) ∧ w'.cell? ⟨ad.block, ad.off + 3, none⟩ = some (.int .i64 y)) (ds := []) #[false, false, false, false, false, false, false, false, false, false, false, false, false, false, false, false, false, false, false, false, false, false, false, false, false, false, false, false, false, false, false, false, false, false, false, false, false, false, false] (by kernel_rfl) rfl rfl ⟨((blk_cell HK0.out 0).trans rfl), ((blk_cell HK0.out 1).trans rfl), ((blk_cell HK0.out 2).trans rfl), ((blk_cell HK0.out 3).trans rfl), HY.out⟩ (fun hHeld => ?_)
      refine pure_ (i := 0) (N := some 10) (v := ?_) (a' := ?_) (bs 39 1) rfl rfl (by kernel_rfl) (fun _ _ _ h => h) (Or.inl ⟨by rfl, ?_⟩) ?_ ?_; rotate_left; (· (intro w'; go_simp; with_reducible rfl)); rotate_left; (· (simp only [Act.put, List.setIfInBounds_toArray, List.set_cons_zero, List.set_cons_succ, i64_w, i32_w]; rfl))
      refine one_ (i := 1) (N := some 11) (bs 39 3) rfl rfl (by kernel_rfl) (by decide) (fun K hK => ?_)
      refine goes_ Try.func18 (by kernel_rfl) rfl #[.slice (some ad) l.length c] (by rfl) rfl rfl (by simp only [List.map_toArray, List.map_cons, List.map_nil]; rfl) ?_
      refine CK.out.mono ?_
      rintro e w4 ⟨rfl, hb⟩
      refine ⟨_, rfl, ?_⟩
      have HC4 := Aside0.mk (below_step (below_drew (Below.refl W0.heap.size W0)) hb)
      have HK4 := Aside0.mk ((hb.block _ (World.block_lt_of_cell? _ _ (blk_cell HK0.out 0))).trans HK0.out)
      clear hb CK
      refine hK.out _ _ ⟨((blk_cell HK4.out 0).trans rfl), ((blk_cell HK4.out 1).trans rfl), ((blk_cell HK4.out 2).trans rfl), ((blk_cell HK4.out 3).trans rfl), ((HC4.out.cell (World.block_lt_of_cell? _ _ HY.out)).trans HY.out)⟩ (fun hHeld => ?_)
      clear hK K
      refine norm_ (a' := ?_) ?_ ?_
      rotate_left
      · show Act.put _ (some 11) _ = _
        simp only [Act.put, List.setIfInBounds_toArray, List.set_cons_zero, List.set_cons_succ, i64_w, i32_w]
        rfl
      refine pure_ (i := 2) (N := some 12) (v := ?_) (a' := ?_) (bs 39 7) rfl rfl (by kernel_rfl) (fun _ _ _ h => h) (Or.inl ⟨by rfl, ?_⟩) ?_ ?_; rotate_left; (· (intro w'; go_simp; with_reducible rfl)); rotate_left; (· (simp only [Act.put, List.setIfInBounds_toArray, List.set_cons_zero, List.set_cons_succ, i64_w, i32_w]; rfl))
      refine pure_ (i := 3) (N := some 13) (v := ?_) (a' := ?_) (bs 39 15) rfl rfl (by kernel_rfl) (fun _ _ _ h => h) (Or.inl ⟨by rfl, ?_⟩) ?_ ?_; rotate_left; (· (intro w'; go_simp; with_reducible rfl)); rotate_left; (· (simp only [Act.put, List.setIfInBounds_toArray, List.set_cons_zero, List.set_cons_succ, i64_w, i32_w]; rfl))
      refine pure_ (i := 4) (N := some 14) (v := ?_) (a' := ?_) (bs 39 31) rfl rfl (by kernel_rfl) (fun _ _ _ h => h) (Or.inl ⟨by rfl, ?_⟩) ?_ ?_; rotate_left; (· (intro w'; go_simp; with_reducible rfl)); rotate_left; (· (simp only [Act.put, List.setIfInBounds_toArray, List.set_cons_zero, List.set_cons_succ, i64_w, i32_w]; rfl))
      refine pure_ (i := 5) (N := some 15) (v := ?_) (a' := ?_) (bs 39 63) rfl rfl (by kernel_rfl) (fun _ _ _ h => h) (Or.inl ⟨by rfl, ?_⟩) ?_ ?_; rotate_left; (· (intro w'; go_simp; with_reducible rfl)); rotate_left; (· (simp only [Act.put, List.setIfInBounds_toArray, List.set_cons_zero, List.set_cons_succ, i64_w, i32_w]; rfl))
      refine pure_ (i := 6) (N := some 16) (v := ?_) (a' := ?_) (bs 39 127) rfl rfl (by kernel_rfl) (fun _ _ _ h => h) (Or.inl ⟨by rfl, ?_⟩) ?_ ?_; rotate_left; (· (intro w'; go_simp; with_reducible rfl)); rotate_left; (· (simp only [Act.put, List.setIfInBounds_toArray, List.set_cons_zero, List.set_cons_succ, i64_w, i32_w]; rfl))
      refine pure_ (i := 7) (N := some 17) (v := ?_) (a' := ?_) (bs 39 255) rfl rfl (by kernel_rfl) (fun _ _ _ h => h) (Or.inl ⟨by rfl, ?_⟩) ?_ ?_; rotate_left; (· (intro w'; go_simp; with_reducible rfl)); rotate_left; (· (simp only [Act.put, List.setIfInBounds_toArray, List.set_cons_zero, List.set_cons_succ, i64_w, i32_w]; rfl))
      refine pure_ (i := 8) (N := some 18) (v := ?_) (a' := ?_) (bs 39 511) rfl rfl (by kernel_rfl) (fun _ _ _ h => h) (Or.inl ⟨by rfl, ?_⟩) ?_ ?_; rotate_left; (· (intro w'; go_simp; with_reducible rfl)); rotate_left; (· (simp only [Act.put, List.setIfInBounds_toArray, List.set_cons_zero, List.set_cons_succ, i64_w, i32_w]; rfl))
      refine pure_ (i := 9) (N := some 19) (v := ?_) (a' := ?_) (bs 39 1023) rfl rfl (by kernel_rfl) (fun _ _ _ h => h) (Or.inl ⟨by rfl, ?_⟩) ?_ ?_; rotate_left; (· (intro w'; go_simp; with_reducible rfl)); rotate_left; (· (simp only [Act.put, List.setIfInBounds_toArray, List.set_cons_zero, List.set_cons_succ, i64_w, i32_w]; rfl))
      refine pure_ (i := 10) (N := some 20) (v := ?_) (a' := ?_) (bs 39 2047) rfl rfl (by kernel_rfl) (fun _ _ _ h => h) (Or.inl ⟨by rfl, ?_⟩) ?_ ?_; rotate_left; (· (intro w'; go_simp; with_reducible rfl)); rotate_left; (· (simp only [Act.put, List.setIfInBounds_toArray, List.set_cons_zero, List.set_cons_succ, i64_w, i32_w]; rfl))
      refine pure_ (i := 11) (N := some 21) (v := ?_) (a' := ?_) (bs 39 4095) rfl rfl (by kernel_rfl) (fun _ _ _ h => h) (Or.inl ⟨by rfl, ?_⟩) ?_ ?_; rotate_left; (· (intro w'; go_simp; with_reducible rfl)); rotate_left; (· (simp only [Act.put, List.setIfInBounds_toArray, List.set_cons_zero, List.set_cons_succ, i64_w, i32_w]; rfl))
      refine take_ (i := 12) (N := some 22) (v := ?_) (a' := ?_) (bs 39 8191) rfl rfl (by kernel_rfl) (fun _ _ _ h => h) (Or.inl ⟨by rfl, ?_⟩) hHeld ?_ ?_; rotate_left; (· (rintro w' ⟨s0, s1, s2, s3, s4⟩; go_simp; with_reducible rfl)); rotate_left; (· (simp only [Act.put, List.setIfInBounds_toArray, List.set_cons_zero, List.set_cons_succ, i64_w, i32_w]; rfl))
      refine one_ (i := 13) (N := some 23) (bs 39 16383) rfl rfl (by kernel_rfl) (by decide) (fun K hK => ?_)
      refine goes_ Try.func29 (by kernel_rfl) rfl #[.agg #[.int .u64 x.f0, .string x.f1, .bool x.f2, .int .i64 x.f3]] (by rfl) rfl rfl (by simp only [List.map_toArray, List.map_cons, List.map_nil]; rfl) ?_
      with_reducible refine (cellarerref05_May.calls x.f0 x.f1 x.f2 x.f3 _ w4 HM.out).mono ?_
      rintro e w5 ⟨rfl, hb⟩
      refine ⟨_, rfl, ?_⟩
      have HK5 := Aside0.mk ((hb.block _ (World.block_lt_of_cell? _ _ (blk_cell HK4.out 0))).trans HK4.out)
      have HC5 := Aside0.mk (below_step HC4.out hb)
      clear hb
      refine hK.out _ _ ⟨((blk_cell HK5.out 0).trans rfl), ((blk_cell HK5.out 1).trans rfl), ((blk_cell HK5.out 2).trans rfl), ((blk_cell HK5.out 3).trans rfl), ((HC5.out.cell (World.block_lt_of_cell? _ _ HY.out)).trans HY.out)⟩ (fun hHeld => ?_)
      clear hK K
      refine norm_ (a' := ?_) ?_ ?_
      rotate_left
      · show Act.put _ (some 23) _ = _
        simp only [Act.put, List.setIfInBounds_toArray, List.set_cons_zero, List.set_cons_succ, i64_w, i32_w]
        rfl
      refine pure_ (i := 14) (N := some 24) (v := ?_) (a' := ?_) (bs 39 32767) rfl rfl (by kernel_rfl) (fun _ _ _ h => h) (Or.inl ⟨by rfl, ?_⟩) ?_ ?_; rotate_left; (· (intro w'; go_simp; with_reducible rfl)); rotate_left; (· (simp only [Act.put, List.setIfInBounds_toArray, List.set_cons_zero, List.set_cons_succ, i64_w, i32_w]; rfl))
      refine pure_ (i := 15) (N := some 25) (v := ?_) (a' := ?_) (bs 39 65535) rfl rfl (by kernel_rfl) (fun _ _ _ h => h) (Or.inl ⟨by rfl, ?_⟩) ?_ ?_; rotate_left; (· (intro w'; go_simp; with_reducible rfl)); rotate_left; (· (simp only [Act.put, List.setIfInBounds_toArray, List.set_cons_zero, List.set_cons_succ, i64_w, i32_w]; rfl))
      refine pure_ (i := 16) (N := some 26) (v := ?_) (a' := ?_) (bs 39 131071) rfl rfl (by kernel_rfl) (fun _ _ _ h => h) (Or.inl ⟨by rfl, ?_⟩) ?_ ?_; rotate_left; (· (intro w'; go_simp; with_reducible rfl)); rotate_left; (· (simp only [Act.put, List.setIfInBounds_toArray, List.set_cons_zero, List.set_cons_succ, i64_w, i32_w]; rfl))
      refine pure_ (i := 17) (N := some 27) (v := ?_) (a' := ?_) (bs 39 262143) rfl rfl (by kernel_rfl) (fun _ _ _ h => h) (Or.inl ⟨by rfl, ?_⟩) ?_ ?_; rotate_left; (· (intro w'; go_simp; with_reducible rfl)); rotate_left; (· (simp only [Act.put, List.setIfInBounds_toArray, List.set_cons_zero, List.set_cons_succ, i64_w, i32_w]; rfl))
      refine pure_ (i := 18) (N := some 28) (v := ?_) (a' := ?_) (bs 39 524287) rfl rfl (by kernel_rfl) (fun _ _ _ h => h) (Or.inl ⟨by rfl, ?_⟩) ?_ ?_; rotate_left; (· (intro w'; go_simp; with_reducible rfl)); rotate_left; (· (simp only [Act.put, List.setIfInBounds_toArray, List.set_cons_zero, List.set_cons_succ, i64_w, i32_w]; rfl))
      refine pure_ (i := 19) (N := some 29) (v := ?_) (a' := ?_) (bs 39 1048575) rfl rfl (by kernel_rfl) (fun _ _ _ h => h) (Or.inl ⟨by rfl, ?_⟩) ?_ ?_; rotate_left; (· (intro w'; go_simp; with_reducible rfl)); rotate_left; (· (simp only [Act.put, List.setIfInBounds_toArray, List.set_cons_zero, List.set_cons_succ, i64_w, i32_w]; rfl))
      refine pure_ (i := 20) (N := some 30) (v := undef) (a' := ?_) (bs 39 2097151) rfl rfl (by kernel_rfl) (fun _ _ _ h => h) (Or.inr ⟨by rfl, rfl⟩) ?_ ?_; rotate_left; (· (simp only [Act.put, List.setIfInBounds_toArray, List.set_cons_zero, List.set_cons_succ, i64_w, i32_w]; rfl))
      refine pure_ (i := 21) (N := some 31) (v := undef) (a' := ?_) (bs 39 4194303) rfl rfl (by kernel_rfl) (fun _ _ _ h => h) (Or.inr ⟨by rfl, rfl⟩) ?_ ?_; rotate_left; (· (simp only [Act.put, List.setIfInBounds_toArray, List.set_cons_zero, List.set_cons_succ, i64_w, i32_w]; rfl))
      refine pure_ (i := 22) (N := some 32) (v := undef) (a' := ?_) (bs 39 8388607) rfl rfl (by kernel_rfl) (fun _ _ _ h => h) (Or.inr ⟨by rfl, rfl⟩) ?_ ?_; rotate_left; (· (simp only [Act.put, List.setIfInBounds_toArray, List.set_cons_zero, List.set_cons_succ, i64_w, i32_w]; rfl))
      refine pure_ (i := 23) (N := some 33) (v := ?_) (a' := ?_) (bs 39 16777215) rfl rfl (by kernel_rfl) (fun _ _ _ h => h) (Or.inl ⟨by rfl, ?_⟩) ?_ ?_; rotate_left; (· (intro w'; go_simp; with_reducible rfl)); rotate_left; (· (simp only [Act.put, List.setIfInBounds_toArray, List.set_cons_zero, List.set_cons_succ, i64_w, i32_w]; rfl))
      refine pure_ (i := 24) (N := some 34) (v := ?_) (a' := ?_) (bs 39 33554431) rfl rfl (by kernel_rfl) (fun _ _ _ h => h) (Or.inl ⟨by rfl, ?_⟩) ?_ ?_; rotate_left; (· (intro w'; go_simp; with_reducible rfl)); rotate_left; (· (simp only [Act.put, List.setIfInBounds_toArray, List.set_cons_zero, List.set_cons_succ, i64_w, i32_w]; rfl))
      refine pure_ (i := 25) (N := some 35) (v := ?_) (a' := ?_) (bs 39 67108863) rfl rfl (by kernel_rfl) (fun _ _ _ h => h) (Or.inl ⟨by rfl, ?_⟩) ?_ ?_; rotate_left; (· (intro w'; go_simp; with_reducible rfl)); rotate_left; (· (simp only [Act.put, List.setIfInBounds_toArray, List.set_cons_zero, List.set_cons_succ, i64_w, i32_w]; rfl))
      refine pure_ (i := 26) (N := some 36) (v := ?_) (a' := ?_) (bs 39 134217727) rfl rfl (by kernel_rfl) (fun _ _ _ h => h) (Or.inl ⟨by rfl, ?_⟩) ?_ ?_; rotate_left; (· (intro w'; go_simp; with_reducible rfl)); rotate_left; (· (simp only [Act.put, List.setIfInBounds_toArray, List.set_cons_zero, List.set_cons_succ, i64_w, i32_w]; rfl))
      refine pure_ (i := 27) (N := some 37) (v := ?_) (a' := ?_) (bs 39 268435455) rfl rfl (by kernel_rfl) (fun _ _ _ h => h) (Or.inl ⟨by rfl, ?_⟩) ?_ ?_; rotate_left; (· (intro w'; go_simp; with_reducible rfl)); rotate_left; (· (simp only [Act.put, List.setIfInBounds_toArray, List.set_cons_zero, List.set_cons_succ, i64_w, i32_w]; rfl))
      refine pure_ (i := 28) (N := some 38) (v := ?_) (a' := ?_) (bs 39 536870911) rfl rfl (by kernel_rfl) (fun _ _ _ h => h) (Or.inl ⟨by rfl, ?_⟩) ?_ ?_; rotate_left; (· (intro w'; go_simp; with_reducible rfl)); rotate_left; (· (simp only [Act.put, List.setIfInBounds_toArray, List.set_cons_zero, List.set_cons_succ, i64_w, i32_w]; rfl))
      refine pure_ (i := 29) (N := some 39) (v := ?_) (a' := ?_) (bs 39 1073741823) rfl rfl (by kernel_rfl) (fun _ _ _ h => h) (Or.inl ⟨by rfl, ?_⟩) ?_ ?_; rotate_left; (· (intro w'; go_simp; with_reducible rfl)); rotate_left; (· (simp only [Act.put, List.setIfInBounds_toArray, List.set_cons_zero, List.set_cons_succ, i64_w, i32_w]; rfl))
      refine pure_ (i := 30) (N := some 40) (v := ?_) (a' := ?_) (bs 39 2147483647) rfl rfl (by kernel_rfl) (fun _ _ _ h => h) (Or.inl ⟨by rfl, ?_⟩) ?_ ?_; rotate_left; (· (intro w'; go_simp; with_reducible rfl)); rotate_left; (· (simp only [Act.put, List.setIfInBounds_toArray, List.set_cons_zero, List.set_cons_succ, i64_w, i32_w]; rfl))
      refine pure_ (i := 32) (N := some 42) (v := ?_) (a' := ?_) (bs 39 6442450943) rfl rfl (by kernel_rfl) (fun _ _ _ h => h) (Or.inl ⟨by rfl, ?_⟩) ?_ ?_; rotate_left; (· (intro w'; go_simp; with_reducible rfl)); rotate_left; (· (simp only [Act.put, List.setIfInBounds_toArray, List.set_cons_zero, List.set_cons_succ, i64_w, i32_w]; rfl))
      refine pure_ (i := 33) (N := some 43) (v := ?_) (a' := ?_) (bs 39 15032385535) rfl rfl (by kernel_rfl) (fun _ _ _ h => h) (Or.inl ⟨by rfl, ?_⟩) ?_ ?_; rotate_left; (· (intro w'; go_simp; with_reducible rfl)); rotate_left; (· (simp only [Act.put, List.setIfInBounds_toArray, List.set_cons_zero, List.set_cons_succ, i64_w, i32_w]; rfl))
      refine pure_ (i := 34) (N := some 44) (v := ?_) (a' := ?_) (bs 39 32212254719) rfl rfl (by kernel_rfl) (fun _ _ _ h => h) (Or.inl ⟨by rfl, ?_⟩) ?_ ?_; rotate_left; (· (intro w'; go_simp; with_reducible rfl)); rotate_left; (· (simp only [Act.put, List.setIfInBounds_toArray, List.set_cons_zero, List.set_cons_succ, i64_w, i32_w]; rfl))
      refine take_ (i := 31) (N := some 41) (v := ?_) (a' := ?_) (bs 39 34359738367) rfl rfl (by kernel_rfl) (fun _ _ _ h => h) (Or.inl ⟨by rfl, ?_⟩) hHeld ?_ ?_; rotate_left; (· (rintro w' ⟨s0, s1, s2, s3, s4⟩; go_simp; with_reducible rfl)); rotate_left; (· (simp only [Act.put, List.setIfInBounds_toArray, List.set_cons_zero, List.set_cons_succ, i64_w, i32_w]; rfl))
      refine take_ (i := 35) (N := some 45) (v := ?_) (a' := ?_) (bs 39 68719476735) rfl rfl (by kernel_rfl) (fun _ _ _ h => h) (Or.inl ⟨by rfl, ?_⟩) hHeld ?_ ?_; rotate_left; (· (rintro w' ⟨s0, s1, s2, s3, s4⟩; go_simp; with_reducible rfl)); rotate_left; (· (simp only [Act.put, List.setIfInBounds_toArray, List.set_cons_zero, List.set_cons_succ, i64_w, i32_w]; rfl))
      refine pure_ (i := 36) (N := some 46) (v := ?_) (a' := ?_) (bs 39 137438953471) rfl rfl (by kernel_rfl) (fun _ _ _ h => h) (Or.inl ⟨by rfl, ?_⟩) ?_ ?_; rotate_left; (· (intro w'; go_simp; with_reducible rfl)); rotate_left; (· (simp only [Act.put, List.setIfInBounds_toArray, List.set_cons_zero, List.set_cons_succ, i64_w, i32_w]; rfl))
      refine pure_ (i := 37) (N := some 47) (v := ?_) (a' := ?_) (bs 39 274877906943) rfl rfl (by kernel_rfl) (fun _ _ _ h => h) (Or.inl ⟨by rfl, ?_⟩) ?_ ?_; rotate_left; (· (intro w'; go_simp; with_reducible rfl)); rotate_left; (· (simp only [Act.put, List.setIfInBounds_toArray, List.set_cons_zero, List.set_cons_succ, i64_w, i32_w]; rfl))
      refine pure_ (i := 38) (N := some 48) (v := ?_) (a' := ?_) (bs 39 549755813887) rfl rfl (by kernel_rfl) (fun _ _ _ h => h) (Or.inl ⟨by rfl, ?_⟩) ?_ ?_; rotate_left; (· (intro w'; go_simp; with_reducible rfl)); rotate_left; (· (simp only [Act.put, List.setIfInBounds_toArray, List.set_cons_zero, List.set_cons_succ, i64_w, i32_w]; rfl))
      refine done_ (by kernel_rfl) ?_
      try go_wp2
      go_meet
      case rel => exact ⟨by first | rfl | simp, ⟨below_step HB0.out HC5.out⟩, ⟨HK5.out⟩⟩
  case rest =>
    clear CK HR0 HK0 HB0 HM he
    obtain ⟨rfl, HB, HK⟩ := hcut
    have g0 : wc.cell? ⟨w.heap.size, 0, none⟩ = some (.int .u64 x.f0) := (blk_cell HK.out 0).trans rfl
    have f0 := blk_frozen HK.out 0
    go_wp2_with fail
    refine (cellarerref05_without.calls k2 A c l 0 _ _ (Kd.C_below HR.out (below_set HB.out (Nat.le_refl _))) HC0.out HK2.out).mono ?_
    rintro e wt ⟨v6, rfl, hR, hb⟩
    obtain ⟨A8, c8, rfl⟩ := Kd.R_slice hR
    have HBt := Aside0.mk (below_step (below_set HB.out (Nat.le_refl _)) hb)
    have hk0 : (wc.setCell ⟨w.heap.size, 0, none⟩ (.int .u64 0)).heap[w.heap.size]? = some (.cells #[.int .u64 0, .string x.f1, .bool x.f2, .int .i64 x.f3] 25 (0, 0)) := blk_set HK.out 0 (.int .u64 0)
    have HKt := Aside0.mk ((hb.block w.heap.size (blk_lt hk0)).trans hk0)
    have HCt := Aside0.mk (Kd.R_reads' hR).2.2
    clear hR hb hk0 HB HK HK2 g0 f0
    generalize withoutL l 0 = L8 at HF HCt
    clear HL
    by_cases h20 : L8.length ≥ 20
    · have hl1 : decide (20 ≤ L8.length) = true := decide_eq_true h20
      have hl2 : decide ((L8.length : Int) ≥ 20) = true := decide_eq_true (by omega)
      have HG : Aside0 (putF l s x = ([], 6)) := ⟨by rw [HF.out, if_pos (by simp; omega)]⟩
      clear h20
      go_wp2_with fail
      go_ret2
      rw [HG.out]
      exact ⟨_, rfl, Kd.R_nil _ _ _ _ _, HBt.out⟩
    · have hl1 : decide (20 ≤ L8.length) = false := decide_eq_false h20
      have hl2 : decide ((L8.length : Int) ≥ 20) = false := decide_eq_false (by omega)
      have HG : Aside0 (putF l s x = ((⟨0, x.f1, x.f2, x.f3⟩ : V) :: L8, 0)) := ⟨by rw [HF.out, if_neg (by simp; omega)]⟩
      have HL8 : Aside0 (L8.length < 20) := ⟨by omega⟩
      have g0 : wt.cell? ⟨w.heap.size, 0, none⟩ = some (.int .u64 0) := (blk_cell HKt.out 0).trans rfl
      have g1 : wt.cell? ⟨w.heap.size, 1, none⟩ = some (.string x.f1) := (blk_cell HKt.out 1).trans rfl
      have g2 : wt.cell? ⟨w.heap.size, 2, none⟩ = some (.bool x.f2) := (blk_cell HKt.out 2).trans rfl
      have g3 : wt.cell? ⟨w.heap.size, 3, none⟩ = some (.int .i64 x.f3) := (blk_cell HKt.out 3).trans rfl
      clear h20
      go_wp2_with (first
        | ((with_reducible refine gate_dst (N := 73) rfl ?_); refine Kd.R_lit (w0 := w) k25 w.heap.size 25 ?hg (N := 73) ?hd (xs := [(⟨0, x.f1, x.f2, x.f3⟩ : V)]) (inner := [.int .u64 0, .string x.f1, .bool x.f2, .int .i64 x.f3]) (ok := fun _ => True) (okp := fun _ => True) ?hr ?hp (fun _ hk => hk) trivial ?hB ?hs (by simp) ?_; (case hd => rfl); (case hg => rfl); (case hr => first | (go_simp; done) | (go_simp; rfl)); (case hp => exact (Reps.c4 (k25_mkM _ _ _ (⟨0, x.f1, x.f2, x.f3⟩ : V)) (Reps.none _ _))); (case hB => exact HBt.out); (case hs => exact HBt.out.size); intro v1 w1 ho hb hg hat; have HO := Aside0.mk ho; have HB := Aside0.mk hb; have HC1 := Aside0.mk (Kd.C_below HCt.out ⟨hg.os, hg.tape, hg.output, hg.size, fun i hi => hg.block i hi (fun e => by cases e)⟩); clear ho hb hg hat)
        | ((with_reducible refine gate_builtin (b := .append) (xs := #[.tmp 73, .tmp 74]) rfl ?_); at_builtin; refine Kd.R_append_rows k25 (w0 := w) w.heap.size rfl (.tmp 73) (.tmp 74) 22 25 (.agg #[(.int .u64 0), (.string ⟨#[]⟩), (.bool false), (.int .i64 0)]) 40 rfl Try.underlying22 info25 rfl (by decide) (by omega) v1 [(⟨0, x.f1, x.f2, x.f3⟩ : V)] L8 _ _ _ (fun _ => True) (fun _ => False) rfl rfl ?aO ?aR (fun _ _ h => h) (fun _ h => h.elim) ?aF ?aB ?aS ?aL ?_; (case aR => exact HC1.out); (case aB => exact HB.out); (case aF => exact (fun _ _ => trivial)); (case aO => exact HO.out); (case aS => exact HB.out.size); (case aL => have := HL8.out; simp; omega); intro v2 w2 ho hb hg hat; have HO2 := Aside0.mk ho; have HB2 := Aside0.mk hb; clear HO HB; clear ho hb hg hat))
      go_ret2
      rw [HG.out]
      exact ⟨_, rfl, HO2.out, HB2.out⟩

theorem put_any (A : Option Addr) (c : Nat) (l : List V) (s : Int) (x : V) (w : World) (hr : Kd.C k25 w A l.length l) (hc : l.length ≤ c) (hl : l.length ≤ 1000) (hw : ∀ v ∈ l, 0 ≤ v.f0) :
    Calls Try.prog 13 #[.slice A l.length c, .int .i64 s, ver x] w (Post w (putF l s x)) := by
  cases hb : badB l s x with
  | true => exact put_refused A c l s x w hr hc hl hw hb
  | false =>
    by_cases h1 : s = 1
    · exact put_ahead_any A c l s x w hr hc hl hw hb h1
    · exact put_over_any A c l s x w hr hc hl hw hb h1
end Go.Proofs.Ytldmidoemcdaaaa.VRefPut
