/-
  Lemmas: ClkBorn.
-/
import Derived.Test.YtpccbmechgkogaaGreatDoorProg
import Derived.Test.YtpccbmechgkogaaGreatDoorV0
import Derived.Test.YtpccbmechgkogaaGreatDoorZ00
import Derived.Test.YtpccbmechgkogaaGreatDoorZ01
import Derived.Test.YtpccbmechgkogaaGreatDoorZ02
import Derived.Test.YtpccbmechgkogaaGreatDoorZ03
import Derived.Test.YtpccbmechgkogaaGreatDoorZ04
import Derived.Test.YtpccbmechgkogaaGreatDoorZ05
import Derived.Test.YtpccbmechgkogaaGreatDoorZ06
import Derived.Test.YtpccbmechgkogaaGreatDoorZ07
import Derived.Test.YtpccbmechgkogaaGreatDoorZ08
import Derived.Test.YtpccbmechgkogaaGreatDoorZ11
import Derived.Test.YtpccbmechgkogaaGreatDoorZ13
import Derived.Test.YtpccbmechgkogaaGreatDoorZ17
import Derived.Test.YtpccbmechgkogaaGreatDoorZ20
import Derived.Test.YtpccbmechgkogaaGreatDoorZ21
import Derived.Test.YtpccbmechgkogaaGreatDoorZ22
import Derived.Test.YtpccbmechgkogaaGreatDoorZ23
import Derived.Test.YtpccbmechgkogaaGreatDoorZ24
import Derived.Test.YtpccbmechgkogaaGreatDoorZ26
import Derived.Test.YtpccbmechgkogaaGreatDoorZ27
import Derived.Test.YtpccbmechgkogaaGreatDoorZ30
import Derived.Test.YtpccbmechgkogaaGreatDoorZ31
set_option linter.unusedVariables false
set_option linter.unusedSimpArgs false
namespace Go.Proofs.YtpccbmechgkogaaGreatDoor.ClkBorn
open Go.RowKit Go.Proofs.YtpccbmechgkogaaGreatDoor.P Go.Proofs.YtpccbmechgkogaaGreatDoorW.PrintWords Go.Proofs.YtpccbmechgkogaaGreatDoorW.PrintLast Go.Proofs.YtpccbmechgkogaaGreatDoorW.PrintMore Go.Proofs.YtpccbmechgkogaaGreatDoor.PureKit Go.Proofs.YtpccbmechgkogaaGreatDoor.BkSpec Go.Proofs.YtpccbmechgkogaaGreatDoor.Wk Go.Proofs.YtpccbmechgkogaaGreatDoor.Close Go.Proofs.YtpccbmechgkogaaGreatDoor.BkOk Go.Proofs.YtpccbmechgkogaaGreatDoor.DpChk Go.Proofs.YtpccbmechgkogaaGreatDoor.DpFind Go.Proofs.YtpccbmechgkogaaGreatDoor.BkUps Go.Proofs.YtpccbmechgkogaaGreatDoor.PtLack Go.Proofs.YtpccbmechgkogaaGreatDoor.Clk Go.Proofs.YtpccbmechgkogaaGreatDoor.ClkTick Go.Proofs.YtpccbmechgkogaaGreatDoor.ClkShut
structure LaidB (W : World) (ok : Nat → Prop) (l : List B) (s : ByteArray) (v : Value) (vb : Nat) (w' : World) : Prop where
 n : Kd.N kB tB w' W.heap.size (fun k => ok k ∨ W.heap.size ≤ k) v l
 b : w'.heap[vb]? = some (.cells #[.string s, .int .i64 0, .slice none 0 0, .slice none 0 0, .int .u64 0] tB (0, 0))
 ok : ∀ k, False ∨ k = vb → (ok k ∨ W.heap.size ≤ k) ∧ some k ≠ v.ownBlock
 bel : Below W.heap.size W w'
theorem laid_call {W w5 : World} {ok : Nat → Prop} {l : List B} {s : ByteArray} {v : Value} (h : Kd.N kB tB w5 W.drew.heap.size (fun k => ok k ∨ W.drew.heap.size ≤ k) v l) (hB : Below W.heap.size W w5) (hk : ∀ k, ok k → k < W.heap.size) : LaidB W ok l s v w5.heap.size (w5.alloc (.cells #[.string s, .int .i64 0, .slice none 0 0, .slice none 0 0, .int .u64 0] tB)) :=
 ⟨Kd.N_alloc h _, blk_new w5 _, fun k hq => by
  rcases hq with h0 | rfl
  ·exact h0.elim
  ·exact ⟨.inr hB.size, fun e => by have := Kd.N_lt h _ e.symm; omega⟩, below_alloc hB _⟩
theorem laid_box {W w5 : World} {ok : Nat → Prop} {l : List B} {s : ByteArray} {v : Value} (h : Kd.N kB tB w5 (W.drew.alloc (.cells #[.string s, .int .i64 0, .slice none 0 0, .slice none 0 0, .int .u64 0] tB)).heap.size (fun k => ok k ∨ (W.drew.alloc (.cells #[.string s, .int .i64 0, .slice none 0 0, .slice none 0 0, .int .u64 0] tB)).heap.size ≤ k) v l) (hB : Below (W.drew.alloc (.cells #[.string s, .int .i64 0, .slice none 0 0, .slice none 0 0, .int .u64 0] tB)).heap.size (W.drew.alloc (.cells #[.string s, .int .i64 0, .slice none 0 0, .slice none 0 0, .int .u64 0] tB)) w5) (hk : ∀ k, ok k → k < W.heap.size) : LaidB W ok l s v W.heap.size w5 := by
 have hs : (W.drew.alloc (.cells #[.string s, .int .i64 0, .slice none 0 0, .slice none 0 0, .int .u64 0] tB)).heap.size = W.heap.size + 1 := Array.size_push _
 rw [hs] at h
 exact ⟨Kd.N_mono (Kd.N_lower h (Nat.le_succ _)) (fun k hk => hk.imp id (fun h => by omega)), blk_below (blk_new W.drew _) hB, fun k hq => by
  rcases hq with h0 | rfl
  ·exact h0.elim
  ·exact ⟨.inr (Nat.le_refl _), fun e => by have := Kd.N_base h _ e.symm; omega⟩, below_step (below_alloc (below_drew (Below.refl _ _)) _) hB⟩
theorem newF (w : World) (s : ByteArray) : Kd.FK kB w (fun _ => False) (⟨s, 0, [], [], 0⟩ : B) [.string s, .int .i64 0, .slice none 0 0, .slice none 0 0, .int .u64 0] :=
 k40_mkF w _ (⟨s, 0, [], [], 0⟩ : B) (Nat.le_refl 0) (Kd.F_nil _ _ _) (Nat.le_refl 0) (Kd.F_nil _ _ _)
theorem new_ok {now : Int} {s : ByteArray} (h : NameW.bucketB s = true) : Ok now (⟨s, 0, [], [], 0⟩ : B) :=
 ⟨h, (by decide : (0 : Int) ≤ 0), (by decide : (0 : Int) ≤ 2), (by decide : (0 : Int) ≤ 0), (by decide : (0 : Int) ≤ 281474976710655), rfl, rfl, (by decide : (octI [] + octU [] : Int) ≤ 20000), fun x hx => absurd hx (by simp), fun u hu => absurd hu (by simp)⟩
def behind (s : ByteArray) (x : B) : Bool := Op.bytesLess s.toList x.f0.toList
theorem dep_born {now : Int} {l : List B} {s : ByteArray} (h : DepOk now l) (hs : NameW.bucketB s = true) (hno : ∀ x ∈ l, x.f0 ≠ s) (hlen : l.length ≠ 6) {i : Nat} (hi : i ≤ l.length) (h1 : ∀ j (hj : j < l.length), j < i → behind s l[j] = false) (h2 : ∀ (hi : i < l.length), behind s l[i] = true) : DepOk now (l.take i ++ [(⟨s, 0, [], [], 0⟩ : B)] ++ l.drop i) := by
 have hL := h.len
 refine ⟨h.n0, h.n1, by simp; omega, fun x hx => ?_, ?_⟩
 ·simp only [List.mem_append, List.mem_singleton] at hx
  rcases hx with (hx | rfl) | hx
  ·exact h.ok x (List.mem_of_mem_take hx)
  ·exact new_ok hs
  ·exact h.ok x (List.mem_of_mem_drop hx)
 ·have hr := h.rise
  have hsplit := hr
  rw [← List.take_append_drop i l, List.pairwise_append] at hsplit
  have ha : ∀ x ∈ l.take i, Op.bytesLess x.f0.toList s.toList = true := fun x hx => by
   obtain ⟨j, hj, rfl⟩ := List.getElem_of_mem hx
   rw [List.length_take] at hj
   rw [List.getElem_take]
   have hb := h1 j (by omega) (by omega)
   cases hc : Op.bytesLess (l[j]'(by omega)).f0.toList s.toList with
   | true => rfl
   | false => exact absurd (toList_inj (IdxSpec.lt_tri (a := (l[j]'(by omega)).f0) (b := s) hc hb)) (hno _ (List.getElem_mem _))
  have hb : ∀ x ∈ l.drop i, Op.bytesLess s.toList x.f0.toList = true := fun x hx => by
   obtain ⟨j, hj, rfl⟩ := List.getElem_of_mem hx
   rw [List.length_drop] at hj
   rw [List.getElem_drop]
   have h0 := h2 (by omega)
   by_cases hj0 : j = 0
   ·subst hj0; exact h0
   ·exact IdxSpec.lt_trans (a := s) (b := (l[i]'(by omega)).f0) (c := (l[i + j]'(by omega)).f0) h0 (List.pairwise_iff_getElem.1 hr i (i + j) (by omega) (by omega) (by omega))
  rw [List.pairwise_append, List.pairwise_append]
  refine ⟨⟨hsplit.1, List.pairwise_singleton _ _, fun x hx y hy => ?_⟩, hsplit.2.1, fun x hx y hy => ?_⟩
  ·rw [List.mem_singleton] at hy; subst hy; exact ha x hx
  ·rcases List.mem_append.1 hx with hx | hx
   ·exact hsplit.2.2 x hx y hy
   ·rw [List.mem_singleton] at hx; subst hx; exact hb y hy
set_option maxRecDepth 100000 in
set_option maxHeartbeats 1600000 in
theorem bornC (s : ByteArray) (x : B) (A2 : Option Addr) (c2 : Nat) (A3 : Option Addr) (c3 : Nat) (b0 : Nat) (w : World) (h0 : w.heap[b0]? = some (.cells #[.string s, .int .i64 0, .slice none 0 0, .slice none 0 0, .int .u64 0] tB (0, 0))) :
  Calls Tryz.prog 51 #[.agg #[.string x.f0, .int .i64 x.f1, .slice A2 x.f2.length c2, .slice A3 x.f3.length c3, .int .u64 x.f4], .pointer (some ⟨b0, 0, none⟩)] w fun e w' => e = .returned (.bool (behind s x)) ∧ Below w.heap.size w w' := by
 unfold behind
 have hu := Tryz.underlying40
 have hz0 := fun (o : Obj) j => blk_cell (blk_alloc h0 o) j
 have hza := fun j => blk_cell (blk_new w (.cells #[.string x.f0, .int .i64 x.f1, .slice A2 x.f2.length c2, .slice A3 x.f3.length c3, .int .u64 x.f4] 40)) j
 have HB := Aside0.mk (below_alloc (Below.refl w.heap.size w) (.cells #[.string x.f0, .int .i64 x.f1, .slice A2 x.f2.length c2, .slice A3 x.f3.length c3, .int .u64 x.f4] 40))
 clear h0
 go_enter Tryz.func51, Tryz.ntmps51
 go_wp2
 go_ret
 exact ⟨rfl, HB.out⟩
set_option maxRecDepth 100000 in
set_option maxHeartbeats 6400000 in
theorem born_any (w : World) (g : Nat) (q : Q) (vp : Value) (now : Int) (vl : Value) (l : List B) (b : B) (v2 v3 : Value) (ti : Int) (tt : ByteArray) (h : CAt w g q vp now vl l b v2 v3 ti tt 0) (hd : DepOk now l) :
  Calls Tryz.prog 16 #[.pointer (some ⟨g, 0, none⟩)] w (Alls w g vp) := by
 have hmf : ∀ (fn : Fn) (first cap : Array Value) (w : World), (Instr.makeFunc fn first cap).run Tryz.prog w = .ok (.func fn first cap) w := fun _ _ _ _ => rfl
 have hu := Tryz.underlying40
 have hud := Tryz.underlying25
 have HC := Aside0.mk h
 have HD := Aside0.mk hd
 obtain ⟨AL, cl, rfl⟩ := Kd.V_slice h.rl
 have hz := fun j => blk_cell h.blk j
 clear h hd
 go_enter Tryz.func16, Tryz.ntmps16
 go_wp2_with fail
 refine (BkTurn.new_any w q.f1).mono ?_
 rintro en w1 ⟨s, er, rfl, hs, hb1⟩
 have hba := below_alloc hb1 (.cells #[.string s, .int .i64 0, .slice none 0 0, .slice none 0 0, .int .u64 0] tB)
 have HC1 := Aside0.mk (HC.out.below hba)
 have HG1 := Aside0.mk (grown_of_below hba (some g))
 have HSE := Aside0.mk hs
 have KB := blk_new w1 (.cells #[.string s, .int .i64 0, .slice none 0 0, .slice none 0 0, .int .u64 0] tB)
 obtain ⟨b0, hb0⟩ : ∃ b0, b0 = w1.heap.size := ⟨_, rfl⟩
 rw [← hb0] at KB
 have HNE : Aside0 (b0 ≠ g) := ⟨by have := HC.out.lt; have := hb1.size; omega⟩
 obtain ⟨wA, hwA⟩ : ∃ wA, wA = w1.alloc (.cells #[.string s, .int .i64 0, .slice none 0 0, .slice none 0 0, .int .u64 0] tB) := ⟨_, rfl⟩
 rw [← hwA] at KB HC1 HG1
 have KB1 := Aside0.mk KB
 clear hb1 hba hz hs KB
 go_wp2_with fail
 rw [← hwA]
 (try rw [← hb0])
 clear hwA hb0
 refine (no_any wA g q vp now _ l b v2 v3 ti tt 0 HC1.out er).mono ?_
 rintro en w2 ⟨rfl, hC2, hg2⟩
 have HC2 := Aside0.mk (show CAt w2 g q vp now _ l b v2 v3 ti tt er from hC2)
 have HG2 := Aside0.mk (grown_then HG1.out hg2 (.inr rfl))
 have KB2 := Aside0.mk (grown_blk hg2 KB1.out HNE.out)
 have hz := fun j => blk_cell HC2.out.blk j
 clear hC2 hg2
 by_cases he : er = 0
 case neg =>
  have d1 : (er != 0) = true := bne_iff_ne.mpr he
  have HE := Aside0.mk he
  clear he
  go_wp2
  (first | go_end0 | ((try simp only [Exit.inBlock, Exit.then]); refine bodyPost_ret (results_none rfl _ _ _) rfl ?_))
  exact ⟨q, now, _, l, b, v2, v3, ti, tt, er, ⟨rfl, HC2.out, HG2.out⟩, fun h => absurd h HE.out⟩
 subst he
 obtain ⟨hsq, hsb⟩ := HSE.out rfl
 subst hsq
 have HSB := Aside0.mk hsb
 have hF := Kd.V_bound HC2.out.rl
 obtain ⟨_, _, e0, hcl, hFl⟩ := hF
 injection e0 with e0a _ e0c
 subst e0a
 subst e0c
 have HRL := Aside0.mk (Kd.F_now hFl)
 have HT0 : Aside0 (w2.cell? ⟨g, 9, none⟩ = some (.int .i64 now)) := ⟨(hz 9).trans rfl⟩
 have HT1 : Aside0 (w2.cell? ⟨g, 10, none⟩ = some (.slice AL l.length cl)) := ⟨(hz 10).trans rfl⟩
 have HT2 : Aside0 (w2.cell? ⟨g, 1, none⟩ = some (.string q.f1)) := ⟨(hz 1).trans rfl⟩
 clear hsb HSE hFl hcl
 go_wp2_with fail
 refine start_ (n := 12) (S := fun w' => w'.cell? ⟨g, 9, none⟩ = some (.int .i64 now) ∧ w'.cell? ⟨g, 10, none⟩ = some (.slice AL l.length cl) ∧ w'.cell? ⟨g, 1, none⟩ = some (.string q.f1)) (ds := []) (bb 12 0) (by kernel_rfl) rfl rfl ⟨HT0.out, HT1.out, HT2.out⟩ (fun hHeld => ?_)
 refine pu 0 25 (h := pu 1 26 (h := pu 2 27 (h := pu 4 29 (h := pu 5 30 (h := pu 6 31 (h := pu 7 32 (h := ta 3 28 hHeld (h := ta 8 33 hHeld (h := on_ 9 34 (h := fun K hK => ?_))))))))))
 refine goes_ Tryz.func49 (by kernel_rfl) rfl #[.agg #[.int .i64 now, .slice AL l.length cl], .string q.f1] (by rfl) rfl rfl (by simp only [List.map_toArray, List.map_cons, List.map_nil]; rfl) ?_
 refine (DpLate.place_any now AL cl l q.f1 w2.drew (Kd.C_drew HRL.out)).mono ?_
 rintro e3 w3 ⟨rfl, hb3⟩
 refine ⟨_, rfl, ?_⟩
 have HB3 := Aside0.mk (below_step (below_drew (Below.refl w2.heap.size w2)) hb3)
 clear hb3
 refine hK.out _ _ ⟨(pw_cell_below HB3.out HT0.out), (pw_cell_below HB3.out HT1.out), (pw_cell_below HB3.out HT2.out)⟩ (fun hHeld => ?_)
 clear hK K
 refine nm (h := pu 10 35 (h := pu 11 24 (h := dn (h := ?_))))
 clear hHeld
 have HC3 := Aside0.mk (HC2.out.below HB3.out)
 have HG3 := Aside0.mk (grown_then HG2.out (grown_of_below HB3.out (some g)) (.inr rfl))
 have KB3 := Aside0.mk (blk_below KB2.out HB3.out)
 clear hz
 have hz := fun j => blk_cell HC3.out.blk j
 obtain ⟨i0, hi0⟩ : ∃ i, i = IdxG.idx (DpLate.named q.f1) l := ⟨_, rfl⟩
 rw [← hi0]
 rcases hfi : l.findIdx? (DpLate.named q.f1) with _ | k0
 case some =>
  have hi2 : i0 = (k0 : Int) := by rw [hi0]; unfold IdxG.idx; rw [hfi]
  subst hi2
  have d2 : decide ((k0 : Int) ≥ 0) = true := by rw [decide_eq_true_iff]; omega
  clear hi0 hfi
  go_wp2_with fail
  refine (no_any w3 g q vp now _ l b v2 v3 ti tt 0 HC3.out 5).mono ?_
  rintro en w5 ⟨rfl, hC5, hg5⟩
  have HC5 := Aside0.mk (show CAt w5 g q vp now _ l b v2 v3 ti tt 5 from hC5)
  have HG5 := Aside0.mk (grown_then HG3.out hg5 (.inr rfl))
  clear hC5 hg5 hz
  go_wp2
  (first | go_end0 | ((try simp only [Exit.inBlock, Exit.then]); refine bodyPost_ret (results_none rfl _ _ _) rfl ?_))
  exact ⟨q, now, _, l, b, v2, v3, ti, tt, 5, ⟨rfl, HC5.out, HG5.out⟩, fun h => absurd h (by decide)⟩
 have hi2 : i0 = -1 := by rw [hi0]; unfold IdxG.idx; rw [hfi]
 have HNO : Aside0 (∀ x ∈ l, x.f0 ≠ q.f1) := ⟨fun x hx e => by
  have := List.findIdx?_eq_none_iff.1 hfi x hx
  rw [named_iff.2 e] at this
  cases this⟩
 subst hi2
 clear hi0 hfi
 by_cases h6 : l.length = 6
 ·have d3 : ((l.length : Int) == 6) = true := by rw [beq_iff_eq]; omega
  clear h6
  go_wp2_with fail
  refine (no_any w3 g q vp now _ l b v2 v3 ti tt 0 HC3.out 6).mono ?_
  rintro en w5 ⟨rfl, hC5, hg5⟩
  have HC5 := Aside0.mk (show CAt w5 g q vp now _ l b v2 v3 ti tt 6 from hC5)
  have HG5 := Aside0.mk (grown_then HG3.out hg5 (.inr rfl))
  clear hC5 hg5 hz
  go_wp2
  (first | go_end0 | ((try simp only [Exit.inBlock, Exit.then]); refine bodyPost_ret (results_none rfl _ _ _) rfl ?_))
  exact ⟨q, now, _, l, b, v2, v3, ti, tt, 6, ⟨rfl, HC5.out, HG5.out⟩, fun h => absurd h (by decide)⟩
 have d3 : ((l.length : Int) == 6) = false := by rw [beq_eq_false_iff_ne]; omega
 have H6 := Aside0.mk h6
 clear h6
 have hRL3 := Kd.C_below HRL.out HB3.out
 have CI := IxB.index_any 51 #[.pointer (some ⟨b0, 0, none⟩)] (fun _ _ => by rfl) (behind q.f1) AL cl l w3 hRL3 (fun W x A2 c2 A3 c3 _ hB _ _ _ _ => bornC q.f1 x A2 c2 A3 c3 b0 W (blk_below KB3.out hB))
 have HCI := Aside0.mk CI
 clear CI hRL3
 go_wp2_with fail
 refine HCI.out.mono ?_
 rintro en w4 ⟨rfl, hb4⟩
 have HC4 := Aside0.mk (HC3.out.below hb4)
 have HG4 := Aside0.mk (grown_then HG3.out (grown_of_below hb4 (some g)) (.inr rfl))
 have KB4 := Aside0.mk (blk_below KB3.out hb4)
 have hF4 := Kd.V_bound HC4.out.rl
 obtain ⟨_, _, e0, hcl, hFl⟩ := hF4
 injection e0 with e0a _ e0c
 subst e0a
 subst e0c
 have HFl := Aside0.mk (Kd.F_drew hFl)
 have HFl0 := Aside0.mk hFl
 clear hz hb4 HCI d3 hFl hcl
 have hz := fun j => blk_cell HC4.out.blk j
 have HU0 : Aside0 (w4.cell? ⟨g, 10, none⟩ = some (.slice AL l.length cl)) := ⟨(hz 10).trans rfl⟩
 have HU1 : Aside0 (w4.cell? ⟨b0, 0, none⟩ = some (.string q.f1)) := ⟨(blk_cell KB4.out 0).trans rfl⟩
 have HU2 : Aside0 (w4.cell? ⟨b0, 1, none⟩ = some (.int .i64 0)) := ⟨(blk_cell KB4.out 1).trans rfl⟩
 have HU3 : Aside0 (w4.cell? ⟨b0, 2, none⟩ = some (.slice none 0 0)) := ⟨(blk_cell KB4.out 2).trans rfl⟩
 have HU4 : Aside0 (w4.cell? ⟨b0, 3, none⟩ = some (.slice none 0 0)) := ⟨(blk_cell KB4.out 3).trans rfl⟩
 have HU5 : Aside0 (w4.cell? ⟨b0, 4, none⟩ = some (.int .u64 0)) := ⟨(blk_cell KB4.out 4).trans rfl⟩
 obtain ⟨i1, hi1⟩ : ∃ i, i = IdxG.idx (behind q.f1) l := ⟨_, rfl⟩
 rw [← hi1]
 rcases hfj : l.findIdx? (behind q.f1) with _ | k1
 case' none =>
  have hi2 : i1 = -1 := by rw [hi1]; unfold IdxG.idx; rw [hfj]
  subst hi2
  obtain ⟨i, hin⟩ : ∃ i : Nat, i = l.length := ⟨_, rfl⟩
  have HI : Aside0 (i ≤ l.length) := ⟨by omega⟩
  have HI1 : Aside0 (∀ j (hj : j < l.length), j < i → behind q.f1 l[j] = false) := ⟨fun j hj _ => by
   have := List.findIdx?_eq_none_iff.1 hfj l[j] (List.getElem_mem hj)
   simpa using this⟩
  have HI2 : Aside0 (∀ (hi : i < l.length), behind q.f1 l[i] = true) := ⟨fun hi => by omega⟩
  clear hi1 hfj
  go_wp2_with fail
  rw [← hin]
 case' some =>
  have hi2 : i1 = (k1 : Int) := by rw [hi1]; unfold IdxG.idx; rw [hfj]
  subst hi2
  obtain ⟨hk, hpk, hnk⟩ := List.findIdx?_eq_some_iff_getElem.1 hfj
  obtain ⟨i, hin⟩ : ∃ i : Nat, i = k1 := ⟨_, rfl⟩
  have HI : Aside0 (i ≤ l.length) := ⟨by omega⟩
  have HI1 : Aside0 (∀ j (hj : j < l.length), j < i → behind q.f1 l[j] = false) := ⟨fun j hj hji => by
   have := hnk j (by omega)
   simpa using this⟩
  have HI2 : Aside0 (∀ (hi : i < l.length), behind q.f1 l[i] = true) := ⟨fun hi => by subst hin; exact hpk⟩
  have d4 : decide ((k1 : Int) < 0) = false := by rw [decide_eq_false_iff_not]; omega
  clear hi1 hfj hpk hnk hk
  go_wp2_with fail
  rw [← hin]
 all_goals
  (try clear d4)
  clear hin hz
  refine start_ (n := 15) (S := fun w' => w'.cell? ⟨g, 10, none⟩ = some (.slice AL l.length cl) ∧ w'.cell? ⟨b0, 0, none⟩ = some (.string q.f1) ∧ w'.cell? ⟨b0, 1, none⟩ = some (.int .i64 0) ∧ w'.cell? ⟨b0, 2, none⟩ = some (.slice none 0 0) ∧ w'.cell? ⟨b0, 3, none⟩ = some (.slice none 0 0) ∧ w'.cell? ⟨b0, 4, none⟩ = some (.int .u64 0)) (ds := [14]) (bb 15 0) (by kernel_rfl) rfl rfl ⟨HU0.out, HU1.out, HU2.out, HU3.out, HU4.out, HU5.out⟩ (fun hHeld => ?_)
  refine pu 0 63 (h := pu 1 64 (h := pu 2 65 (h := pu 3 66 (h := pu 4 67 (h := pu 7 70 (h := ta 5 68 hHeld (h := ta 8 71 hHeld (h := ?_))))))))
  refine join_ (σ := Value × Nat) 5 (bb 15 1023) (fun s_ => [(69, s_.1), (72, .slice (some ⟨s_.2, 0, none⟩) 1 1)]) (fun s_ w' => LaidB w4 (fun k => okg g k ∧ k < w4.heap.size) l q.f1 s_.1 s_.2 w') ?_ ?_
  rotate_left
  ·intro hCont
   refine two_ (i := 6) (j := 9) (Ni := some 69) (Nj := some 72) (bb 15 511) (bb 15 959) rfl rfl rfl rfl (by kernel_rfl) (by decide) (by decide) (fun K hK => ?_) (fun K hK => ?_)
   ·skip
    refine goes_ Tryz.func53 (by kernel_rfl) rfl #[.slice AL l.length cl] (by rfl) rfl rfl (by simp only [List.map_toArray, List.map_cons, List.map_nil]; rfl) ?_
    refine (ClB.clone_any w4.drew (fun k => okg g k ∧ k < w4.heap.size) (fun k hk => hk.2) AL cl l (Kd.F_drew HFl.out) (by have := HD.out.len; omega)).mono ?_
    rintro e5 w5 ⟨v5, rfl, hN5, hb5⟩
    refine ⟨_, rfl, ?_⟩
    have HN5 := Aside0.mk hN5
    have HB5 := Aside0.mk (below_step (below_drew (Below.refl w4.heap.size w4)) hb5)
    have HY5 := Aside0.mk hb5
    clear hN5 hb5
    refine hK.out _ _ ⟨(pw_cell_below HB5.out HU0.out), (pw_cell_below HB5.out HU1.out), (pw_cell_below HB5.out HU2.out), (pw_cell_below HB5.out HU3.out), (pw_cell_below HB5.out HU4.out), (pw_cell_below HB5.out HU5.out)⟩ (fun hHeld => ?_)
    clear hK K
    refine nm (h := on_ 9 72 (h := fun K hK => ?_))
    refine value_ (w1 := ?_) (v := ?_) (by rfl) rfl ?_ ?_
    rotate_left 2
    ·go_simp
     constructor
     ·rfl
     ·rfl
    refine hK.out _ _ ⟨(pw_cell_below (below_alloc HB5.out (.cells #[.string q.f1, .int .i64 0, .slice none 0 0, .slice none 0 0, .int .u64 0] tB)) HU0.out), (pw_cell_below (below_alloc HB5.out (.cells #[.string q.f1, .int .i64 0, .slice none 0 0, .slice none 0 0, .int .u64 0] tB)) HU1.out), (pw_cell_below (below_alloc HB5.out (.cells #[.string q.f1, .int .i64 0, .slice none 0 0, .slice none 0 0, .int .u64 0] tB)) HU2.out), (pw_cell_below (below_alloc HB5.out (.cells #[.string q.f1, .int .i64 0, .slice none 0 0, .slice none 0 0, .int .u64 0] tB)) HU3.out), (pw_cell_below (below_alloc HB5.out (.cells #[.string q.f1, .int .i64 0, .slice none 0 0, .slice none 0 0, .int .u64 0] tB)) HU4.out), (pw_cell_below (below_alloc HB5.out (.cells #[.string q.f1, .int .i64 0, .slice none 0 0, .slice none 0 0, .int .u64 0] tB)) HU5.out)⟩ (fun hHeld => ?_)
    clear hK K
    refine nm (h := ?_)
    exact norm_ (by simp only [putAll, Act.put, List.setIfInBounds_toArray, List.set_cons_zero, List.set_cons_succ]) (hCont (v5, w5.heap.size) _ (laid_call HN5.out HB5.out (fun k hk => hk.2)))
   ·skip
    refine value_ (w1 := ?_) (v := ?_) (by rfl) rfl ?_ ?_
    rotate_left 2
    ·go_simp
     constructor
     ·rfl
     ·rfl
    refine hK.out _ _ ⟨(pw_cell_below (below_alloc (below_drew (Below.refl w4.heap.size w4)) (.cells #[.string q.f1, .int .i64 0, .slice none 0 0, .slice none 0 0, .int .u64 0] tB)) HU0.out), (pw_cell_below (below_alloc (below_drew (Below.refl w4.heap.size w4)) (.cells #[.string q.f1, .int .i64 0, .slice none 0 0, .slice none 0 0, .int .u64 0] tB)) HU1.out), (pw_cell_below (below_alloc (below_drew (Below.refl w4.heap.size w4)) (.cells #[.string q.f1, .int .i64 0, .slice none 0 0, .slice none 0 0, .int .u64 0] tB)) HU2.out), (pw_cell_below (below_alloc (below_drew (Below.refl w4.heap.size w4)) (.cells #[.string q.f1, .int .i64 0, .slice none 0 0, .slice none 0 0, .int .u64 0] tB)) HU3.out), (pw_cell_below (below_alloc (below_drew (Below.refl w4.heap.size w4)) (.cells #[.string q.f1, .int .i64 0, .slice none 0 0, .slice none 0 0, .int .u64 0] tB)) HU4.out), (pw_cell_below (below_alloc (below_drew (Below.refl w4.heap.size w4)) (.cells #[.string q.f1, .int .i64 0, .slice none 0 0, .slice none 0 0, .int .u64 0] tB)) HU5.out)⟩ (fun hHeld => ?_)
    clear hK K
    refine nm (h := on_ 6 69 (h := fun K hK => ?_))
    refine goes_ Tryz.func53 (by kernel_rfl) rfl #[.slice AL l.length cl] (by rfl) rfl rfl (by simp only [List.map_toArray, List.map_cons, List.map_nil]; rfl) ?_
    refine (ClB.clone_any (w4.drew.alloc (.cells #[.string q.f1, .int .i64 0, .slice none 0 0, .slice none 0 0, .int .u64 0] tB)) (fun k => okg g k ∧ k < w4.heap.size) (fun k hk => Nat.lt_of_lt_of_le hk.2 (below_alloc (below_drew (Below.refl w4.heap.size w4)) (.cells #[.string q.f1, .int .i64 0, .slice none 0 0, .slice none 0 0, .int .u64 0] tB)).size) AL cl l (Kd.F_below HFl0.out (below_alloc (below_drew (Below.refl w4.heap.size w4)) (.cells #[.string q.f1, .int .i64 0, .slice none 0 0, .slice none 0 0, .int .u64 0] tB))) (by have := HD.out.len; omega)).mono ?_
    rintro e5 w5 ⟨v5, rfl, hN5, hb5⟩
    refine ⟨_, rfl, ?_⟩
    have HN5 := Aside0.mk hN5
    have HB5 := Aside0.mk (below_step (below_alloc (below_drew (Below.refl w4.heap.size w4)) (.cells #[.string q.f1, .int .i64 0, .slice none 0 0, .slice none 0 0, .int .u64 0] tB)) hb5)
    have HY5 := Aside0.mk hb5
    clear hN5 hb5
    refine hK.out _ _ ⟨(pw_cell_below HB5.out HU0.out), (pw_cell_below HB5.out HU1.out), (pw_cell_below HB5.out HU2.out), (pw_cell_below HB5.out HU3.out), (pw_cell_below HB5.out HU4.out), (pw_cell_below HB5.out HU5.out)⟩ (fun hHeld => ?_)
    clear hK K
    refine nm (h := ?_)
    exact norm_ (by simp only [putAll, Act.put, List.setIfInBounds_toArray, List.set_cons_zero, List.set_cons_succ]) (hCont (v5, w4.heap.size) _ (laid_box HN5.out HY5.out (fun k hk => hk.2)))
  rintro ⟨v5, vb⟩ w5 hL
  obtain ⟨A5, c5, rfl⟩ := Kd.N_slice hL.n
  have HL := Aside0.mk (show LaidB w4 (fun k => okg g k ∧ k < w4.heap.size) l q.f1 (.slice A5 l.length c5) vb w5 from hL)
  have hHeld := And.intro (pw_cell_below HL.out.bel HU0.out) (And.intro (pw_cell_below HL.out.bel HU1.out) (And.intro (pw_cell_below HL.out.bel HU2.out) (And.intro (pw_cell_below HL.out.bel HU3.out) (And.intro (pw_cell_below HL.out.bel HU4.out) (pw_cell_below HL.out.bel HU5.out)))))
  clear hL
  refine norm_ (a' := ?_) ?_ ?_
  rotate_left
  ·simp only [putAll, Act.put, List.setIfInBounds_toArray, List.set_cons_zero, List.set_cons_succ]
   rfl
  refine on_ 10 73 (h := fun K hK => ?_)
  refine goes_ Tryz.func52 (by kernel_rfl) rfl #[.slice A5 l.length c5, .int .i64 (i : Int), .slice (some ⟨vb, 0, none⟩) 1 1] (by rfl) rfl rfl (by simp only [List.map_toArray, List.map_cons, List.map_nil]; rfl) ?_
  refine (InsB.insert_any w5 w4.heap.size i _ (fun _ => False) (.slice A5 l.length c5) l (⟨q.f1, 0, [], [], 0⟩ : B) [.string q.f1, .int .i64 0, .slice none 0 0, .slice none 0 0, .int .u64 0] vb tB HL.out.n (by have := HD.out.len; omega) HI.out HL.out.b (newF w5 q.f1) HL.out.ok HL.out.bel.size).mono ?_
  rintro e6 w6 ⟨v6, rfl, hR6, hb6⟩
  generalize hps : l.take i ++ [(⟨q.f1, 0, [], [], 0⟩ : B)] ++ l.drop i = ps at hR6
  obtain ⟨A6, c6, rfl⟩ := Kd.V_slice hR6
  refine ⟨_, rfl, ?_⟩
  have HPS := Aside0.mk hps
  have HR6 := Aside0.mk (show Rd kB w6 _ (.slice A6 ps.length c6) ps from hR6)
  have HB6 := Aside0.mk (show Below w4.heap.size w4 w6 from HL.out.bel.trans hb6)
  have HC6 := Aside0.mk (HC4.out.below HB6.out)
  have hz6 := fun j => blk_cell HC6.out.blk j
  have hf6 := fun j => blk_frozen HC6.out.blk j
  clear hR6 hb6 hps
  refine hK.out _ _ ⟨(pw_cell_below HB6.out HU0.out), (pw_cell_below HB6.out HU1.out), (pw_cell_below HB6.out HU2.out), (pw_cell_below HB6.out HU3.out), (pw_cell_below HB6.out HU4.out), (pw_cell_below HB6.out HU5.out)⟩ (fun hHeld => ?_)
  clear hK K
  refine nm (h := pu 11 74 (h := pu 12 75 (h := pu 13 76 (h := ln_ 14 (h := fun K hK => ?_)))))
  refine skip_ (w1 := ?_) (by rfl) rfl ?_ ?_
  rotate_left
  ·go_simp
   rfl
  refine hK.out _ _ ?_
  clear hK K
  refine dn (h := ?_)
  (try clear hHeld)
  have hlt4 := HC4.out.lt
  have HCF := Aside0.mk (CAt.setL HC6.out (Kd.V_mono HR6.out (ok' := okg g) (fun q hq => by
   rcases hq with (h | h) | h
   ·exact h.1
   ·have h2 : w4.heap.size ≤ q := h
    exact ⟨by omega, by omega, by omega⟩
   ·have h2 : w5.heap.size ≤ q := h
    have h3 := HL.out.bel.size
    exact ⟨by omega, by omega, by omega⟩)))
  (first | go_end0 | ((try simp only [Exit.inBlock, Exit.then]); refine bodyPost_ret (results_none rfl _ _ _) rfl ?_))
  exact ⟨q, now, .slice A6 ps.length c6, ps, b, v2, v3, ti, tt, 0, ⟨rfl, HCF.out, grown_then (grown_then HG4.out (grown_of_below HB6.out (some g)) (.inr rfl)) (grown_set w6 g 10 _) (.inr rfl)⟩, fun _ => by rw [← HPS.out]; exact dep_born HD.out HSB.out HNO.out H6.out HI.out HI1.out HI2.out⟩
end Go.Proofs.YtpccbmechgkogaaGreatDoor.ClkBorn
