/-
  Lemmas: Do.
-/
import Derived.Test.YtpccbmechgkogaaGreatDoorProg
import Derived.Test.YtpccbmechgkogaaGreatDoorV0
import Derived.Test.YtpccbmechgkogaaGreatDoorZ01
import Derived.Test.YtpccbmechgkogaaGreatDoorZ02
import Derived.Test.YtpccbmechgkogaaGreatDoorZ04
import Derived.Test.YtpccbmechgkogaaGreatDoorZ06
import Derived.Test.YtpccbmechgkogaaGreatDoorZ07
import Derived.Test.YtpccbmechgkogaaGreatDoorZ10
import Derived.Test.YtpccbmechgkogaaGreatDoorZ11
import Derived.Test.YtpccbmechgkogaaGreatDoorZ12
import Derived.Test.YtpccbmechgkogaaGreatDoorZ13
import Derived.Test.YtpccbmechgkogaaGreatDoorZ14
import Derived.Test.YtpccbmechgkogaaGreatDoorZ15
import Derived.Test.YtpccbmechgkogaaGreatDoorZ16
import Derived.Test.YtpccbmechgkogaaGreatDoorZ17
import Derived.Test.YtpccbmechgkogaaGreatDoorZ18
import Derived.Test.YtpccbmechgkogaaGreatDoorZ19
import Derived.Test.YtpccbmechgkogaaGreatDoorZ20
import Derived.Test.YtpccbmechgkogaaGreatDoorZ21
import Derived.Test.YtpccbmechgkogaaGreatDoorZ22
import Derived.Test.YtpccbmechgkogaaGreatDoorZ23
import Derived.Test.YtpccbmechgkogaaGreatDoorZ25
import Derived.Test.YtpccbmechgkogaaGreatDoorZ26
import Derived.Test.YtpccbmechgkogaaGreatDoorZ27
import Derived.Test.YtpccbmechgkogaaGreatDoorZ28
import Derived.Test.YtpccbmechgkogaaGreatDoorZ29
import Derived.Test.YtpccbmechgkogaaGreatDoorZ30
import Derived.Test.YtpccbmechgkogaaGreatDoorZ32
import Derived.Test.YtpccbmechgkogaaGreatDoorZ33
import Derived.Test.YtpccbmechgkogaaGreatDoorZ35
import Derived.Test.YtpccbmechgkogaaGreatDoorZ36
import Derived.Test.YtpccbmechgkogaaGreatDoorZ37
set_option linter.unusedVariables false
set_option linter.unusedSimpArgs false
namespace Go.Proofs.YtpccbmechgkogaaGreatDoor.Do
open Go.RowKit Go.Maps Go.Proofs.YtpccbmechgkogaaGreatDoor.P Go.Proofs.YtpccbmechgkogaaGreatDoorW.PrintWords Go.Proofs.YtpccbmechgkogaaGreatDoor.PureKit Go.Proofs.YtpccbmechgkogaaGreatDoor.BkSpec Go.Proofs.YtpccbmechgkogaaGreatDoor.Wk Go.Proofs.YtpccbmechgkogaaGreatDoor.Close Go.Proofs.YtpccbmechgkogaaGreatDoor.BkOk Go.Proofs.YtpccbmechgkogaaGreatDoor.DpChk Go.Proofs.YtpccbmechgkogaaGreatDoor.DpFind Go.Proofs.YtpccbmechgkogaaGreatDoor.BkUps Go.Proofs.YtpccbmechgkogaaGreatDoor.PtLack Go.Proofs.YtpccbmechgkogaaGreatDoor.Clk Go.Proofs.YtpccbmechgkogaaGreatDoor.ClkOne Go.Proofs.YtpccbmechgkogaaGreatDoor.ClkTick Go.Proofs.YtpccbmechgkogaaGreatDoor.ClkShut Go.Proofs.YtpccbmechgkogaaGreatDoor.DoMap
def Done (w : World) (en : Ending) (w' : World) : Prop :=
 ∃ (now : Int) (vl : Value) (l : List B) (ti : Int) (tt : ByteArray) (e : Int), en = .returned (.tuple #[.agg #[.int .i64 now, vl], .agg #[.int .u64 ti, .string tt, .int .i64 e]]) ∧ Rd kB w' (fun _ => True) vl l ∧ DepOk now l ∧ Below w.heap.size w w'
set_option maxRecDepth 100000 in
set_option maxHeartbeats 6400000 in
theorem do_any (w : World) (now : Int) (vl : Value) (l : List B) (q : Q) (vp : Value) (hl : Rd kB w (fun _ => True) vl l) (hd : DepOk now l) (hp : Rd kI w (fun _ => True) vp q.f8) (h3 : q.f3.size ≤ 9223372036854775807) (h8 : q.f8.length ≤ 40) (hk : (Lit.int .i64 q.f0).wf = true) :
  Calls Tryz.prog 4 #[.agg #[.int .i64 now, vl], .agg #[.int .i64 q.f0, .string q.f1, .string q.f2, .string q.f3, .string q.f4, .string q.f5, .int .u64 q.f6, .int .i64 q.f7, vp]] w (Done w) := by
 have hmm := @run_makeMap Tryz.prog
 have hmf : ∀ (fn : Fn) (first cap : Array Value) (w : World), (Instr.makeFunc fn first cap).run Tryz.prog w = .ok (.func fn first cap) w := fun _ _ _ _ => rfl
 have hu25 := Tryz.underlying25
 have hu34 := Tryz.underlying34
 have hu29 := Tryz.underlying29
 have hu71 := Tryz.underlying71
 obtain ⟨AL, cl, rfl⟩ := Kd.V_slice hl
 obtain ⟨AP, cp, rfl⟩ := Kd.V_slice hp
 have HLL := Aside0.mk (Kd.V_bound hl)
 have HPP := Aside0.mk (Kd.V_bound hp)
 have HD := Aside0.mk hd
 have HH := Aside0.mk (And.intro h3 (And.intro h8 hk))
 clear hl hp hd h3 h8 hk
 obtain ⟨V4, hV4⟩ : ∃ V, V = ((((w.alloc (.cells #[.int .i64 now, .slice AL l.length cl] 25)).alloc (.cells #[.int .i64 q.f0, .string q.f1, .string q.f2, .string q.f3, .string q.f4, .string q.f5, .int .u64 q.f6, .int .i64 q.f7, .slice AP q.f8.length cp] 34)).alloc (.cells #[.int .i64 0, .slice none 0 0] 25)).alloc (.cells #[.int .u64 0, .string ⟨#[]⟩, .int .i64 0] 29)) := ⟨_, rfl⟩
 have hs4 : V4.heap.size = w.heap.size + 1 + 1 + 1 + 1 := by rw [hV4]; simp
 have hb4 : Below w.heap.size w V4 := by rw [hV4]; exact below_alloc (below_alloc (below_alloc (below_alloc (Below.refl _ _) _) _) _) _
 have k0 : V4.heap[w.heap.size]? = some (.cells #[.int .i64 now, .slice AL l.length cl] 25) := by rw [hV4]; exact blk_alloc (blk3a w _ _ _) _
 have k1 : V4.heap[w.heap.size + 1]? = some (.cells #[.int .i64 q.f0, .string q.f1, .string q.f2, .string q.f3, .string q.f4, .string q.f5, .int .u64 q.f6, .int .i64 q.f7, .slice AP q.f8.length cp] 34) := by rw [hV4]; exact blk_alloc (blk3b w _ _ _) _
 have k2 : V4.heap[w.heap.size + 1 + 1]? = some (.cells #[.int .i64 0, .slice none 0 0] 25) := by rw [hV4]; exact blk_alloc (blk3c w _ _ _) _
 have k3 : V4.heap[w.heap.size + 1 + 1 + 1]? = some (.cells #[.int .u64 0, .string ⟨#[]⟩, .int .i64 0] 29) := by rw [hV4]; exact blk4d w _ _ _ _
 obtain ⟨V5, hV5⟩ : ∃ V, V = V4.alloc (.cells #[.int .i64 q.f0, .string q.f1, .string q.f2, .string q.f3, .string q.f4, .string q.f5, .int .u64 q.f6, .int .i64 q.f7, .slice AP q.f8.length cp, .int .i64 now, .slice AL l.length cl, .string ⟨#[]⟩, .int .i64 0, .slice none 0 0, .slice none 0 0, .int .u64 0, .int .u64 0, .string ⟨#[]⟩, .int .i64 0] 71) := ⟨_, rfl⟩
 have hs5 : V5.heap.size = w.heap.size + 1 + 1 + 1 + 1 + 1 := by rw [hV5]; simp [hs4]
 have hb5 : Below w.heap.size w V5 := by rw [hV5]; exact below_alloc hb4 _
 have kc : V5.heap[w.heap.size + 1 + 1 + 1 + 1]? = some (.cells #[.int .i64 q.f0, .string q.f1, .string q.f2, .string q.f3, .string q.f4, .string q.f5, .int .u64 q.f6, .int .i64 q.f7, .slice AP q.f8.length cp, .int .i64 now, .slice AL l.length cl, .string ⟨#[]⟩, .int .i64 0, .slice none 0 0, .slice none 0 0, .int .u64 0, .int .u64 0, .string ⟨#[]⟩, .int .i64 0] 71) := by rw [hV5, ← hs4]; exact blk_new V4 _
 obtain ⟨c, hc⟩ : ∃ c, c = w.heap.size + 1 + 1 + 1 + 1 := ⟨_, rfl⟩
 obtain ⟨M1, M2, M3, r1, r2, r3, o3, bm3⟩ := made3 V5 c
 obtain ⟨N1, N2, N3, N4, N5, N6, N7, N8, N9, s1, s2, s3, s4, s5, s6, s7, s8, s9, o9, bn9⟩ := made9 M3 c
 have hz0 := fun j => blk_cell k0 j
 have hz1 := fun j => blk_cell k1 j
 go_enter Tryz.func4, Tryz.ntmps4
 rw [hs5] at r1 r2 r3
 rw [hV5, hV4] at r1
 rw [hV4] at hz0 hz1
 have hV := hV5
 rw [hV4] at hV
 have hS5 := hs5
 rw [hV] at hS5
 rw [hc] at r1 r2 r3 s1 s2 s3 s4 s5 s6 s7 s8 s9
 unfold MT meth at r1 r2 r3 s1 s2 s3 s4 s5 s6 s7 s8 s9
 have bN := below_step bm3 bn9
 have K0 := Aside0.mk (blk_below (by rw [hV5]; exact blk_alloc k0 _ : V5.heap[w.heap.size]? = some (.cells #[.int .i64 now, .slice AL l.length cl] 25)) bN)
 have K1 := Aside0.mk (blk_below (by rw [hV5]; exact blk_alloc k1 _ : V5.heap[w.heap.size + 1]? = some (.cells #[.int .i64 q.f0, .string q.f1, .string q.f2, .string q.f3, .string q.f4, .string q.f5, .int .u64 q.f6, .int .i64 q.f7, .slice AP q.f8.length cp] 34)) bN)
 have K2 := Aside0.mk (blk_below (by rw [hV5]; exact blk_alloc k2 _ : V5.heap[w.heap.size + 1 + 1]? = some (.cells #[.int .i64 0, .slice none 0 0] 25)) bN)
 have K3 := Aside0.mk (blk_below (by rw [hV5]; exact blk_alloc k3 _ : V5.heap[w.heap.size + 1 + 1 + 1]? = some (.cells #[.int .u64 0, .string ⟨#[]⟩, .int .i64 0] 29)) bN)
 have HBN := Aside0.mk (below_step hb5 bN)
 have HO3 := Aside0.mk (World.ownsMap.kept o3 (grown_of_below bn9 none) (by simp))
 have HO9 := Aside0.mk o9
 have HCN : Aside0 (CAt N9 c q (.slice AP q.f8.length cp) now (.slice AL l.length cl) l zB (.slice none 0 0) (.slice none 0 0) 0 ⟨#[]⟩ 0) := ⟨⟨by rw [hc]; exact blk_below kc bN, Kd.V_mono (Kd.V_below HPP.out HBN.out) (fun k hk => by have := hk.2; exact ⟨by omega, by omega, by omega⟩), Kd.V_mono (Kd.V_below HLL.out HBN.out) (fun k hk => by have := hk.2; exact ⟨by omega, by omega, by omega⟩), sl_zero _ _⟩⟩
 have HSZ := Aside0.mk (And.intro hs5 (And.intro (by rw [← hs5]; exact bm3.size : w.heap.size + 1 + 1 + 1 + 1 + 1 ≤ M3.heap.size) hc))
 have hza := fun j => blk_cell K0.out j
 go_wp2_with fail
 clear r1 r2 r3 s1 s2 s3 s4 s5 s6 s7 s8 s9 o3 o9 bm3 bn9 bN hz0 hz1 hza k0 k1 k2 k3 kc hb4 hb5 hs4 hs5 hS5 hV hV5 hV4 hmm hmf
 obtain ⟨hs5, hs6, hc⟩ := HSZ.out
 subst hc
 have hLL := HLL.out
 obtain ⟨_, _, e0, hcl, hFl⟩ := hLL
 injection e0 with e0a _ e0c
 subst e0a
 subst e0c
 refine (check_any now AL cl l N9 HD.out (Kd.C_below (Kd.F_now hFl) HBN.out) hcl).mono ?_
 rintro en W1 ⟨rfl, hb1⟩
 have K0' := Aside0.mk (blk_below K0.out hb1)
 have K1' := Aside0.mk (blk_below K1.out hb1)
 have K2' := Aside0.mk (blk_below K2.out hb1)
 have K3' := Aside0.mk (blk_below K3.out hb1)
 have HB1 := Aside0.mk (below_step HBN.out hb1)
 have HC1 := Aside0.mk (HCN.out.below hb1)
 have o3 := World.ownsMap.kept HO3.out (grown_of_below hb1 none) (by simp)
 have o9 := World.ownsMap.kept HO9.out (grown_of_below hb1 none) (by simp)
 have HO3' := Aside0.mk o3
 have HO9' := Aside0.mk o9
 rw [hs5] at HO3' o3
 clear hFl hcl hb1 K0 K1 K2 K3 HBN HCN HO3 HO9 HSZ
 have hz1 := fun j => blk_cell K1'.out j
 obtain ⟨v3, p3, hr3, he3⟩ := DoMap.look o3 HH.out.2.2
 obtain ⟨v9, p9, hr9, he9⟩ := DoMap.look o9 HH.out.2.2
 unfold MT at hr3 hr9
 clear o3 o9
 have hnf := neq_fn (w.heap.size + 1 + 1 + 1 + 1)
 have hnn := neq_nil
 by_cases hall : q.f0 = 1 ∨ q.f0 = 2 ∨ q.f0 = 12
 case' pos =>
  have hM : ∃ f, v3 = meth (w.heap.size + 1 + 1 + 1 + 1) f ∧ (∀ args w, (callFunc f args).run Tryz.prog w = .ok (.enter f args) w) ∧ Calls Tryz.prog f #[.pointer (some ⟨(w.heap.size + 1 + 1 + 1 + 1), 0, none⟩)] W1 (Alls W1 (w.heap.size + 1 + 1 + 1 + 1) (.slice AP q.f8.length cp)) := by
   rcases hall with h0 | h0 | h0
   ·exact ⟨16, elem_inv (by rw [h0, at3_born] at he3; exact he3), fun _ _ => by rfl, ClkBorn.born_any W1 _ q _ now _ l zB _ _ 0 _ HC1.out HD.out⟩
   ·exact ⟨17, elem_inv (by rw [h0, at3_remove] at he3; exact he3), fun _ _ => by rfl, ClkRem.remove_any W1 _ q _ now _ l zB _ _ 0 _ HC1.out HD.out⟩
   ·exact ⟨18, elem_inv (by rw [h0, at3_tick] at he3; exact he3), fun _ _ => by rfl, ClkTick.tick_any W1 _ q _ now _ l zB _ _ 0 _ HC1.out HD.out⟩
  obtain ⟨f, rfl, eg, hcall⟩ := hM
  have HCALL := Aside0.mk hcall
  clear he3 he9 hall hcall
  go_wp2_with fail
  refine HCALL.out.mono ?_
  rintro en W2 ⟨q2, now2, vl2, l2, b2, u2, u3, ti2, tt2, e2, ⟨rfl, hC2, hg2⟩, hok2⟩
  have HC2 := Aside0.mk hC2
  have HOK2 := Aside0.mk hok2
  have KK0 := Aside0.mk (grown_blk hg2 K0'.out (by omega))
  have KK2 := Aside0.mk (grown_blk hg2 K2'.out (by omega))
  have KK3 := Aside0.mk (grown_blk hg2 K3'.out (by omega))
  have HBW := Aside0.mk (HB1.out.grown hg2 HB1.out.size (fun k e => by cases e; omega))
  clear hC2 hok2 hg2 HCALL hr3 hr9 hz1 eg hnf hnn
  go_upto_region 14 with (fail)
  obtain ⟨AL2, cl2, hvl⟩ := Kd.V_slice HC2.out.rl
  subst hvl
  have hzc := fun j => blk_cell HC2.out.blk j
  have hza := fun j => blk_cell KK0.out j
  have hy2 := fun j => blk_cell KK2.out j
  have hf2 := fun j => blk_frozen KK2.out j
  have hy3 := fun j => blk_cell KK3.out j
  have hf3 := fun j => blk_frozen KK3.out j
  by_cases h0 : e2 = 0
  ·have d : (e2 != 0) = false := bne_eq_false_iff_eq.mpr h0
   have HDD := Aside0.mk (HOK2.out h0)
   clear h0
   go_wp2_with fail
   go_region
   go_wp2
   have g4 := (grown_set W2 (w.heap.size + 1 + 1) 0 (.int .i64 now2)).trans (grown_set _ (w.heap.size + 1 + 1) 1 (.slice AL2 l2.length cl2))
   have c4 := blk_set (blk_set KK2.out 0 (.int .i64 now2)) 1 (.slice AL2 l2.length cl2)
   have c5 := grown_blk g4 KK3.out (by omega)
   have g5 := ((grown_set ((W2.setCell ⟨(w.heap.size + 1 + 1), 0, none⟩ (.int .i64 now2)).setCell ⟨(w.heap.size + 1 + 1), 1, none⟩ (.slice AL2 l2.length cl2)) (w.heap.size + 1 + 1 + 1) 0 (.int .u64 ti2)).trans (grown_set _ (w.heap.size + 1 + 1 + 1) 1 (.string tt2))).trans (grown_set _ (w.heap.size + 1 + 1 + 1) 2 (.int .i64 e2))
   have d5 := blk_set (blk_set (blk_set c5 0 (.int .u64 ti2)) 1 (.string tt2)) 2 (.int .i64 e2)
   have d4 := grown_blk g5 c4 (by omega)
   have z4 := fun j => blk_cell (blk_drew d4) j
   have z5 := fun j => blk_cell (blk_drew d5) j
   refine bodyPost_ret (v := .tuple #[.agg #[.int .i64 now2, .slice AL2 l2.length cl2], .agg #[.int .u64 ti2, .string tt2, .int .i64 e2]]) (by simp [results, Tryz.results4, go_sem, z4, z5]) rfl ?_
   have hBf := below_drew ((HBW.out.grown g4 HBW.out.size (fun k e => by cases e; omega)).grown g5 (Nat.le_trans HBW.out.size g4.size) (fun k e => by cases e; omega))
   exact ⟨now2, _, l2, ti2, tt2, e2, rfl, Kd.V_mono (Kd.V_below (Kd.V_grown (Kd.V_grown HC2.out.rl g4 (fun k hk e => by have := hk; have := Option.some.inj e; omega)) g5 (fun k hk e => by have := hk; have := Option.some.inj e; omega)) (below_drew (Below.refl _ _))) (fun _ _ => trivial), HDD.out, hBf⟩
  ·have d : (e2 != 0) = true := bne_iff_ne.mpr h0
   clear h0
   go_wp2_with fail
   go_region
   go_wp2
   have g4 := (grown_set W2 (w.heap.size + 1 + 1) 0 (.int .i64 now)).trans (grown_set _ (w.heap.size + 1 + 1) 1 (.slice AL l.length cl))
   have c4 := blk_set (blk_set KK2.out 0 (.int .i64 now)) 1 (.slice AL l.length cl)
   have c5 := grown_blk g4 KK3.out (by omega)
   have g5 := ((grown_set ((W2.setCell ⟨(w.heap.size + 1 + 1), 0, none⟩ (.int .i64 now)).setCell ⟨(w.heap.size + 1 + 1), 1, none⟩ (.slice AL l.length cl)) (w.heap.size + 1 + 1 + 1) 0 (.int .u64 0)).trans (grown_set _ (w.heap.size + 1 + 1 + 1) 1 (.string ⟨#[]⟩))).trans (grown_set _ (w.heap.size + 1 + 1 + 1) 2 (.int .i64 e2))
   have d5 := blk_set (blk_set (blk_set c5 0 (.int .u64 0)) 1 (.string ⟨#[]⟩)) 2 (.int .i64 e2)
   have d4 := grown_blk g5 c4 (by omega)
   have z4 := fun j => blk_cell (blk_drew d4) j
   have z5 := fun j => blk_cell (blk_drew d5) j
   refine bodyPost_ret (v := .tuple #[.agg #[.int .i64 now, .slice AL l.length cl], .agg #[.int .u64 0, .string ⟨#[]⟩, .int .i64 e2]]) (by simp [results, Tryz.results4, go_sem, z4, z5]) rfl ?_
   have hBf := below_drew ((HBW.out.grown g4 HBW.out.size (fun k e => by cases e; omega)).grown g5 (Nat.le_trans HBW.out.size g4.size) (fun k e => by cases e; omega))
   exact ⟨now, _, l, 0, ⟨#[]⟩, e2, rfl, Kd.V_mono (Kd.V_below HLL.out hBf) (fun _ _ => trivial), HD.out, hBf⟩
 case' neg =>
  have hv3 : v3 = .nilFunc := elem_nil (by rw [at3_none ⟨fun h => hall (.inl h), fun h => hall (.inr (.inl h)), fun h => hall (.inr (.inr h))⟩] at he3; exact he3)
  subst hv3
  clear he3 hall
  by_cases hone : q.f0 = 3 ∨ q.f0 = 4 ∨ q.f0 = 5 ∨ q.f0 = 6 ∨ q.f0 = 7 ∨ q.f0 = 8 ∨ q.f0 = 9 ∨ q.f0 = 10 ∨ q.f0 = 11
  case' neg =>
   have hv9 : v9 = .nilFunc := elem_nil (by
    simp only [not_or] at hone
    rw [at9_none hone] at he9
    exact he9)
   subst hv9
   clear he9 hone
   go_wp2_with fail
   refine (no_any W1 _ q _ now _ l zB _ _ 0 _ 0 HC1.out 1).mono ?_
   rintro en W2 ⟨rfl, hC2, hg2⟩
   obtain ⟨q2, now2, vl2, l2, b2, u2, u3, ti2, tt2, e2, hC2', hok2⟩ : ∃ (q2 : Q) (now2 : Int) (vl2 : Value) (l2 : List B) (b2 : B) (u2 u3 : Value) (ti2 : Int) (tt2 : ByteArray) (e2 : Int), CAt W2 (w.heap.size + 1 + 1 + 1 + 1) q2 (.slice AP q.f8.length cp) now2 vl2 l2 b2 u2 u3 ti2 tt2 e2 ∧ (e2 = 0 → DepOk now2 l2) := ⟨q, now, _, l, zB, _, _, 0, _, 1, hC2, fun h => absurd h (by decide)⟩
   have HC2 := Aside0.mk hC2'
   have HOK2 := Aside0.mk hok2
   have KK0 := Aside0.mk (grown_blk hg2 K0'.out (by omega))
   have KK2 := Aside0.mk (grown_blk hg2 K2'.out (by omega))
   have KK3 := Aside0.mk (grown_blk hg2 K3'.out (by omega))
   have HBW := Aside0.mk (HB1.out.grown hg2 HB1.out.size (fun k e => by cases e; omega))
   clear hC2 hC2' hok2 hg2 hr3 hr9 hz1 hnf hnn
   go_upto_region 14 with (fail)
   obtain ⟨AL2, cl2, hvl⟩ := Kd.V_slice HC2.out.rl
   subst hvl
   have hzc := fun j => blk_cell HC2.out.blk j
   have hza := fun j => blk_cell KK0.out j
   have hy2 := fun j => blk_cell KK2.out j
   have hf2 := fun j => blk_frozen KK2.out j
   have hy3 := fun j => blk_cell KK3.out j
   have hf3 := fun j => blk_frozen KK3.out j
   by_cases h0 : e2 = 0
   ·have d : (e2 != 0) = false := bne_eq_false_iff_eq.mpr h0
    have HDD := Aside0.mk (HOK2.out h0)
    clear h0
    go_wp2_with fail
    go_region
    go_wp2
    have g4 := (grown_set W2 (w.heap.size + 1 + 1) 0 (.int .i64 now2)).trans (grown_set _ (w.heap.size + 1 + 1) 1 (.slice AL2 l2.length cl2))
    have c4 := blk_set (blk_set KK2.out 0 (.int .i64 now2)) 1 (.slice AL2 l2.length cl2)
    have c5 := grown_blk g4 KK3.out (by omega)
    have g5 := ((grown_set ((W2.setCell ⟨(w.heap.size + 1 + 1), 0, none⟩ (.int .i64 now2)).setCell ⟨(w.heap.size + 1 + 1), 1, none⟩ (.slice AL2 l2.length cl2)) (w.heap.size + 1 + 1 + 1) 0 (.int .u64 ti2)).trans (grown_set _ (w.heap.size + 1 + 1 + 1) 1 (.string tt2))).trans (grown_set _ (w.heap.size + 1 + 1 + 1) 2 (.int .i64 e2))
    have d5 := blk_set (blk_set (blk_set c5 0 (.int .u64 ti2)) 1 (.string tt2)) 2 (.int .i64 e2)
    have d4 := grown_blk g5 c4 (by omega)
    have z4 := fun j => blk_cell (blk_drew d4) j
    have z5 := fun j => blk_cell (blk_drew d5) j
    refine bodyPost_ret (v := .tuple #[.agg #[.int .i64 now2, .slice AL2 l2.length cl2], .agg #[.int .u64 ti2, .string tt2, .int .i64 e2]]) (by simp [results, Tryz.results4, go_sem, z4, z5]) rfl ?_
    have hBf := below_drew ((HBW.out.grown g4 HBW.out.size (fun k e => by cases e; omega)).grown g5 (Nat.le_trans HBW.out.size g4.size) (fun k e => by cases e; omega))
    exact ⟨now2, _, l2, ti2, tt2, e2, rfl, Kd.V_mono (Kd.V_below (Kd.V_grown (Kd.V_grown HC2.out.rl g4 (fun k hk e => by have := hk; have := Option.some.inj e; omega)) g5 (fun k hk e => by have := hk; have := Option.some.inj e; omega)) (below_drew (Below.refl _ _))) (fun _ _ => trivial), HDD.out, hBf⟩
   ·have d : (e2 != 0) = true := bne_iff_ne.mpr h0
    clear h0
    go_wp2_with fail
    go_region
    go_wp2
    have g4 := (grown_set W2 (w.heap.size + 1 + 1) 0 (.int .i64 now)).trans (grown_set _ (w.heap.size + 1 + 1) 1 (.slice AL l.length cl))
    have c4 := blk_set (blk_set KK2.out 0 (.int .i64 now)) 1 (.slice AL l.length cl)
    have c5 := grown_blk g4 KK3.out (by omega)
    have g5 := ((grown_set ((W2.setCell ⟨(w.heap.size + 1 + 1), 0, none⟩ (.int .i64 now)).setCell ⟨(w.heap.size + 1 + 1), 1, none⟩ (.slice AL l.length cl)) (w.heap.size + 1 + 1 + 1) 0 (.int .u64 0)).trans (grown_set _ (w.heap.size + 1 + 1 + 1) 1 (.string ⟨#[]⟩))).trans (grown_set _ (w.heap.size + 1 + 1 + 1) 2 (.int .i64 e2))
    have d5 := blk_set (blk_set (blk_set c5 0 (.int .u64 0)) 1 (.string ⟨#[]⟩)) 2 (.int .i64 e2)
    have d4 := grown_blk g5 c4 (by omega)
    have z4 := fun j => blk_cell (blk_drew d4) j
    have z5 := fun j => blk_cell (blk_drew d5) j
    refine bodyPost_ret (v := .tuple #[.agg #[.int .i64 now, .slice AL l.length cl], .agg #[.int .u64 0, .string ⟨#[]⟩, .int .i64 e2]]) (by simp [results, Tryz.results4, go_sem, z4, z5]) rfl ?_
    have hBf := below_drew ((HBW.out.grown g4 HBW.out.size (fun k e => by cases e; omega)).grown g5 (Nat.le_trans HBW.out.size g4.size) (fun k e => by cases e; omega))
    exact ⟨now, _, l, 0, ⟨#[]⟩, e2, rfl, Kd.V_mono (Kd.V_below HLL.out hBf) (fun _ _ => trivial), HD.out, hBf⟩
  case' pos =>
   have hM : ∃ f, v9 = meth (w.heap.size + 1 + 1 + 1 + 1) f ∧ (∀ args w, (callFunc f args).run Tryz.prog w = .ok (.enter f args) w) ∧ ∀ (W : World) (b : B) (u2 u3 : Value) (ti : Int) (tt : ByteArray), CAt W (w.heap.size + 1 + 1 + 1 + 1) q (.slice AP q.f8.length cp) now (.slice AL l.length cl) l b u2 u3 ti tt 0 → Ok now b → Calls Tryz.prog f #[.pointer (some ⟨(w.heap.size + 1 + 1 + 1 + 1), 0, none⟩)] W (Ones W (w.heap.size + 1 + 1 + 1 + 1) (.slice AP q.f8.length cp) now (.slice AL l.length cl) l) := by
    rcases hone with h0 | h0 | h0 | h0 | h0 | h0 | h0 | h0 | h0
    ·exact ⟨19, elem_inv (by rw [h0, at9_turn] at he9; exact he9), fun _ _ => by rfl, fun W b u2 u3 ti tt h hb => ClkOne.turn_any W _ q _ now _ l b u2 u3 ti tt h hb⟩
    ·exact ⟨20, elem_inv (by rw [h0, at9_put] at he9; exact he9), fun _ _ => by rfl, fun W b u2 u3 ti tt h hb => ClkOne.put_any W _ q _ now _ l b u2 u3 ti tt h hb HH.out.1⟩
    ·exact ⟨21, elem_inv (by rw [h0, at9_delete] at he9; exact he9), fun _ _ => by rfl, fun W b u2 u3 ti tt h hb => ClkOne.delete_any W _ q _ now _ l b u2 u3 ti tt h hb⟩
    ·exact ⟨22, elem_inv (by rw [h0, at9_drop] at he9; exact he9), fun _ _ => by rfl, fun W b u2 u3 ti tt h hb => ClkOne.drop_any W _ q _ now _ l b u2 u3 ti tt h hb⟩
    ·exact ⟨23, elem_inv (by rw [h0, at9_begin] at he9; exact he9), fun _ _ => by rfl, fun W b u2 u3 ti tt h hb => ClkOne.begin_any W _ q _ now _ l b u2 u3 ti tt h hb⟩
    ·exact ⟨24, elem_inv (by rw [h0, at9_lay] at he9; exact he9), fun _ _ => by rfl, fun W b u2 u3 ti tt h hb => ClkTwo.lay_any W _ q _ now _ l b u2 u3 ti tt h hb⟩
    ·exact ⟨25, elem_inv (by rw [h0, at9_abort] at he9; exact he9), fun _ _ => by rfl, fun W b u2 u3 ti tt h hb => ClkOne.abort_any W _ q _ now _ l b u2 u3 ti tt h hb⟩
    ·exact ⟨26, elem_inv (by rw [h0, at9_whole] at he9; exact he9), fun _ _ => by rfl, fun W b u2 u3 ti tt h hb => ClkTwo.whole_any W _ q _ now _ l b u2 u3 ti tt h hb HH.out.2.1⟩
    ·exact ⟨27, elem_inv (by rw [h0, at9_copy] at he9; exact he9), fun _ _ => by rfl, fun W b u2 u3 ti tt h hb => ClkVer.copy_any W _ q _ now _ l b u2 u3 ti tt h hb HD.out⟩
   obtain ⟨f, hm, eg, hcall⟩ := hM
   have HCALL := Aside0.mk hcall
   have HE9 := Aside0.mk he9
   have HM9 := Aside0.mk hm
   subst hm
   clear he9 hone hcall
   go_wp2_with fail
   refine (open_any W1 _ q _ now _ l zB _ _ 0 _ 0 HC1.out HD.out q.f1).mono ?_
   rintro en W2 ⟨b2, u2, u3, er, ⟨rfl, hC2, hg2⟩, hx1, hx2⟩
   have HC2 := Aside0.mk (show CAt W2 (w.heap.size + 1 + 1 + 1 + 1) q _ now _ l b2 u2 u3 0 _ er from hC2)
   have KK0 := Aside0.mk (grown_blk hg2 K0'.out (by omega))
   have KK1 := Aside0.mk (grown_blk hg2 K1'.out (by omega))
   have KK2 := Aside0.mk (grown_blk hg2 K2'.out (by omega))
   have KK3 := Aside0.mk (grown_blk hg2 K3'.out (by omega))
   have HBW := Aside0.mk (HB1.out.grown hg2 HB1.out.size (fun k e => by cases e; omega))
   have hM3 : M3.heap.size ≠ (w.heap.size + 1 + 1 + 1 + 1) := by omega
   have o9 := World.ownsMap.kept HO9'.out hg2 (by simpa using hM3)
   have hOkb : er = 0 → Ok now b2 := fun h => HD.out.ok b2 (hx1 h).1
   obtain ⟨v9', p9', hr9', he9'⟩ := DoMap.look o9 HH.out.2.2
   clear hr3 hr9 hC2 hg2 hx1 hx2 hz1 o9
   have hz1 := fun j => blk_cell KK1.out j
   have hz2 := fun j => blk_cell HC2.out.blk j
   have hat : D9.atKey (.int .i64 q.f0) (.lit (.int .i64 (-2))) = .lit (.int .i64 (f : Int)) := by
    have h := (elem_mk (w.heap.size + 1 + 1 + 1 + 1) f).symm.trans HE9.out
    simp only [Option.some.injEq, Prod.mk.injEq] at h
    exact h.1.symm
   have hm2 : v9' = meth (w.heap.size + 1 + 1 + 1 + 1) f := elem_inv (by rw [hat] at he9'; exact he9')
   subst hm2
   have HOB := Aside0.mk hOkb
   clear he9' hat hOkb hM3
   by_cases her : er = 0
   case' neg =>
    have d1 : (er == 0) = false := beq_eq_false_iff_ne.mpr her
    have HER := Aside0.mk her
    clear her hr9' hz1
    go_upto_region 14 with (fail)
    have hzc := fun j => blk_cell HC2.out.blk j
    have hza := fun j => blk_cell KK0.out j
    have hy2 := fun j => blk_cell KK2.out j
    have hf2 := fun j => blk_frozen KK2.out j
    have hy3 := fun j => blk_cell KK3.out j
    have hf3 := fun j => blk_frozen KK3.out j
    have h0 := HER.out
    have d : (er != 0) = true := bne_iff_ne.mpr h0
    clear h0
    go_wp2_with fail
    go_region
    go_wp2
    have g4 := (grown_set W2 (w.heap.size + 1 + 1) 0 (.int .i64 now)).trans (grown_set _ (w.heap.size + 1 + 1) 1 (.slice AL l.length cl))
    have c4 := blk_set (blk_set KK2.out 0 (.int .i64 now)) 1 (.slice AL l.length cl)
    have c5 := grown_blk g4 KK3.out (by omega)
    have g5 := ((grown_set ((W2.setCell ⟨(w.heap.size + 1 + 1), 0, none⟩ (.int .i64 now)).setCell ⟨(w.heap.size + 1 + 1), 1, none⟩ (.slice AL l.length cl)) (w.heap.size + 1 + 1 + 1) 0 (.int .u64 0)).trans (grown_set _ (w.heap.size + 1 + 1 + 1) 1 (.string ⟨#[]⟩))).trans (grown_set _ (w.heap.size + 1 + 1 + 1) 2 (.int .i64 er))
    have d5 := blk_set (blk_set (blk_set c5 0 (.int .u64 0)) 1 (.string ⟨#[]⟩)) 2 (.int .i64 er)
    have d4 := grown_blk g5 c4 (by omega)
    have z4 := fun j => blk_cell (blk_drew d4) j
    have z5 := fun j => blk_cell (blk_drew d5) j
    refine bodyPost_ret (v := .tuple #[.agg #[.int .i64 now, .slice AL l.length cl], .agg #[.int .u64 0, .string ⟨#[]⟩, .int .i64 er]]) (by simp [results, Tryz.results4, go_sem, z4, z5]) rfl ?_
    have hBf := below_drew ((HBW.out.grown g4 HBW.out.size (fun k e => by cases e; omega)).grown g5 (Nat.le_trans HBW.out.size g4.size) (fun k e => by cases e; omega))
    exact ⟨now, _, l, 0, ⟨#[]⟩, er, rfl, Kd.V_mono (Kd.V_below HLL.out hBf) (fun _ _ => trivial), HD.out, hBf⟩
   case' pos =>
    subst her
    have HOB0 := Aside0.mk (HOB.out rfl)
    clear HOB
    go_wp2_with fail
    refine (HCALL.out W2 b2 u2 u3 0 _ HC2.out HOB0.out).mono ?_
    rintro en W3 ⟨q3, b3, y2, y3, ti3, tt3, e3, ⟨rfl, hC3, hg3⟩, hok3⟩
    have HC3 := Aside0.mk hC3
    have HG3 := Aside0.mk hg3
    have HO3 := Aside0.mk hok3
    clear hC3 hg3 hok3 hr9' hz1 hz2
    go_wp2_with fail
    refine (shut_any W3 _ q3 _ now _ l b3 y2 y3 ti3 tt3 e3 HC3.out HD.out HO3.out).mono ?_
    rintro en Y4 ⟨vl4, l4, ⟨rfl, hC4, hg4⟩, hd4⟩
    have HC4 := Aside0.mk hC4
    have HD4 := Aside0.mk hd4
    have hgT := HG3.out.trans hg4
    have KL0 := Aside0.mk (grown_blk hgT KK0.out (by omega))
    have KL2 := Aside0.mk (grown_blk hgT KK2.out (by omega))
    have KL3 := Aside0.mk (grown_blk hgT KK3.out (by omega))
    have HBX := Aside0.mk (HBW.out.grown hgT HBW.out.size (fun k e => by cases e; omega))
    clear hC4 hg4 hd4 hgT
    go_upto_region 14 with (fail)
    obtain ⟨AL2, cl2, hvl⟩ := Kd.V_slice HC4.out.rl
    subst hvl
    have hzc := fun j => blk_cell HC4.out.blk j
    have hza := fun j => blk_cell KL0.out j
    have hy2 := fun j => blk_cell KL2.out j
    have hf2 := fun j => blk_frozen KL2.out j
    have hy3 := fun j => blk_cell KL3.out j
    have hf3 := fun j => blk_frozen KL3.out j
    by_cases h0 : e3 = 0
    ·have d : (e3 != 0) = false := bne_eq_false_iff_eq.mpr h0
     have HDD := Aside0.mk (HD4.out h0)
     clear h0
     go_wp2_with fail
     go_region
     go_wp2
     have g4 := (grown_set Y4 (w.heap.size + 1 + 1) 0 (.int .i64 now)).trans (grown_set _ (w.heap.size + 1 + 1) 1 (.slice AL2 l4.length cl2))
     have c4 := blk_set (blk_set KL2.out 0 (.int .i64 now)) 1 (.slice AL2 l4.length cl2)
     have c5 := grown_blk g4 KL3.out (by omega)
     have g5 := ((grown_set ((Y4.setCell ⟨(w.heap.size + 1 + 1), 0, none⟩ (.int .i64 now)).setCell ⟨(w.heap.size + 1 + 1), 1, none⟩ (.slice AL2 l4.length cl2)) (w.heap.size + 1 + 1 + 1) 0 (.int .u64 ti3)).trans (grown_set _ (w.heap.size + 1 + 1 + 1) 1 (.string tt3))).trans (grown_set _ (w.heap.size + 1 + 1 + 1) 2 (.int .i64 e3))
     have d5 := blk_set (blk_set (blk_set c5 0 (.int .u64 ti3)) 1 (.string tt3)) 2 (.int .i64 e3)
     have d4 := grown_blk g5 c4 (by omega)
     have z4 := fun j => blk_cell (blk_drew d4) j
     have z5 := fun j => blk_cell (blk_drew d5) j
     refine bodyPost_ret (v := .tuple #[.agg #[.int .i64 now, .slice AL2 l4.length cl2], .agg #[.int .u64 ti3, .string tt3, .int .i64 e3]]) (by simp [results, Tryz.results4, go_sem, z4, z5]) rfl ?_
     have hBf := below_drew ((HBX.out.grown g4 HBX.out.size (fun k e => by cases e; omega)).grown g5 (Nat.le_trans HBX.out.size g4.size) (fun k e => by cases e; omega))
     exact ⟨now, _, l4, ti3, tt3, e3, rfl, Kd.V_mono (Kd.V_below (Kd.V_grown (Kd.V_grown HC4.out.rl g4 (fun k hk e => by have := hk; have := Option.some.inj e; omega)) g5 (fun k hk e => by have := hk; have := Option.some.inj e; omega)) (below_drew (Below.refl _ _))) (fun _ _ => trivial), HDD.out, hBf⟩
    ·have d : (e3 != 0) = true := bne_iff_ne.mpr h0
     clear h0
     go_wp2_with fail
     go_region
     go_wp2
     have g4 := (grown_set Y4 (w.heap.size + 1 + 1) 0 (.int .i64 now)).trans (grown_set _ (w.heap.size + 1 + 1) 1 (.slice AL l.length cl))
     have c4 := blk_set (blk_set KL2.out 0 (.int .i64 now)) 1 (.slice AL l.length cl)
     have c5 := grown_blk g4 KL3.out (by omega)
     have g5 := ((grown_set ((Y4.setCell ⟨(w.heap.size + 1 + 1), 0, none⟩ (.int .i64 now)).setCell ⟨(w.heap.size + 1 + 1), 1, none⟩ (.slice AL l.length cl)) (w.heap.size + 1 + 1 + 1) 0 (.int .u64 0)).trans (grown_set _ (w.heap.size + 1 + 1 + 1) 1 (.string ⟨#[]⟩))).trans (grown_set _ (w.heap.size + 1 + 1 + 1) 2 (.int .i64 e3))
     have d5 := blk_set (blk_set (blk_set c5 0 (.int .u64 0)) 1 (.string ⟨#[]⟩)) 2 (.int .i64 e3)
     have d4 := grown_blk g5 c4 (by omega)
     have z4 := fun j => blk_cell (blk_drew d4) j
     have z5 := fun j => blk_cell (blk_drew d5) j
     refine bodyPost_ret (v := .tuple #[.agg #[.int .i64 now, .slice AL l.length cl], .agg #[.int .u64 0, .string ⟨#[]⟩, .int .i64 e3]]) (by simp [results, Tryz.results4, go_sem, z4, z5]) rfl ?_
     have hBf := below_drew ((HBX.out.grown g4 HBX.out.size (fun k e => by cases e; omega)).grown g5 (Nat.le_trans HBX.out.size g4.size) (fun k e => by cases e; omega))
     exact ⟨now, _, l, 0, ⟨#[]⟩, e3, rfl, Kd.V_mono (Kd.V_below HLL.out hBf) (fun _ _ => trivial), HD.out, hBf⟩
end Go.Proofs.YtpccbmechgkogaaGreatDoor.Do
