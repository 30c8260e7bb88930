/-
  Lemmas: Close, IdxPut, ChkM.
-/
import Derived.Defers
import Derived.RegionTactic
import Derived.ChangeAlike
import Derived.Test.YtpccbmechgkogaaGreatDoorProg
import Derived.BigRegion
import Derived.BigQuiet
import Derived.LoopTactic
import Derived.Outline
import Derived.Test.YtpccbmechgkogaaGreatDoorV0
import Derived.Test.YtpccbmechgkogaaGreatDoorZ01
import Derived.Test.YtpccbmechgkogaaGreatDoorZ02
import Derived.Test.YtpccbmechgkogaaGreatDoorZ03
import Derived.Test.YtpccbmechgkogaaGreatDoorZ04
set_option linter.unusedVariables false
set_option linter.unusedSimpArgs false
namespace Go.Proofs.YtpccbmechgkogaaGreatDoor.Close
open Go.RowKit Go.Proofs.YtpccbmechgkogaaGreatDoor.P Go.Proofs.YtpccbmechgkogaaGreatDoorW.PrintWords Go.Proofs.YtpccbmechgkogaaGreatDoor.PureKit Go.Proofs.YtpccbmechgkogaaGreatDoor.BkSpec Go.Proofs.YtpccbmechgkogaaGreatDoor.Wk
theorem octets_any (b : B) (A2 : Option Addr) (c2 : Nat) (A3 : Option Addr) (c3 : Nat) (w : World) (h2 : IdxSpec.indexB b.f2 = true) (h3 : partsB b.f3 = true) (hr2 : Kd.C kE w A2 b.f2.length b.f2) (hc2 : b.f2.length ≤ c2) (hr3 : Kd.C kU w A3 b.f3.length b.f3) (hc3 : b.f3.length ≤ c3) :
  Calls Tryz.prog 116 #[.agg #[.string b.f0, .int .i64 b.f1, .slice A2 b.f2.length c2, .slice A3 b.f3.length c3, .int .u64 b.f4]] w fun e w' => e = .returned (.int .i64 (octI b.f2 + octU b.f3)) ∧ Below w.heap.size w w' := by
 exact Cnt.bucket_any b A2 c2 A3 c3 w h2 h3 hr2 hr3
abbrev tE : Nat := 27
abbrev tB : Nat := 40
def Set (w : World) (gb : Nat) (cs : Array Value) (u u' : FrameMode) (e : Ending) (w' : World) : Prop := u' = u ∧ e = .returned (.tuple #[]) ∧ w'.heap[gb]? = some (.cells cs tB (0, 0)) ∧ w.grownBy w' (some gb)
set_option maxRecDepth 100000 in
set_option maxHeartbeats 1600000 in
theorem closed_no (u : FrameMode) (w : World) (ge gw gb : Nat) (er : Int) (q0 : ByteArray) (q1 q4 : Int) (A2 A3 : Option Addr) (n2 n3 c2 c3 : Nat) (cb : Array Value) (he : er ≠ 0) (hne : gw ≠ gb) (hs : cb.size = 5) (h1 : w.heap[ge]? = some (.cells #[.int .i64 er] tE (0, 0))) (h2 : w.heap[gw]? = some (.cells #[.string q0, .int .i64 q1, .slice A2 n2 c2, .slice A3 n3 c3, .int .u64 q4] tB (0, 0))) (h3 : w.heap[gb]? = some (.cells cb tB (0, 0))) :
  CallsD Tryz.prog 144 #[.pointer (some ⟨ge, 0, none⟩), .pointer (some ⟨gw, 0, none⟩), .pointer (some ⟨gb, 0, none⟩)] u w fun e u' w' => Set w gb #[.string q0, .int .i64 q1, .slice A2 n2 c2, .slice A3 n3 c3, .int .u64 q4] u u' e w' := by
 have H3 := Aside0.mk h3
 have hz1 := fun j => blk_cell h1 j
 have hz2 := fun j => blk_cell h2 j
 have hf3 := fun j => blk_frozen h3 j
 obtain ⟨x0, x1, x2, x3, x4, hcb⟩ : ∃ x0 x1 x2 x3 x4, cb = #[x0, x1, x2, x3, x4] := by
  obtain ⟨l⟩ := cb
  match l, hs with
  | [x0, x1, x2, x3, x4], _ => exact ⟨x0, x1, x2, x3, x4, rfl⟩
 subst hcb
 have hz3 := fun j => blk_cell h3 j
 have hb1 : (er != 0) = true := bne_iff_ne.mpr he
 have hu := Tryz.underlying40
 clear h1 h2 h3 he
 go_enter_d Tryz.func144, Tryz.ntmps144
 go_wp2
 (first | go_end0 | ((try simp only [Exit.inBlock, Exit.then]); refine bodyPost_ret (results_none rfl _ _ _) rfl ?_))
 exact ⟨rfl, blk_set (blk_set (blk_set (blk_set (blk_set H3.out 0 _) 1 _) 2 _) 3 _) 4 _, ((((grown_set w gb 0 _).trans (grown_set _ gb 1 _)).trans (grown_set _ gb 2 _)).trans (grown_set _ gb 3 _)).trans (grown_set _ gb 4 _)⟩
set_option maxRecDepth 100000 in
set_option maxHeartbeats 1600000 in
theorem closed_ok (u : FrameMode) (w : World) (ge gw gb : Nat) (cb : Array Value) (h1 : w.heap[ge]? = some (.cells #[.int .i64 0] tE (0, 0))) (h3 : w.heap[gb]? = some (.cells cb tB (0, 0))) :
  CallsD Tryz.prog 144 #[.pointer (some ⟨ge, 0, none⟩), .pointer (some ⟨gw, 0, none⟩), .pointer (some ⟨gb, 0, none⟩)] u w fun e u' w' => Set w gb cb u u' e w' := by
 have H3 := Aside0.mk h3
 have hz1 := fun j => blk_cell h1 j
 clear h1 h3
 go_enter_d Tryz.func144, Tryz.ntmps144
 go_wp2
 (first | go_end0 | ((try simp only [Exit.inBlock, Exit.then]); refine bodyPost_ret (results_none rfl _ _ _) rfl ?_))
 exact ⟨rfl, H3.out, World.grownBy.refl _ _⟩
def closeE (b : B) (e : Int) : Int := if e = 0 then (if octI b.f2 + octU b.f3 ≤ 20000 then 0 else 6) else e
def Closed (w : World) (g : Nat) (b : B) (v2 v3 : Value) (e : Int) (was : Array Value) (en : Ending) (w' : World) : Prop :=
 en = .returned (.tuple #[.agg (if closeE b e = 0 then #[.string b.f0, .int .i64 b.f1, v2, v3, .int .u64 b.f4] else was), .int .i64 (closeE b e)]) ∧ w.grownBy w' (some g)
set_option maxRecDepth 100000 in
set_option maxHeartbeats 3200000 in
theorem close_bad (w : World) (g : Nat) (ok : Nat → Prop) (b : B) (v2 v3 : Value) (e : Int) (h : At w g ok b v2 v3 e) (he : e ≠ 0) (q0 : ByteArray) (q1 q4 : Int) (B2 B3 : Option Addr) (n2 n3 d2 d3 : Nat) :
  Calls Tryz.prog 106 #[.pointer (some ⟨g, 0, none⟩), .agg #[.string q0, .int .i64 q1, .slice B2 n2 d2, .slice B3 n3 d3, .int .u64 q4]] w (Closed w g b v2 v3 e #[.string q0, .int .i64 q1, .slice B2 n2 d2, .slice B3 n3 d3, .int .u64 q4]) := by
 have H := Aside0.mk h
 obtain ⟨⟨A2, c2, rfl, -, -⟩, ⟨A3, c3, rfl, -, -⟩⟩ := h.sl
 have hz := fun (o1 o2 o3 : Obj) j => blk_cell (blk_alloc (blk_alloc (blk_alloc h.blk o1) o2) o3) j
 have hlt := Aside0.mk h.lt
 have HC : Aside0 (closeE b e = e) := ⟨by unfold closeE; rw [if_neg he]⟩
 have d1 : (e == 0) = false := beq_eq_false_iff_ne.mpr he
 have HN := Aside0.mk he
 have hu := Tryz.underlying40
 have hmf : ∀ (fn : Fn) (first cap : Array Value) (w : World), (Instr.makeFunc fn first cap).run Tryz.prog w = .ok (.func fn first cap) w := fun _ _ _ _ => rfl
 clear h he
 go_enter_defers Tryz.func106, Tryz.ntmps106
 go_wp2
 (first | go_end0 | ((try simp only [Exit.inBlock, Exit.then]); refine bodyPost_ret (results_none rfl _ _ _) rfl ?_))
 go_wp2
 go_region
 go_wp2
 refine leaves_cons (f := 144) (args := #[.pointer (some ⟨w.heap.size + 1 + 1, 0, none⟩), .pointer (some ⟨w.heap.size, 0, none⟩), .pointer (some ⟨w.heap.size + 1, 0, none⟩)]) (by simp) (by simp [go_sem]) ?_
 refine (closed_no .returning _ (w.heap.size + 1 + 1) w.heap.size (w.heap.size + 1) e q0 q1 q4 B2 B3 n2 n3 d2 d3 _ HN.out (by omega) rfl (blk_drew (blk3c w _ _ _)) (blk_drew (blk3a w _ _ _)) (blk_drew (blk3b w _ _ _))).mono ?_
 rintro en u' w2 ⟨rfl, rfl, hB, hG⟩
 have hE : w2.heap[w.heap.size + 1 + 1]? = some (.cells #[.int .i64 e] tE (0, 0)) := (hG.block _ (blk_lt (blk_drew (blk3c w _ _ _))) (by simp)).trans (blk_drew (blk3c w _ _ _))
 have z1 := fun j => blk_cell hB j
 have z2 := fun j => blk_cell hE j
 refine ⟨.tuple #[.agg #[.string q0, .int .i64 q1, .slice B2 n2 d2, .slice B3 n3 d3, .int .u64 q4], .int .i64 e], by simp [results, Tryz.results106, go_sem, z1, z2], ?_⟩
 have hw : w.grownBy (((w.alloc (.cells #[.string q0, .int .i64 q1, .slice B2 n2 d2, .slice B3 n3 d3, .int .u64 q4] tB)).alloc (.cells #[.string b.f0, .int .i64 b.f1, .slice A2 b.f2.length c2, .slice A3 b.f3.length c3, .int .u64 b.f4] tB)).alloc (.cells #[.int .i64 e] tE)).drew (some g) := grown_of_below (below_drew (below_alloc (below_alloc (below_alloc (Below.refl _ _) _) _) _)) _
 refine ⟨?_, grown_then hw hG (.inl (by omega))⟩
 rw [HC.out, if_neg HN.out]
set_option maxRecDepth 100000 in
set_option maxHeartbeats 6400000 in
theorem close_well (w : World) (g : Nat) (ok : Nat → Prop) (b : B) (v2 v3 : Value) (h : At w g ok b v2 v3 0) (hi : IdxSpec.indexB b.f2 = true) (hp : partsB b.f3 = true) (q0 : ByteArray) (q1 q4 : Int) (B2 B3 : Option Addr) (n2 n3 d2 d3 : Nat) :
  Calls Tryz.prog 106 #[.pointer (some ⟨g, 0, none⟩), .agg #[.string q0, .int .i64 q1, .slice B2 n2 d2, .slice B3 n3 d3, .int .u64 q4]] w (Closed w g b v2 v3 0 #[.string q0, .int .i64 q1, .slice B2 n2 d2, .slice B3 n3 d3, .int .u64 q4]) := by
 obtain ⟨⟨A2, c2, rfl, hc2, hF2⟩, ⟨A3, c3, rfl, hc3, hF3⟩⟩ := h.sl
 have hz := fun (o1 o2 o3 : Obj) j => blk_cell (blk_alloc (blk_alloc (blk_alloc h.blk o1) o2) o3) j
 have hlt := Aside0.mk h.lt
 have HBLK := Aside0.mk h.blk
 have OC := Aside0.mk (fun (W : World) (hW : Below w.heap.size w W) => octets_any b A2 c2 A3 c3 W hi hp (Kd.C_below (Kd.F_now hF2) hW) hc2 (Kd.C_below (Kd.F_now hF3) hW) hc3)
 have hu := Tryz.underlying40
 have hmf : ∀ (fn : Fn) (first cap : Array Value) (w : World), (Instr.makeFunc fn first cap).run Tryz.prog w = .ok (.func fn first cap) w := fun _ _ _ _ => rfl
 clear h hi hp hF2 hF3 hc2 hc3
 generalize hn : octI b.f2 + octU b.f3 = n at OC
 have HC : Aside0 (closeE b 0 = if n ≤ 20000 then 0 else 6) := ⟨by unfold closeE; rw [if_pos rfl, hn]⟩
 clear hn
 go_enter_defers Tryz.func106, Tryz.ntmps106
 go_wp2_with fail
 refine (OC.out _ (below_alloc (below_alloc (below_alloc (Below.refl _ _) _) _) _)).mono ?_
 rintro en w1 ⟨rfl, hb1⟩
 have HB1 := Aside0.mk (below_step (below_alloc (below_alloc (below_alloc (Below.refl w.heap.size w) _) _) _) hb1)
 have KG := Aside0.mk (blk_below HBLK.out HB1.out)
 have K1 := Aside0.mk (blk_below (blk3a w _ _ _) hb1)
 have K2 := Aside0.mk (blk_below (blk3b w _ _ _) hb1)
 have K3 := Aside0.mk (blk_below (blk3c w _ _ _) hb1)
 clear hz OC HBLK hb1
 have hzg := fun j => blk_cell KG.out j
 have hfg := fun j => blk_frozen KG.out j
 have hf2 := fun j => blk_frozen K2.out j
 have hf3 := fun j => blk_frozen K3.out j
 have hz2 := fun j => blk_cell K2.out j
 have hz3 := fun j => blk_cell K3.out j
 have hn1 : ¬ w.heap.size + 1 = g := by have := hlt.out; omega
 have hn2 : ¬ w.heap.size + 1 + 1 = g := by have := hlt.out; omega
 have hn3 : ¬ g = w.heap.size + 1 := by have := hlt.out; omega
 have hn4 : ¬ g = w.heap.size + 1 + 1 := by have := hlt.out; omega
 by_cases hn : n ≤ 20000
 ·have d1 : decide (n > 20000) = false := decide_eq_false (by omega)
  rw [if_pos hn] at HC
  clear hn
  go_wp2
  (first | go_end0 | ((try simp only [Exit.inBlock, Exit.then]); refine bodyPost_ret (results_none rfl _ _ _) rfl ?_))
  go_wp2
  go_region
  go_wp2
  refine leaves_cons (f := 144) (args := #[.pointer (some ⟨w.heap.size + 1 + 1, 0, none⟩), .pointer (some ⟨w.heap.size, 0, none⟩), .pointer (some ⟨w.heap.size + 1, 0, none⟩)]) (by simp) (by simp [go_sem]) ?_
  have hG1 := grown_of_below HB1.out (some g)
  have b2 := set5_blk K2.out (.string b.f0) (.int .i64 b.f1) (.slice A2 b.f2.length c2) (.slice A3 b.f3.length c3) (.int .u64 b.f4)
  have b3 := grown_blk (set5_grown _ (w.heap.size + 1) (.string b.f0) (.int .i64 b.f1) (.slice A2 b.f2.length c2) (.slice A3 b.f3.length c3) (.int .u64 b.f4)) K3.out (by omega)
  have b1 := grown_blk (set5_grown _ (w.heap.size + 1) (.string b.f0) (.int .i64 b.f1) (.slice A2 b.f2.length c2) (.slice A3 b.f3.length c3) (.int .u64 b.f4)) K1.out (by omega)
  have g3 := grown_set (set5 w1 (w.heap.size + 1) (.string b.f0) (.int .i64 b.f1) (.slice A2 b.f2.length c2) (.slice A3 b.f3.length c3) (.int .u64 b.f4)) (w.heap.size + 1 + 1) 0 (.int .i64 0)
  have e3 := blk_drew (blk_set b3 0 (.int .i64 0))
  have e2 := blk_drew (grown_blk g3 b2 (by omega))
  have e1 := blk_drew (grown_blk g3 b1 (by omega))
  have hW := grown_drew (grown_then (grown_then hG1 (set5_grown _ (w.heap.size + 1) (.string b.f0) (.int .i64 b.f1) (.slice A2 b.f2.length c2) (.slice A3 b.f3.length c3) (.int .u64 b.f4)) (.inl (by omega))) g3 (.inl (by omega)))
  refine (closed_ok .returning _ (w.heap.size + 1 + 1) w.heap.size (w.heap.size + 1) _ e3 e2).mono ?_
  rintro en u' w2 ⟨rfl, rfl, hB, hG⟩
  have hE := grown_blk hG e3 (by omega)
  have z1 := fun j => blk_cell hB j
  have z2 := fun j => blk_cell hE j
  refine ⟨.tuple #[.agg #[.string b.f0, .int .i64 b.f1, .slice A2 b.f2.length c2, .slice A3 b.f3.length c3, .int .u64 b.f4], .int .i64 0], by simp [results, Tryz.results106, go_sem, z1, z2], ?_⟩
  refine ⟨?_, grown_then hW hG (.inl (by omega))⟩
  rw [HC.out]
  rfl
 ·have d1 : decide (n > 20000) = true := decide_eq_true (by omega)
  rw [if_neg hn] at HC
  clear hn
  go_wp2
  (first | go_end0 | ((try simp only [Exit.inBlock, Exit.then]); refine bodyPost_ret (results_none rfl _ _ _) rfl ?_))
  go_wp2
  go_region
  go_wp2
  refine leaves_cons (f := 144) (args := #[.pointer (some ⟨w.heap.size + 1 + 1, 0, none⟩), .pointer (some ⟨w.heap.size, 0, none⟩), .pointer (some ⟨w.heap.size + 1, 0, none⟩)]) (by simp) (by simp [go_sem]) ?_
  have hG1 := grown_then (grown_of_below HB1.out (some g)) (grown_set w1 g 5 (.int .i64 6)) (.inr rfl)
  have b2 := set5_blk (grown_blk (grown_set w1 g 5 (.int .i64 6)) K2.out hn1) (.string b.f0) (.int .i64 b.f1) (.slice A2 b.f2.length c2) (.slice A3 b.f3.length c3) (.int .u64 b.f4)
  have b3 := grown_blk (set5_grown _ (w.heap.size + 1) (.string b.f0) (.int .i64 b.f1) (.slice A2 b.f2.length c2) (.slice A3 b.f3.length c3) (.int .u64 b.f4)) (grown_blk (grown_set w1 g 5 (.int .i64 6)) K3.out hn2) (by omega)
  have b1 := grown_blk (set5_grown _ (w.heap.size + 1) (.string b.f0) (.int .i64 b.f1) (.slice A2 b.f2.length c2) (.slice A3 b.f3.length c3) (.int .u64 b.f4)) (grown_blk (grown_set w1 g 5 (.int .i64 6)) K1.out (by have := hlt.out; omega)) (by omega)
  have g3 := grown_set (set5 (w1.setCell ⟨g, 5, none⟩ (.int .i64 6)) (w.heap.size + 1) (.string b.f0) (.int .i64 b.f1) (.slice A2 b.f2.length c2) (.slice A3 b.f3.length c3) (.int .u64 b.f4)) (w.heap.size + 1 + 1) 0 (.int .i64 6)
  have e3 := blk_drew (blk_set b3 0 (.int .i64 6))
  have e2 := blk_drew (grown_blk g3 b2 (by omega))
  have e1 := blk_drew (grown_blk g3 b1 (by omega))
  have hW := grown_drew (grown_then (grown_then hG1 (set5_grown _ (w.heap.size + 1) (.string b.f0) (.int .i64 b.f1) (.slice A2 b.f2.length c2) (.slice A3 b.f3.length c3) (.int .u64 b.f4)) (.inl (by omega))) g3 (.inl (by omega)))
  refine (closed_no .returning _ (w.heap.size + 1 + 1) w.heap.size (w.heap.size + 1) 6 q0 q1 q4 B2 B3 n2 n3 d2 d3 _ (by decide) (by omega) rfl e3 e1 e2).mono ?_
  rintro en u' w2 ⟨rfl, rfl, hB, hG⟩
  have hE := grown_blk hG e3 (by omega)
  have z1 := fun j => blk_cell hB j
  have z2 := fun j => blk_cell hE j
  refine ⟨.tuple #[.agg #[.string q0, .int .i64 q1, .slice B2 n2 d2, .slice B3 n3 d3, .int .u64 q4], .int .i64 6], by simp [results, Tryz.results106, go_sem, z1, z2], ?_⟩
  refine ⟨?_, grown_then hW hG (.inl (by omega))⟩
  rw [HC.out]
  rfl
theorem close_any (w : World) (g : Nat) (ok : Nat → Prop) (b : B) (v2 v3 : Value) (e : Int) (h : At w g ok b v2 v3 e) (hi : e = 0 → IdxSpec.indexB b.f2 = true ∧ partsB b.f3 = true) (q0 : ByteArray) (q1 q4 : Int) (B2 B3 : Option Addr) (n2 n3 d2 d3 : Nat) :
  Calls Tryz.prog 106 #[.pointer (some ⟨g, 0, none⟩), .agg #[.string q0, .int .i64 q1, .slice B2 n2 d2, .slice B3 n3 d3, .int .u64 q4]] w (Closed w g b v2 v3 e #[.string q0, .int .i64 q1, .slice B2 n2 d2, .slice B3 n3 d3, .int .u64 q4]) := by
 by_cases he : e = 0
 ·subst he
  exact close_well w g ok b v2 v3 h (hi rfl).1 (hi rfl).2 q0 q1 q4 B2 B3 n2 n3 d2 d3
 ·exact close_bad w g ok b v2 v3 e h he q0 q1 q4 B2 B3 n2 n3 d2 d3
theorem close_zero {b : B} {e : Int} (h : closeE b e = 0) : e = 0 ∧ octI b.f2 + octU b.f3 ≤ 20000 := by
 unfold closeE at h
 split at h
 ·rename_i he
  split at h
  ·exact ⟨he, ‹_›⟩
  ·cases h
 ·rename_i he; exact absurd h he
end Go.Proofs.YtpccbmechgkogaaGreatDoor.Close
namespace Go.Proofs.YtpccbmechgkogaaGreatDoor.IdxPut
open Go.RowKit Go.Proofs.YtpccbmechgkogaaGreatDoor.P Go.Proofs.YtpccbmechgkogaaGreatDoorW.PrintWords Go.Proofs.YtpccbmechgkogaaGreatDoor.PureKit Go.Proofs.YtpccbmechgkogaaGreatDoor.IdxSpec Go.Proofs.YtpccbmechgkogaaGreatDoor.IdxLaws
open Go.Proofs.YtpccbmechgkogaaGreatDoor.ChSpec (mayB chainB later good good_cons)
theorem bytes_inj {s t : ByteArray} (h : s.toList = t.toList) : s = t := by
 rw [ByteArray.toList_eq, ByteArray.toList_eq] at h
 cases s with | mk a => cases t with | mk b =>
 congr 1
 exact Array.ext' h
theorem has_key {key : ByteArray} {x : E} : IdxE.has key x = true ↔ x.f0 = key := by
 rw [has_iff]
 exact ⟨bytes_inj, fun h => by rw [h]⟩
theorem tri (a b : ByteArray) : lt a b = true ∨ a = b ∨ lt b a = true := by
 cases h1 : lt a b with
 | true => exact .inl rfl
 | false =>
  cases h2 : lt b a with
  | true => exact .inr (.inr rfl)
  | false => exact .inr (.inl (bytes_inj (lt_tri h1 h2)))
abbrev F1 (l : List E) (key : ByteArray) : List E := l.filter fun x => lt x.f0 key
abbrev F2 (l : List E) (key : ByteArray) : List E := l.filter fun x => lt key x.f0
theorem mem_new {key : ByteArray} {c : List V} {x : E} (h : x ∈ new key c) : x = ⟨key, c⟩ ∧ c ≠ [] := by
 unfold new at h
 split at h
 ·simp at h
 ·rename_i hc
  exact ⟨by simpa using h, hc⟩
theorem F1_mem {l : List E} {key : ByteArray} {x : E} : x ∈ F1 l key ↔ x ∈ l ∧ lt x.f0 key = true := by simp [F1]
theorem F2_mem {l : List E} {key : ByteArray} {x : E} : x ∈ F2 l key ↔ x ∈ l ∧ lt key x.f0 = true := by simp [F2]
theorem putL_mem {l : List E} {key : ByteArray} {c : List V} (h : Rise l) {x : E} : x ∈ putL l key c ↔ (x ∈ l ∧ lt x.f0 key = true) ∨ x ∈ new key c ∨ (x ∈ l ∧ lt key x.f0 = true) := by
 rw [putL_eq l key c h]
 simp only [List.mem_append, F1_mem, F2_mem, or_assoc]
theorem rise_putL {l : List E} {key : ByteArray} {c : List V} (h : Rise l) : Rise (putL l key c) := by
 rw [putL_eq l key c h]
 refine List.pairwise_append.2 ⟨List.pairwise_append.2 ⟨h.sublist List.filter_sublist, ?_, fun x hx y hy => ?_⟩, h.sublist List.filter_sublist, fun x hx y hy => ?_⟩
 ·unfold new
  split <;> simp
 ·obtain ⟨rfl, _⟩ := mem_new hy
  exact (F1_mem.1 hx).2
 ·have hy' := (F2_mem.1 hy).2
  rcases List.mem_append.1 hx with hx | hx
  ·exact lt_trans (F1_mem.1 hx).2 hy'
  ·obtain ⟨rfl, _⟩ := mem_new hx
   exact hy'
theorem ok_putL {l : List E} {key : ByteArray} {c : List V} (h : Rise l) (hl : ∀ x ∈ l, okE x = true) (hk : Name.keyB key = true) (hc : chainB c = true) : ∀ x ∈ putL l key c, okE x = true := by
 intro x hx
 rcases (putL_mem h).1 hx with hx | hx | hx
 ·exact hl x hx.1
 ·obtain ⟨rfl, hn⟩ := mem_new hx
  simp [okE, hk, hc, hn]
 ·exact hl x hx.1
theorem F1_putL {l : List E} {key : ByteArray} {c : List V} (h : Rise l) : F1 (putL l key c) key = F1 l key := by
 rw [putL_eq l key c h]
 unfold F1
 rw [List.filter_append, List.filter_append]
 rw [filter_all (l := l.filter fun x => lt x.f0 key) (fun x hx => (List.mem_filter.1 hx).2)]
 rw [filter_none (l := new key c) (fun x hx => by obtain ⟨rfl, _⟩ := mem_new hx; exact lt_irrefl key)]
 rw [filter_none (l := l.filter fun x => lt key x.f0) (fun x hx => lt_asymm (List.mem_filter.1 hx).2)]
 simp
theorem F2_putL {l : List E} {key : ByteArray} {c : List V} (h : Rise l) : F2 (putL l key c) key = F2 l key := by
 rw [putL_eq l key c h]
 unfold F2
 rw [List.filter_append, List.filter_append]
 rw [filter_all (l := l.filter fun x => lt key x.f0) (fun x hx => (List.mem_filter.1 hx).2)]
 rw [filter_none (l := new key c) (fun x hx => by obtain ⟨rfl, _⟩ := mem_new hx; exact lt_irrefl key)]
 rw [filter_none (l := l.filter fun x => lt x.f0 key) (fun x hx => lt_asymm (List.mem_filter.1 hx).2)]
 simp
def getL : List E → ByteArray → List V
 | [], _ => []
 | x :: r, key => if IdxE.has key x = true then x.f1 else getL r key
theorem getL_mem : ∀ {l : List E} {x : E} {key : ByteArray}, Rise l → x ∈ l → x.f0 = key → getL l key = x.f1
 | y :: r, x, key, h, hx, hk => by
  obtain ⟨h1, h2⟩ := List.pairwise_cons.1 h
  unfold getL
  rcases List.mem_cons.1 hx with rfl | hx
  ·rw [if_pos (has_key.2 hk)]
  ·rw [if_neg, getL_mem h2 hx hk]
   intro hc
   have := h1 x hx
   rw [has_key.1 hc, hk, lt_irrefl] at this
   cases this
theorem getL_none : ∀ {l : List E} {key : ByteArray}, (∀ x ∈ l, x.f0 ≠ key) → getL l key = []
 | [], _, _ => rfl
 | y :: r, key, h => by
  unfold getL
  rw [if_neg (fun hc => h y (by simp) (has_key.1 hc)), getL_none (fun x hx => h x (by simp [hx]))]
theorem getL_cases (l : List E) (key : ByteArray) : (∃ x ∈ l, x.f0 = key ∧ getL l key = x.f1) ∨ ((∀ x ∈ l, x.f0 ≠ key) ∧ getL l key = []) := by
 induction l with
 | nil => exact .inr ⟨fun x hx => by simp at hx, rfl⟩
 | cons y r ih =>
  by_cases hh : IdxE.has key y = true
  ·exact .inl ⟨y, by simp, has_key.1 hh, if_pos hh⟩
  ·have e : getL (y :: r) key = getL r key := if_neg hh
   rw [e]
   rcases ih with ⟨x, hx, h1, h2⟩ | ⟨h1, h2⟩
   ·exact .inl ⟨x, by simp [hx], h1, h2⟩
   ·refine .inr ⟨fun x hx => ?_, h2⟩
    rcases List.mem_cons.1 hx with rfl | hx
    ·exact fun hc => hh (has_key.2 hc)
    ·exact h1 x hx
theorem parts : ∀ {l : List E} {key : ByteArray}, Rise l → (∀ x ∈ l, x.f1 ≠ []) → F1 l key ++ new key (getL l key) ++ F2 l key = l
 | [], key, _, _ => by simp [F1, F2, getL, new]
 | x :: r, key, h, hn => by
  obtain ⟨h1, h2⟩ := List.pairwise_cons.1 h
  have ih := parts (key := key) h2 (fun y hy => hn y (by simp [hy]))
  rcases tri x.f0 key with hx | hx | hx
  ·have hh : ¬ IdxE.has key x = true := fun hc => by rw [has_key.1 hc, lt_irrefl] at hx; cases hx
   rw [show F1 (x :: r) key = x :: F1 r key from List.filter_cons_of_pos (by simpa using hx), show F2 (x :: r) key = F2 r key from List.filter_cons_of_neg (by simp [lt_asymm hx]), show getL (x :: r) key = getL r key from if_neg hh]
   simpa using ih
  ·have hr : ∀ y ∈ r, lt key y.f0 = true := fun y hy => hx ▸ h1 y hy
   rw [show F1 (x :: r) key = [] from filter_none (fun y hy => by
     rcases List.mem_cons.1 hy with rfl | hy
     ·rw [hx]; exact lt_irrefl key
     ·exact lt_asymm (hr y hy)),
    show F2 (x :: r) key = r from (List.filter_cons_of_neg (by rw [hx]; simp [lt_irrefl])).trans (filter_all hr), show getL (x :: r) key = x.f1 from if_pos (has_key.2 hx)]
   have : new key x.f1 = [x] := by
    unfold new
    rw [if_neg (hn x (by simp)), ← hx]
   rw [this]
   rfl
  ·have hr : ∀ y ∈ x :: r, lt key y.f0 = true := fun y hy => by
    rcases List.mem_cons.1 hy with rfl | hy
    ·exact hx
    ·exact lt_trans hx (h1 y hy)
   rw [show F1 (x :: r) key = [] from filter_none (fun y hy => lt_asymm (hr y hy)), show F2 (x :: r) key = x :: r from filter_all hr, getL_none (fun y hy hk => by have := hr y hy; rw [hk, lt_irrefl] at this; cases this)]
   simp [new]
theorem back {l : List E} {key : ByteArray} {c : List V} (h : Rise l) (hn : ∀ x ∈ l, x.f1 ≠ []) : putL (putL l key c) key (getL l key) = l := by
 rw [putL_eq _ key _ (rise_putL h)]
 rw [show ((putL l key c).filter fun x => lt x.f0 key) = F1 l key from F1_putL h, show ((putL l key c).filter fun x => lt key x.f0) = F2 l key from F2_putL h]
 exact parts h hn
def octC (c : List V) : Nat := (c.map fun v => v.f1.size).sum
def many (l : List E) : Nat := (l.map fun x => x.f1.length).sum
def octs (l : List E) : Nat := (l.map fun x => octC x.f1).sum
end Go.Proofs.YtpccbmechgkogaaGreatDoor.IdxPut
namespace Go.Proofs.YtpccbmechgkogaaGreatDoor.ChkM
open Go.RowKit Go.Proofs.YtpccbmechgkogaaGreatDoor.P Go.Proofs.YtpccbmechgkogaaGreatDoorW.PrintWords Go.Proofs.YtpccbmechgkogaaGreatDoor.ChSpec
set_option maxRecDepth 100000 in
set_option maxHeartbeats 6400000 in
theorem may_any (v : V) (w : World) : Calls Tryz.prog 137 #[.agg #[.int .u64 v.f0, .string v.f1, .bool v.f2, .int .i64 v.f3]] w fun e w' => e = .returned (.bool (mayB v)) ∧ Below w.heap.size w w' := by
 have hu := Tryz.underlying63
 unfold mayB
 have e3 : decide (v.f1.toList = []) = (v.f1.toList == []) := by rw [Bool.eq_iff_iff]; simp
 rw [e3]
 clear e3
 cases d1 : decide (v.f0 ≤ 281474976710655) <;> cases d2 : decide ((v.f1.size : Int) ≤ 2000) <;> cases d3 : v.f2 <;> cases d4 : v.f1.toList == [] <;> cases d5 : decide (0 ≤ v.f3) <;> cases d6 : decide (v.f3 ≤ 1099511627775) <;>
 ·go_enter Tryz.func137, Tryz.ntmps137
  go_wp2
  go_ret
  exact ⟨rfl, (Below.refl _ _).alloc (Nat.le_refl _) _⟩
theorem may_no (v : V) (w : World) : Calls Tryz.prog 136 #[.agg #[.int .u64 v.f0, .string v.f1, .bool v.f2, .int .i64 v.f3]] w fun e w' => e = .returned (.bool (!mayB v)) ∧ Below w.heap.size w w' := by
 have hu := Tryz.underlying63
 have C := fun w => Aside0.mk (may_any v w)
 go_enter Tryz.func136, Tryz.ntmps136
 go_wp2_with fail
 refine (C _).out.mono ?_
 rintro e w1 ⟨rfl, hb⟩
 have HB := Aside0.mk (below_step ((Below.refl _ _).alloc (Nat.le_refl _) _) hb)
 clear hb C
 go_wp2
 go_ret
 exact ⟨rfl, HB.out⟩
end Go.Proofs.YtpccbmechgkogaaGreatDoor.ChkM
