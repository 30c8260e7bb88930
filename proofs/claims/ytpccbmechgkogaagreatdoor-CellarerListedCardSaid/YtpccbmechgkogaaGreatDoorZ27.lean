/-
  Lemmas: ClB, ClkTick, ClkShut.
-/
import Derived.Lib.SliceRun
import Derived.Outline
import Derived.Test.YtpccbmechgkogaaGreatDoorProg
import Derived.BigRegion
import Derived.RegionTactic
import Derived.Test.YtpccbmechgkogaaGreatDoorV0
import Derived.Test.YtpccbmechgkogaaGreatDoorZ00
import Derived.Test.YtpccbmechgkogaaGreatDoorZ01
import Derived.Test.YtpccbmechgkogaaGreatDoorZ02
import Derived.Test.YtpccbmechgkogaaGreatDoorZ04
import Derived.Test.YtpccbmechgkogaaGreatDoorZ05
import Derived.Test.YtpccbmechgkogaaGreatDoorZ06
import Derived.Test.YtpccbmechgkogaaGreatDoorZ07
import Derived.Test.YtpccbmechgkogaaGreatDoorZ08
import Derived.Test.YtpccbmechgkogaaGreatDoorZ11
import Derived.Test.YtpccbmechgkogaaGreatDoorZ17
import Derived.Test.YtpccbmechgkogaaGreatDoorZ20
import Derived.Test.YtpccbmechgkogaaGreatDoorZ21
import Derived.Test.YtpccbmechgkogaaGreatDoorZ22
set_option linter.unusedVariables false
set_option linter.unusedSimpArgs false
namespace Go.Proofs.YtpccbmechgkogaaGreatDoor.ClB
open Go.RowKit Go.Proofs.YtpccbmechgkogaaGreatDoor.P Go.Proofs.YtpccbmechgkogaaGreatDoorW.PrintWords
abbrev T := S40
theorem info : (Tryz.prog.info? 40).map (fun i => (i.zero, i.size, i.bytes)) = some (some (.agg #[(.string ⟨#[]⟩), (.int .i64 0), (.slice none 0 0), (.slice none 0 0), (.int .u64 0)]), 5, 80) := by kernel_rfl
def Post (ok : Nat → Prop) (w : World) (l : List T) (e : Ending) (w' : World) : Prop := ∃ v0_ : Value, e = .returned v0_ ∧ Kd.N k40 40 w' w.heap.size (fun k_ => ok k_ ∨ w.heap.size ≤ k_) v0_ l ∧ Below w.heap.size w w'
set_option maxRecDepth 100000 in
set_option maxHeartbeats 1600000 in
theorem clone_any (w : World) (ok : Nat → Prop) (hok : ∀ k_, ok k_ → k_ < w.heap.size) (A : Option Addr) (c : Nat) (l : List T) (hr : Kd.F k40 w ok A l.length l) (hl : l.length < 1759218604441) :
  Calls Tryz.prog 53 #[.slice A l.length c] w (Post ok w l) := by
 have qT : ∀ (w : World) (a : Option Addr) (n c n' c' : Nat), (binOp .eql 23 (.slice a n c) (.slice none n' c')).run Tryz.prog w = .ok (.bool a.isNone) w := fun w a n c n' c' => Lib.run_eql_slice_nil w _ _ a n c n' c' Tryz.underlying23
 cases A with
 | none =>
  have h0 : l = [] := by
   rcases l with _ | ⟨x, r⟩
   ·rfl
   ·obtain ⟨ad, h, _⟩ := (Kd.F_now hr).2.2 (by simp)
    cases h
  subst h0
  clear hr hl
  go_enter Tryz.func53, Tryz.ntmps53
  go_wp2
  go_ret
  exact ⟨_, rfl, Kd.N_nil _ _ _ _ _, Below.refl _ _⟩
 | some ad =>
  have HR := Aside0.mk hr
  have HK := Aside0.mk hok
  clear hr hok
  have hu := Tryz.underlying40
  go_enter Tryz.func53, Tryz.ntmps53
  have HL := Aside0.mk hl
  clear hl
  go_wp2_with (first
   | ((with_reducible refine gate_dst (N := 5) rfl ?_); refine Kd.N_lit (w0 := w) k40 w.heap.size 40 ?hg (N' := 5) ?hd (xs := []) (inner := []) (ok := fun k_ => ok k_ ∨ w.heap.size ≤ k_) (okp := fun _ => False) ?hr ?hp (fun _ h => h.elim) (.inr (Nat.le_refl _)) (Below.refl _ _) (Nat.le_refl _) (by simp) ?_; (case hd => rfl); (case hg => rfl); (case hr => first | (go_simp; done) | (go_simp; rfl)); (case hp => exact Reps.none _ _); intro v1 w1 ho hb hg hat; have HO := Aside0.mk ho; have HB := Aside0.mk hb; have HA := Aside0.mk hat; have HG := Aside0.mk hg; clear ho hb hg hat)
   | ((with_reducible refine gate_builtin (b := .append) (xs := #[.tmp 5, .tmp 6]) rfl ?_); at_builtin; refine Kd.N_append_rows k40 (w0 := w) w.heap.size rfl (.tmp 5) (.tmp 6) 23 40 (.agg #[(.string ⟨#[]⟩), (.int .i64 0), (.slice none 0 0), (.slice none 0 0), (.int .u64 0)]) 80 rfl Tryz.underlying23 info rfl (by decide) (by omega) v1 [] l _ _ _ (fun k_ => ok k_ ∨ w.heap.size ≤ k_) ok rfl rfl ?aO ?aR ?aP ?aF ?aB ?aS ?aL ?_; (case aR => exact Kd.F_grown HR.out HG.out (fun _ _ => by simp)); (case aP => exact (fun k_ h_ => ⟨.inl h_, by obtain ⟨b, e1, e2⟩ := HA.out; rw [e1]; have := HK.out k_ h_; intro e3; have := Option.some.inj e3; omega⟩)); (case aB => exact HB.out); (case aF => exact (fun k_ h_ => .inr (Nat.le_trans HB.out.size h_))); (case aO => exact HO.out); (case aS => exact HB.out.size); (case aL => have := HL.out; simp; omega); intro v2 w2 ho hb hg hat; have HO2 := Aside0.mk ho; have HB2 := Aside0.mk hb; clear HO HB HA HG; clear ho hb hg hat))
  go_ret
  exact ⟨_, rfl, HO2.out, HB2.out⟩
end Go.Proofs.YtpccbmechgkogaaGreatDoor.ClB
namespace Go.Proofs.YtpccbmechgkogaaGreatDoor.ClkTick
open Go.RowKit Go.Proofs.YtpccbmechgkogaaGreatDoor.P Go.Proofs.YtpccbmechgkogaaGreatDoorW.PrintWords Go.Proofs.YtpccbmechgkogaaGreatDoorW.PrintLast Go.Proofs.YtpccbmechgkogaaGreatDoorW.PrintMore Go.Proofs.YtpccbmechgkogaaGreatDoor.PureKit Go.Proofs.YtpccbmechgkogaaGreatDoor.BkSpec Go.Proofs.YtpccbmechgkogaaGreatDoor.Wk Go.Proofs.YtpccbmechgkogaaGreatDoor.Close Go.Proofs.YtpccbmechgkogaaGreatDoor.BkOk Go.Proofs.YtpccbmechgkogaaGreatDoor.DpChk Go.Proofs.YtpccbmechgkogaaGreatDoor.DpFind Go.Proofs.YtpccbmechgkogaaGreatDoor.BkUps Go.Proofs.YtpccbmechgkogaaGreatDoor.PtLack Go.Proofs.YtpccbmechgkogaaGreatDoor.Clk
def Alls (w : World) (g : Nat) (vp : Value) (en : Ending) (w' : World) : Prop :=
 ∃ (q : Q) (now : Int) (vl : Value) (l : List B) (b : B) (v2 v3 : Value) (ti : Int) (tt : ByteArray) (e : Int), (en = .returned (.tuple #[]) ∧ CAt w' g q vp now vl l b v2 v3 ti tt e ∧ w.grownBy w' (some g)) ∧ (e = 0 → DepOk now l)
theorem CAt.drew {w : World} {g : Nat} {q : Q} {vp : Value} {now : Int} {vl : Value} {l : List B} {b : B} {v2 v3 : Value} {ti : Int} {tt : ByteArray} {e : Int} (h : CAt w g q vp now vl l b v2 v3 ti tt e) : CAt w.drew g q vp now vl l b v2 v3 ti tt e := h.below (below_drew (Below.refl _ _))
theorem CAt.setN {w : World} {g : Nat} {q : Q} {vp : Value} {now : Int} {vl : Value} {l : List B} {b : B} {v2 v3 : Value} {ti : Int} {tt : ByteArray} {e : Int} (h : CAt w g q vp now vl l b v2 v3 ti tt e) (n : Int) : CAt (w.setCell ⟨g, 9, none⟩ (.int .i64 n)) g q vp n vl l b v2 v3 ti tt e := ⟨blk_set h.blk 9 _, h.rpG (grown_set _ _ _ _), h.rlG (grown_set _ _ _ _), h.slG (grown_set _ _ _ _)⟩
theorem DepOk.later {now n : Int} {l : List B} (h : DepOk now l) (h1 : now ≤ n) (h2 : n ≤ 1099511627775) : DepOk n l := ⟨by have := h.n0; omega, h2, h.len, fun b hb => (h.ok b hb).later h1, h.rise⟩
set_option maxRecDepth 100000 in
set_option maxHeartbeats 3200000 in
theorem tick_any (w : World) (g : Nat) (q : Q) (vp : Value) (now : Int) (vl : Value) (l : List B) (b : B) (v2 v3 : Value) (ti : Int) (tt : ByteArray) (h : CAt w g q vp now vl l b v2 v3 ti tt 0) (hd : DepOk now l) :
  Calls Tryz.prog 18 #[.pointer (some ⟨g, 0, none⟩)] w (Alls w g vp) := by
 have HC := Aside0.mk h
 have HD := Aside0.mk hd
 have HS7 : Aside0 (w.cell? ⟨g, 7, none⟩ = some (.int .i64 q.f7)) := ⟨(blk_cell h.blk 7).trans rfl⟩
 have HS9 : Aside0 (w.cell? ⟨g, 9, none⟩ = some (.int .i64 now)) := ⟨(blk_cell h.blk 9).trans rfl⟩
 have hw : IntKind.i64.wrap (1099511627775 - now) = 1099511627775 - now := by rw [IntKind.wrap_i64]; have := hd.n0; have := hd.n1; omega
 clear h hd
 by_cases h1 : q.f7 < 0
 case' pos =>
  have d1 : decide (q.f7 < 0) = true := decide_eq_true h1
  clear h1
  go_enter Tryz.func18, Tryz.ntmps18
  go_wp2_with fail
  refine start_ (n := 20) (S := fun w' => w'.cell? ⟨g, 7, none⟩ = some (.int .i64 q.f7) ∧ w'.cell? ⟨g, 9, none⟩ = some (.int .i64 now)) (ds := []) (bb 20 0) (by kernel_rfl) rfl rfl ⟨HS7.out, HS9.out⟩ (fun hHeld => ?_)
  refine pu 0 2 (h := pu 1 3 (h := pu 2 4 (h := pu 3 5 (h := ta 4 6 hHeld (h := pu 5 7 (h := pu 6 8 (h := po 7 9 (h := po 8 10 (h := po 9 11 (h := po 10 12 (h := po 11 13 (h := po 12 14 (h := po 13 15 (h := po 14 16 (h := po 15 17 (h := po 16 18 (h := po 17 19 (h := po 18 20 (h := pu 19 21 (h := dn (h := ?_)))))))))))))))))))))
 case' neg =>
  have d1 : decide (q.f7 < 0) = false := decide_eq_false h1
  by_cases h2 : q.f7 > 1099511627775 - now
  case' pos =>
   have d2 : decide (1099511627775 - now < q.f7) = true := decide_eq_true h2
  case' neg =>
   have d2 : decide (1099511627775 - now < q.f7) = false := decide_eq_false h2
   have HN := Aside0.mk (And.intro h1 h2)
  all_goals
   clear h1 h2
   go_enter Tryz.func18, Tryz.ntmps18
   go_wp2_with fail
   refine start_ (n := 20) (S := fun w' => w'.cell? ⟨g, 7, none⟩ = some (.int .i64 q.f7) ∧ w'.cell? ⟨g, 9, none⟩ = some (.int .i64 now)) (ds := []) (bb 20 0) (by kernel_rfl) rfl rfl ⟨HS7.out, HS9.out⟩ (fun hHeld => ?_)
   refine pu 0 2 (h := pu 1 3 (h := pu 2 4 (h := pu 3 5 (h := ta 4 6 hHeld (h := pu 5 7 (h := pu 6 8 (h := pu 7 9 (h := pu 8 10 (h := pu 9 11 (h := pu 10 12 (h := pu 12 14 (h := pu 13 15 (h := pu 14 16 (h := pu 15 17 (h := ta 11 13 hHeld (h := ta 16 18 hHeld (h := pu 17 19 (h := pu 18 20 (h := pu 19 21 (h := dn (h := ?_)))))))))))))))))))))
 ·have hw2 : IntKind.i64.wrap (now + q.f7) = now + q.f7 := by rw [IntKind.wrap_i64]; have := HD.out.n0; have := HD.out.n1; have := HN.out; omega
  have H1 := Aside0.mk (CAt.drew HC.out)
  have hz := fun j => blk_cell H1.out.blk j
  have hf := fun j => blk_frozen H1.out.blk j
  clear hHeld hw d1 d2
  go_wp2_with fail
  go_region
  go_wp2
  (first | go_end0 | ((try simp only [Exit.inBlock, Exit.then]); refine bodyPost_ret (results_none rfl _ _ _) rfl ?_))
  have hN := HN.out
  exact ⟨q, now + q.f7, vl, l, b, v2, v3, ti, tt, 0, ⟨rfl, CAt.drew (CAt.setN H1.out _), grown_drew (grown_then (grown_drew (World.grownBy.refl w (some g))) (grown_set _ g 9 _) (.inr rfl))⟩, fun _ => DepOk.later HD.out (by omega) (by omega)⟩
 all_goals
  have H1 := Aside0.mk (CAt.drew HC.out)
  (try clear hHeld)
  clear hw d1
  (try clear d2)
  go_wp2_with fail
  refine (no_any _ g q vp now vl l b v2 v3 ti tt 0 H1.out 1).mono ?_
  rintro en w2 ⟨rfl, hC, hg⟩
  have HC2 := Aside0.mk (And.intro hC (grown_then (grown_drew (World.grownBy.refl w (some g))) hg (.inr rfl)))
  clear hC hg
  go_wp2
  (first | go_end0 | ((try simp only [Exit.inBlock, Exit.then]); refine bodyPost_ret (results_none rfl _ _ _) rfl ?_))
  exact ⟨q, now, vl, l, b, v2, v3, ti, tt, 1, ⟨rfl, HC2.out.1, HC2.out.2⟩, fun h => absurd h (by decide)⟩
end Go.Proofs.YtpccbmechgkogaaGreatDoor.ClkTick
namespace Go.Proofs.YtpccbmechgkogaaGreatDoor.ClkShut
open Go.RowKit Go.Proofs.YtpccbmechgkogaaGreatDoor.P Go.Proofs.YtpccbmechgkogaaGreatDoorW.PrintWords Go.Proofs.YtpccbmechgkogaaGreatDoorW.PrintLast Go.Proofs.YtpccbmechgkogaaGreatDoorW.PrintMore Go.Proofs.YtpccbmechgkogaaGreatDoor.PureKit Go.Proofs.YtpccbmechgkogaaGreatDoor.BkSpec Go.Proofs.YtpccbmechgkogaaGreatDoor.Wk Go.Proofs.YtpccbmechgkogaaGreatDoor.Close Go.Proofs.YtpccbmechgkogaaGreatDoor.BkOk Go.Proofs.YtpccbmechgkogaaGreatDoor.DpChk Go.Proofs.YtpccbmechgkogaaGreatDoor.DpFind Go.Proofs.YtpccbmechgkogaaGreatDoor.BkUps Go.Proofs.YtpccbmechgkogaaGreatDoor.PtLack Go.Proofs.YtpccbmechgkogaaGreatDoor.Clk Go.Proofs.YtpccbmechgkogaaGreatDoor.ClkTick
def Shutd (w : World) (g : Nat) (q : Q) (vp : Value) (now : Int) (b : B) (v2 v3 : Value) (ti : Int) (tt : ByteArray) (e : Int) (en : Ending) (w' : World) : Prop :=
 ∃ (vl : Value) (l : List B), Took w g q vp now vl l b v2 v3 ti tt e en w' ∧ (e = 0 → DepOk now l)
theorem CAt.setL {w : World} {g : Nat} {q : Q} {vp : Value} {now : Int} {vl : Value} {l : List B} {b : B} {v2 v3 : Value} {ti : Int} {tt : ByteArray} {e : Int} (h : CAt w g q vp now vl l b v2 v3 ti tt e) {u : Value} {r : List B} (hr : Rd kB w (okg g) u r) : CAt (w.setCell ⟨g, 10, none⟩ u) g q vp now u r b v2 v3 ti tt e :=
 ⟨blk_set h.blk 10 _, h.rpG (grown_set _ _ _ _), Kd.V_grown hr (grown_set _ _ _ _) (fun k hk e => hk.1 (Option.some.inj e)), h.slG (grown_set _ _ _ _)⟩
theorem dep_set {now : Int} {l : List B} {k : Nat} {b : B} (h : DepOk now l) (hk : k < l.length) (hb : Ok now b) (he : l[k].f0 = b.f0) : DepOk now (l.set k b) := by
 refine ⟨h.n0, h.n1, by rw [List.length_set]; exact h.len, fun x hx => ?_, ?_⟩
 ·rcases List.mem_or_eq_of_mem_set hx with hm | rfl
  ·exact h.ok x hm
  ·exact hb
 ·have hr := h.rise
  rw [List.pairwise_iff_getElem] at hr ⊢
  intro i j hi hj hij
  rw [List.length_set] at hi hj
  have key : ∀ m (hm : m < (l.set k b).length), (l.set k b)[m].f0 = (l[m]'(by rwa [List.length_set] at hm)).f0 := fun m hm => by
   rw [List.getElem_set]
   split
   ·rename_i hkm; subst hkm; exact he.symm
   ·rfl
  rw [key i (by rw [List.length_set]; exact hi), key j (by rw [List.length_set]; exact hj)]
  exact hr i j hi hj hij
set_option maxRecDepth 100000 in
set_option maxHeartbeats 6400000 in
theorem shut_any (w : World) (g : Nat) (q : Q) (vp : Value) (now : Int) (vl : Value) (l : List B) (b : B) (v2 v3 : Value) (ti : Int) (tt : ByteArray) (e : Int) (h : CAt w g q vp now vl l b v2 v3 ti tt e) (hd : DepOk now l) (hb : e = 0 → Ok now b) :
  Calls Tryz.prog 30 #[.pointer (some ⟨g, 0, none⟩)] w (Shutd w g q vp now b v2 v3 ti tt e) := by
 have hu := Tryz.underlying40
 have hud := Tryz.underlying25
 have hrl := h.rl
 obtain ⟨AL, cl, rfl, hcl, hFl⟩ := hrl
 have HR := Aside0.mk (Kd.F_now hFl)
 obtain ⟨A2, c2, rfl⟩ := Kd.V_slice h.sl.r2
 obtain ⟨A3, c3, rfl⟩ := Kd.V_slice h.sl.r3
 have HC := Aside0.mk h
 have HD := Aside0.mk hd
 have HO := Aside0.mk hb
 have HS9 : Aside0 (w.cell? ⟨g, 9, none⟩ = some (.int .i64 now)) := ⟨(blk_cell h.blk 9).trans rfl⟩
 have HS10 : Aside0 (w.cell? ⟨g, 10, none⟩ = some (.slice AL l.length cl)) := ⟨(blk_cell h.blk 10).trans rfl⟩
 have HS11 : Aside0 (w.cell? ⟨g, 11, none⟩ = some (.string b.f0)) := ⟨(blk_cell h.blk 11).trans rfl⟩
 clear h hd hb hFl hcl
 go_enter Tryz.func30, Tryz.ntmps30
 go_wp2_with fail
 refine start_ (n := 11) (S := fun w' => w'.cell? ⟨g, 9, none⟩ = some (.int .i64 now) ∧ w'.cell? ⟨g, 10, none⟩ = some (.slice AL l.length cl) ∧ w'.cell? ⟨g, 11, none⟩ = some (.string b.f0)) (ds := []) (bb 11 0) (by kernel_rfl) rfl rfl ⟨HS9.out, HS10.out, HS11.out⟩ (fun hHeld => ?_)
 refine pu 0 3 (h := pu 1 4 (h := pu 2 5 (h := pu 4 7 (h := pu 5 8 (h := pu 6 9 (h := pu 7 10 (h := ta 3 6 hHeld (h := ta 8 11 hHeld (h := on_ 9 12 (h := fun K hK => ?_))))))))))
 refine goes_ Tryz.func49 (by kernel_rfl) rfl #[.agg #[.int .i64 now, .slice AL l.length cl], .string b.f0] (by rfl) rfl rfl (by simp only [List.map_toArray, List.map_cons, List.map_nil]; rfl) ?_
 refine (DpLate.place_any now AL cl l b.f0 w.drew (Kd.C_drew HR.out)).mono ?_
 rintro e3 w1 ⟨rfl, hb1⟩
 refine ⟨_, rfl, ?_⟩
 have HB1 := Aside0.mk (below_step (below_drew (Below.refl w.heap.size w)) hb1)
 clear hb1
 refine hK.out _ _ ⟨(pw_cell_below HB1.out HS9.out), (pw_cell_below HB1.out HS10.out), (pw_cell_below HB1.out HS11.out)⟩ (fun hHeld => ?_)
 clear hK K
 refine nm (h := pu 10 2 (h := dn (h := ?_)))
 clear hHeld
 have HC1 := Aside0.mk (HC.out.below HB1.out)
 have HG1 := Aside0.mk (grown_of_below HB1.out (some g))
 have hz := fun j => blk_cell HC1.out.blk j
 obtain ⟨i, hi⟩ : ∃ i, i = IdxG.idx (DpLate.named b.f0) l := ⟨_, rfl⟩
 rw [← hi]
 by_cases he : e = 0
 case neg =>
  have d1 : (e == 0) = false := beq_eq_false_iff_ne.mpr he
  have HE := Aside0.mk he
  clear he hi
  go_wp2
  (first | go_end0 | ((try simp only [Exit.inBlock, Exit.then]); refine bodyPost_ret (results_none rfl _ _ _) rfl ?_))
  exact ⟨_, l, ⟨rfl, HC1.out, HG1.out⟩, fun h => absurd h HE.out⟩
 subst he
 have HO0 := Aside0.mk (HO.out rfl)
 clear HO
 rcases hfi : l.findIdx? (DpLate.named b.f0) with _ | k
 ·have hi2 : i = -1 := by rw [hi]; unfold IdxG.idx; rw [hfi]
  subst hi2
  clear hi hfi
  go_wp2
  (first | go_end0 | ((try simp only [Exit.inBlock, Exit.then]); refine bodyPost_ret (results_none rfl _ _ _) rfl ?_))
  exact ⟨_, l, ⟨rfl, HC1.out, HG1.out⟩, fun _ => HD.out⟩
 have hi2 : i = (k : Int) := by rw [hi]; unfold IdxG.idx; rw [hfi]
 subst hi2
 obtain ⟨hk, hpk, -⟩ := List.findIdx?_eq_some_iff_getElem.1 hfi
 have HK := Aside0.mk (show ∃ h : k < l.length, l[k].f0 = b.f0 from ⟨hk, named_iff.1 hpk⟩)
 have d2 : decide ((k : Int) ≥ 0) = true := by rw [decide_eq_true_iff]; omega
 have HKL := Aside0.mk hk
 clear hi hfi hpk hk
 go_wp2_with fail
 have hrl := Kd.V_bound HC1.out.rl
 obtain ⟨AL', cl', e', hcl, hFl⟩ := hrl
 injection e' with eA _ ec
 subst eA
 subst ec
 refine (ClB.clone_any w1 (fun k => okg g k ∧ k < w1.heap.size) (fun k hk => hk.2) AL cl l hFl (by have := HD.out.len; omega)).mono ?_
 rintro en w2 ⟨v2', rfl, hN2, hb2⟩
 obtain ⟨gl, capl, rfl, hgl0, hgl1, -⟩ := Kd.N_form hN2 (by have := HKL.out; omega)
 have hslt := HC1.out.lt
 have hN3 : Kd.N kB 40 (w2.setCell ⟨g, 10, none⟩ (.slice (some ⟨gl, 0, none⟩) l.length capl)) w1.heap.size (fun k => (okg g k ∧ k < w1.heap.size) ∨ w1.heap.size ≤ k) (.slice (some ⟨gl, 0, none⟩) l.length capl) l := Kd.N_far (p := ⟨g, 10, none⟩) hN2 (fun q hq => by rcases hq with h | h; exact h.1.1; show q ≠ g; omega) _
 have HC2 := Aside0.mk (HC1.out.below hb2)
 have HG2 := Aside0.mk (grown_then HG1.out (grown_of_below hb2 (some g)) (.inr rfl))
 have HRd : Aside0 (Rd kB w2 (okg g) (.slice (some ⟨gl, 0, none⟩) l.length capl) l) := ⟨Kd.V_mono (PtPlace.rd_N hN2) (fun q hq => by rcases hq with h | h; exact h.1; exact ⟨by omega, by omega, by omega⟩)⟩
 have HC3 := Aside0.mk (CAt.setL HC2.out HRd.out)
 have HG3 := Aside0.mk (grown_then HG2.out (grown_set w2 g 10 (.slice (some ⟨gl, 0, none⟩) l.length capl)) (.inr rfl))
 have HGL := Aside0.mk (And.intro hgl0 (And.intro hgl1 hslt))
 obtain ⟨c5, hc5l, -, hcc, hff⟩ := Kd.N_elem hN3 z40 (k : Int) (by omega) (by have := HKL.out; omega)
 obtain ⟨y0, y1, y2, y3, y4, rfl⟩ : ∃ y0 y1 y2 y3 y4, c5 = [y0, y1, y2, y3, y4] := by
  match c5, hc5l with
  | [y0, y1, y2, y3, y4], _ => exact ⟨y0, y1, y2, y3, y4, rfl⟩
 have HN3 := Aside0.mk hN3
 have HCC := Aside0.mk hcc
 rw [Int.toNat_natCast] at hcc hff
 have g0 : (w2.setCell ⟨g, 10, none⟩ (.slice (some ⟨gl, 0, none⟩) l.length capl)).cell? ⟨gl, k * 5, none⟩ = some y0 := hcc 0 _ rfl
 have f0 : (w2.setCell ⟨g, 10, none⟩ (.slice (some ⟨gl, 0, none⟩) l.length capl)).frozen? ⟨gl, k * 5, none⟩ = false := hff 0
 have g1 : (w2.setCell ⟨g, 10, none⟩ (.slice (some ⟨gl, 0, none⟩) l.length capl)).cell? ⟨gl, k * 5 + 1, none⟩ = some y1 := hcc 1 _ rfl
 have f1 : (w2.setCell ⟨g, 10, none⟩ (.slice (some ⟨gl, 0, none⟩) l.length capl)).frozen? ⟨gl, k * 5 + 1, none⟩ = false := hff 1
 have g2 : (w2.setCell ⟨g, 10, none⟩ (.slice (some ⟨gl, 0, none⟩) l.length capl)).cell? ⟨gl, k * 5 + 2, none⟩ = some y2 := hcc 2 _ rfl
 have f2 : (w2.setCell ⟨g, 10, none⟩ (.slice (some ⟨gl, 0, none⟩) l.length capl)).frozen? ⟨gl, k * 5 + 2, none⟩ = false := hff 2
 have g3 : (w2.setCell ⟨g, 10, none⟩ (.slice (some ⟨gl, 0, none⟩) l.length capl)).cell? ⟨gl, k * 5 + 3, none⟩ = some y3 := hcc 3 _ rfl
 have f3 : (w2.setCell ⟨g, 10, none⟩ (.slice (some ⟨gl, 0, none⟩) l.length capl)).frozen? ⟨gl, k * 5 + 3, none⟩ = false := hff 3
 have g4 : (w2.setCell ⟨g, 10, none⟩ (.slice (some ⟨gl, 0, none⟩) l.length capl)).cell? ⟨gl, k * 5 + 4, none⟩ = some y4 := hcc 4 _ rfl
 have f4 : (w2.setCell ⟨g, 10, none⟩ (.slice (some ⟨gl, 0, none⟩) l.length capl)).frozen? ⟨gl, k * 5 + 4, none⟩ = false := hff 4
 have j0 : (0 : Int) ≤ (k : Int) := by omega
 have j1 : (k : Int) < (l.length : Int) := by have := HKL.out; omega
 clear hN2 hN3 hb2 hgl0 hgl1 hslt hc5l hcc hff hcl hFl
 have hz2 := fun j => blk_cell HC2.out.blk j
 have hf2 := fun j => blk_frozen HC2.out.blk j
 go_wp2_with fail
 clear hz hz2 hf2 d2
 have hz3 := fun j => blk_cell HC3.out.blk j
 generalize hW : w2.setCell ⟨g, 10, none⟩ (.slice (some ⟨gl, 0, none⟩) l.length capl) = W3 at g0 g1 g2 g3 g4 f0 f1 f2 f3 f4 hz3 HC3 HN3 HCC HG3 ⊢
 clear hW
 go_region
 have HSb := HC.out.sl.bound
 obtain ⟨⟨_, _, e2, hc2, hF2⟩, ⟨_, _, e3, hc3, hF3⟩⟩ := HSb
 injection e2 with e2a _ e2c
 subst e2a
 subst e2c
 injection e3 with e3a _ e3c
 subst e3a
 subst e3c
 have hgw := HC.out.lt
 have hw1 := HB1.out.size
 have hgle := HGL.out.1
 have hsegF : Kd.FK kB W3 (fun k => okg g k ∧ k < w.heap.size) b [.string b.f0, .int .i64 b.f1, .slice A2 b.f2.length c2, .slice A3 b.f3.length c3, .int .u64 b.f4] :=
  k40_mkF W3 _ b hc2 (Kd.F_grown hF2 HG3.out (fun k hk e => hk.1.1 (Option.some.inj e))) hc3 (Kd.F_grown hF3 HG3.out (fun k hk e => hk.1.1 (Option.some.inj e)))
 have hseg := Kd.N_seg (d := kB) HN3.out (k : Int) j0 j1 (c := [y0, y1, y2, y3, y4]) (seg := [.string b.f0, .int .i64 b.f1, .slice A2 b.f2.length c2, .slice A3 b.f3.length c3, .int .u64 b.f4]) (j := 0) rfl HCC.out (Nat.le_refl 5) (x' := b) (okp := fun k => okg g k ∧ k < w.heap.size) hsegF (fun q hq => ⟨.inl ⟨hq.1, by omega⟩, by omega⟩)
 rw [Int.toNat_natCast] at hseg
 obtain ⟨hN4, hg4⟩ := hseg
 have hGT := grown_drew (grown_then HG3.out hg4 (.inl (by omega)))
 have hbk := blk_drew (grown_blk hg4 HC3.out.blk (by have := HGL.out.2.2; omega))
 have HCF : Aside0 (CAt (W3.setCells gl (k * 5 + 0) [.string b.f0, .int .i64 b.f1, .slice A2 b.f2.length c2, .slice A3 b.f3.length c3, .int .u64 b.f4]).drew g q vp now (.slice (some ⟨gl, 0, none⟩) l.length capl) (l.set k b) b (.slice A2 b.f2.length c2) (.slice A3 b.f3.length c3) ti tt 0) := ⟨⟨hbk, HC.out.rpG hGT, Kd.V_mono (PtPlace.rd_N (Kd.N_drew hN4)) (fun q hq => by
  have := HGL.out.2.2
  rcases hq with h | h
  ·exact h.1
  ·exact ⟨by omega, by omega, by omega⟩), HC.out.slG hGT⟩⟩
 have HGF := Aside0.mk hGT
 clear g0 g1 g2 g3 g4 f0 f1 f2 f3 f4 hz3 hN4 hg4 hbk hGT hsegF hF2 hF3
 go_wp2
 (first | go_end0 | ((try simp only [Exit.inBlock, Exit.then]); refine bodyPost_ret (results_none rfl _ _ _) rfl ?_))
 obtain ⟨hk, hke⟩ := HK.out
 exact ⟨_, l.set k b, ⟨rfl, HCF.out, HGF.out⟩, fun _ => dep_set HD.out hk HO0.out hke⟩
end Go.Proofs.YtpccbmechgkogaaGreatDoor.ClkShut
