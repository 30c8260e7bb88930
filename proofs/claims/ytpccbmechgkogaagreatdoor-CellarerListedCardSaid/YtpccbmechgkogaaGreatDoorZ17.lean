/-
  Lemmas: BkTurn, ClU, PtPlace, PtBegin.
-/
import Derived.Test.YtpccbmechgkogaaGreatDoorProg
import Derived.Lib.SliceRun
import Derived.Outline
import Derived.Test.YtpccbmechgkogaaGreatDoorV0
import Derived.Test.YtpccbmechgkogaaGreatDoorZ00
import Derived.Test.YtpccbmechgkogaaGreatDoorZ01
import Derived.Test.YtpccbmechgkogaaGreatDoorZ02
import Derived.Test.YtpccbmechgkogaaGreatDoorZ03
import Derived.Test.YtpccbmechgkogaaGreatDoorZ04
import Derived.Test.YtpccbmechgkogaaGreatDoorZ05
import Derived.Test.YtpccbmechgkogaaGreatDoorZ06
import Derived.Test.YtpccbmechgkogaaGreatDoorZ07
import Derived.Test.YtpccbmechgkogaaGreatDoorZ11
import Derived.Test.YtpccbmechgkogaaGreatDoorZ16
set_option linter.unusedVariables false
set_option linter.unusedSimpArgs false
namespace Go.Proofs.YtpccbmechgkogaaGreatDoor.BkTurn
open Go.RowKit Go.Proofs.YtpccbmechgkogaaGreatDoor.P Go.Proofs.YtpccbmechgkogaaGreatDoorW.PrintWords Go.Proofs.YtpccbmechgkogaaGreatDoor.PureKit Go.Proofs.YtpccbmechgkogaaGreatDoor.BkSpec Go.Proofs.YtpccbmechgkogaaGreatDoor.Wk Go.Proofs.YtpccbmechgkogaaGreatDoor.Close Go.Proofs.YtpccbmechgkogaaGreatDoor.BkOk Go.Proofs.YtpccbmechgkogaaGreatDoor.BkPut
theorem blk2a (w : World) (o1 o2 : Obj) : ((w.alloc o1).alloc o2).heap[w.heap.size]? = some o1 := blk_alloc (blk_new w o1) o2
set_option maxRecDepth 100000 in
set_option maxHeartbeats 3200000 in
theorem turn_any (now : Int) (w : World) (ok : Nat → Prop) (b : B) (v2 v3 : Value) (s : Int) (h : Sl w ok b v2 v3) (hb : Ok now b) :
  Calls Tryz.prog 58 #[.agg #[.string b.f0, .int .i64 b.f1, v2, v3, .int .u64 b.f4], .int .i64 s] w (Done2 now w ok) := by
 have HS := Aside0.mk h
 obtain ⟨⟨A2, c2, rfl, hc2, hF2⟩, ⟨A3, c3, rfl, hc3, hF3⟩⟩ := h
 have hu := Tryz.underlying40
 have HP := Aside0.mk hb
 have CK := Aside0.mk (fun (W : World) (hW : Below w.heap.size w W) => BkG.check_any b A2 c2 A3 c3 W hb.bucket (Kd.C_below (Kd.F_now hF2) hW) hc2 (Kd.C_below (Kd.F_now hF3) hW) hc3)
 clear hF2 hF3 hc2 hc3 hb
 go_enter Tryz.func58, Tryz.ntmps58
 go_wp2_with fail
 refine (CK.out _ (below_alloc (below_alloc (Below.refl w.heap.size w) (.cells #[.string b.f0, .int .i64 b.f1, .slice A2 b.f2.length c2, .slice A3 b.f3.length c3, .int .u64 b.f4] tB)) (.cells #[.string ⟨#[]⟩, .int .i64 0, .slice none 0 0, .slice none 0 0, .int .u64 0] tB))).mono ?_
 rintro en w1 ⟨rfl, hb1⟩
 have K1 := Aside0.mk (blk_below (blk2a w (.cells #[.string b.f0, .int .i64 b.f1, .slice A2 b.f2.length c2, .slice A3 b.f3.length c3, .int .u64 b.f4] tB) (.cells #[.string ⟨#[]⟩, .int .i64 0, .slice none 0 0, .slice none 0 0, .int .u64 0] tB)) hb1)
 have K2 := Aside0.mk (blk_below (blk_push w (.cells #[.string b.f0, .int .i64 b.f1, .slice A2 b.f2.length c2, .slice A3 b.f3.length c3, .int .u64 b.f4] tB) (.cells #[.string ⟨#[]⟩, .int .i64 0, .slice none 0 0, .slice none 0 0, .int .u64 0] tB)) hb1)
 have HB1 := Aside0.mk (below_step (below_alloc (below_alloc (Below.refl w.heap.size w) (.cells #[.string b.f0, .int .i64 b.f1, .slice A2 b.f2.length c2, .slice A3 b.f3.length c3, .int .u64 b.f4] tB)) (.cells #[.string ⟨#[]⟩, .int .i64 0, .slice none 0 0, .slice none 0 0, .int .u64 0] tB)) hb1)
 clear hb1 CK
 have hz := fun j => blk_cell K1.out j
 have hf := fun j => blk_frozen K1.out j
 have hz2 := fun j => blk_cell K2.out j
 have hf2 := fun j => blk_frozen K2.out j
 by_cases h1 : s < 0
 ·have d1 : decide (s < 0) = true := decide_eq_true h1
  clear h1
  go_wp2
  have z := fun j => blk_cell (set5_blk K2.out (.string b.f0) (.int .i64 b.f1) (.slice A2 b.f2.length c2) (.slice A3 b.f3.length c3) (.int .u64 b.f4)) j
  have gS := set5_grown w1 (w.heap.size + 1) (.string b.f0) (.int .i64 b.f1) (.slice A2 b.f2.length c2) (.slice A3 b.f3.length c3) (.int .u64 b.f4)
  refine bodyPost_ret (v := .tuple #[.agg #[.string b.f0, .int .i64 b.f1, .slice A2 b.f2.length c2, .slice A3 b.f3.length c3, .int .u64 b.f4], .int .i64 1]) (by simp [results, Tryz.results58, go_sem, z]) rfl ?_
  have hB := HB1.out.grown gS HB1.out.size (fun k e => by cases e; omega)
  exact ⟨b, _, _, 1, rfl, (HS.out.below hB).mono (fun k hk => .inl hk), HP.out, hB⟩
 ·have d1 : decide (s < 0) = false := decide_eq_false h1
  by_cases h2 : s > 2
  ·have d2 : decide (s > 2) = true := decide_eq_true h2
   clear h1 h2
   go_wp2
   have z := fun j => blk_cell (set5_blk K2.out (.string b.f0) (.int .i64 b.f1) (.slice A2 b.f2.length c2) (.slice A3 b.f3.length c3) (.int .u64 b.f4)) j
   have gS := set5_grown w1 (w.heap.size + 1) (.string b.f0) (.int .i64 b.f1) (.slice A2 b.f2.length c2) (.slice A3 b.f3.length c3) (.int .u64 b.f4)
   refine bodyPost_ret (v := .tuple #[.agg #[.string b.f0, .int .i64 b.f1, .slice A2 b.f2.length c2, .slice A3 b.f3.length c3, .int .u64 b.f4], .int .i64 1]) (by simp [results, Tryz.results58, go_sem, z]) rfl ?_
   have hB := HB1.out.grown gS HB1.out.size (fun k e => by cases e; omega)
   exact ⟨b, _, _, 1, rfl, (HS.out.below hB).mono (fun k hk => .inl hk), HP.out, hB⟩
  ·have d2 : decide (s > 2) = false := decide_eq_false h2
   have HR := Aside0.mk (And.intro h1 h2)
   clear h1 h2
   by_cases h3 : s = 0 ∧ b.f1 ≠ 0
   ·have d3 : (s == 0) = true := beq_iff_eq.mpr h3.1
    have d4 : (b.f1 != 0) = true := bne_iff_ne.mpr h3.2
    clear h3
    go_wp2
    have z := fun j => blk_cell (set5_blk K2.out (.string b.f0) (.int .i64 b.f1) (.slice A2 b.f2.length c2) (.slice A3 b.f3.length c3) (.int .u64 b.f4)) j
    have gS := set5_grown w1 (w.heap.size + 1) (.string b.f0) (.int .i64 b.f1) (.slice A2 b.f2.length c2) (.slice A3 b.f3.length c3) (.int .u64 b.f4)
    refine bodyPost_ret (v := .tuple #[.agg #[.string b.f0, .int .i64 b.f1, .slice A2 b.f2.length c2, .slice A3 b.f3.length c3, .int .u64 b.f4], .int .i64 8]) (by simp [results, Tryz.results58, go_sem, z]) rfl ?_
    have hB := HB1.out.grown gS HB1.out.size (fun k e => by cases e; omega)
    exact ⟨b, _, _, 8, rfl, (HS.out.below hB).mono (fun k hk => .inl hk), HP.out, hB⟩
   ·have H3 := Aside0.mk h3
    have HT : Aside0 (Ok now ⟨b.f0, s, b.f2, b.f3, b.f4⟩) := ⟨by
     have h := HP.out
     have h1 := HR.out
     refine ⟨h.name, by show 0 ≤ s; omega, by show s ≤ 2; omega, h.l0, h.l, h.idx, h.pts, h.oct, fun x hx v hv => ?_, h.us⟩
     obtain ⟨a1, a2, a3, a4⟩ := h.vs x hx v hv
     exact ⟨a1, a2, fun hs => a3 (Classical.byContradiction (fun hn => H3.out ⟨hs, hn⟩)), a4⟩⟩
    have fin : ∀ W : World, W.heap[w.heap.size + 1]? = some (.cells #[.string b.f0, .int .i64 s, .slice A2 b.f2.length c2, .slice A3 b.f3.length c3, .int .u64 b.f4] tB (0, 0)) → w.grownBy W (some w.heap.size) → Done2 now w ok (.returned (.tuple #[.agg #[.string b.f0, .int .i64 s, .slice A2 b.f2.length c2, .slice A3 b.f3.length c3, .int .u64 b.f4], .int .i64 0])) W := fun W _ hW => by
     have hB := below_of_grown hW (Nat.le_refl _)
     exact ⟨⟨b.f0, s, b.f2, b.f3, b.f4⟩, _, _, 0, rfl, ((HS.out.below hB).mono (fun k hk => Or.inl hk)).of rfl rfl, HT.out, hB⟩
    have HF := Aside0.mk fin
    clear fin h3
    by_cases h4 : s = 0
    case' pos =>
     have d3 : (s == 0) = true := beq_iff_eq.mpr h4
     have d4 : (b.f1 != 0) = false := bne_eq_false_iff_eq.mpr (Classical.byContradiction (fun hn => H3.out ⟨h4, hn⟩))
     clear h4
    case' neg =>
     have d3 : (s == 0) = false := beq_eq_false_iff_ne.mpr h4
     clear h4
    all_goals
     go_wp2
     have gA := grown_set w1 w.heap.size 1 (.int .i64 s)
     have gS := set5_grown (w1.setCell ⟨w.heap.size, 1, none⟩ (.int .i64 s)) (w.heap.size + 1) (.string b.f0) (.int .i64 s) (.slice A2 b.f2.length c2) (.slice A3 b.f3.length c3) (.int .u64 b.f4)
     have b2 := set5_blk (grown_blk gA K2.out (by omega)) (.string b.f0) (.int .i64 s) (.slice A2 b.f2.length c2) (.slice A3 b.f3.length c3) (.int .u64 b.f4)
     have z := fun j => blk_cell b2 j
     refine bodyPost_ret (v := .tuple #[.agg #[.string b.f0, .int .i64 s, .slice A2 b.f2.length c2, .slice A3 b.f3.length c3, .int .u64 b.f4], .int .i64 0]) (by simp [results, Tryz.results58, go_sem, z]) rfl ?_
     exact HF.out _ b2 (grown_then (grown_then (grown_of_below HB1.out (some w.heap.size)) gA (.inr rfl)) gS (.inl (by omega)))
def News (w : World) (s : ByteArray) (en : Ending) (w' : World) : Prop :=
 ∃ (s' : ByteArray) (er : Int), en = .returned (.tuple #[.agg #[.string s', .int .i64 0, .slice none 0 0, .slice none 0 0, .int .u64 0], .int .i64 er]) ∧ (er = 0 → s' = s ∧ NameW.bucketB s = true) ∧ Below w.heap.size w w'
set_option maxRecDepth 100000 in
set_option maxHeartbeats 3200000 in
theorem new_any (w : World) (s : ByteArray) : Calls Tryz.prog 48 #[.string s] w (News w s) := by
 have hu := Tryz.underlying40
 have CB := Aside0.mk (fun W : World => NameW.bucket_any s W)
 have HB0 := Aside0.mk (below_alloc (Below.refl w.heap.size w) (.cells #[.string ⟨#[]⟩, .int .i64 0, .slice none 0 0, .slice none 0 0, .int .u64 0] tB))
 cases hs : NameW.bucketB s with
 | true =>
  have HSs := Aside0.mk hs
  rw [hs] at CB
  clear hs
  go_enter Tryz.func48, Tryz.ntmps48
  go_wp2_with fail
  refine (CB.out _).mono ?_
  rintro en w1 ⟨rfl, hb1⟩
  have K1 := Aside0.mk (blk_below (blk_new w (.cells #[.string ⟨#[]⟩, .int .i64 0, .slice none 0 0, .slice none 0 0, .int .u64 0] tB)) hb1)
  have HB1 := Aside0.mk (below_step HB0.out hb1)
  have hz := fun j => blk_cell K1.out j
  have hf := fun j => blk_frozen K1.out j
  clear hb1 CB HB0
  go_wp2
  have z := fun j => blk_cell (set5_blk K1.out (.string s) (.int .i64 0) (.slice none 0 0) (.slice none 0 0) (.int .u64 0)) j
  refine bodyPost_ret (v := .tuple #[.agg #[.string s, .int .i64 0, .slice none 0 0, .slice none 0 0, .int .u64 0], .int .i64 0]) (by simp [results, Tryz.results48, go_sem, z]) rfl ?_
  exact ⟨s, 0, rfl, fun _ => ⟨rfl, HSs.out⟩, HB1.out.grown (set5_grown w1 w.heap.size _ _ _ _ _) HB1.out.size (fun k e => by cases e; omega)⟩
 | false =>
  rw [hs] at CB
  clear hs
  go_enter Tryz.func48, Tryz.ntmps48
  go_wp2_with fail
  refine (CB.out _).mono ?_
  rintro en w1 ⟨rfl, hb1⟩
  have K1 := Aside0.mk (blk_below (blk_new w (.cells #[.string ⟨#[]⟩, .int .i64 0, .slice none 0 0, .slice none 0 0, .int .u64 0] tB)) hb1)
  have HB1 := Aside0.mk (below_step HB0.out hb1)
  have hz := fun j => blk_cell K1.out j
  have hf := fun j => blk_frozen K1.out j
  clear hb1 CB HB0
  go_wp2
  have z := fun j => blk_cell (set5_blk K1.out (.string ⟨#[]⟩) (.int .i64 0) (.slice none 0 0) (.slice none 0 0) (.int .u64 0)) j
  refine bodyPost_ret (v := .tuple #[.agg #[.string ⟨#[]⟩, .int .i64 0, .slice none 0 0, .slice none 0 0, .int .u64 0], .int .i64 1]) (by simp [results, Tryz.results48, go_sem, z]) rfl ?_
  exact ⟨⟨#[]⟩, 1, rfl, (fun h => absurd h (by decide)), HB1.out.grown (set5_grown w1 w.heap.size _ _ _ _ _) HB1.out.size (fun k e => by cases e; omega)⟩
def Bool1 (w : World) (en : Ending) (w' : World) : Prop := ∃ r : Bool, en = .returned (.bool r) ∧ Below w.heap.size w w'
set_option maxRecDepth 100000 in
set_option maxHeartbeats 3200000 in
theorem empty_any (w : World) (s : ByteArray) (st la : Int) (A2 A3 : Option Addr) (n2 n3 c2 c3 : Nat) : Calls Tryz.prog 54 #[.agg #[.string s, .int .i64 st, .slice A2 n2 c2, .slice A3 n3 c3, .int .u64 la]] w (Bool1 w) := by
 have hu := Tryz.underlying40
 have HB := Aside0.mk (below_alloc (Below.refl w.heap.size w) (.cells #[.string s, .int .i64 st, .slice A2 n2 c2, .slice A3 n3 c3, .int .u64 la] tB))
 by_cases h2 : n2 = 0
 ·subst h2
  go_enter Tryz.func54, Tryz.ntmps54
  go_wp2
  go_ret
  exact ⟨_, rfl, HB.out⟩
 ·have d1 : ((n2 : Int) == 0) = false := by rw [beq_eq_false_iff_ne]; omega
  clear h2
  go_enter Tryz.func54, Tryz.ntmps54
  go_wp2
  go_ret
  exact ⟨_, rfl, HB.out⟩
end Go.Proofs.YtpccbmechgkogaaGreatDoor.BkTurn
namespace Go.Proofs.YtpccbmechgkogaaGreatDoor.ClU
open Go.RowKit Go.Proofs.YtpccbmechgkogaaGreatDoor.P Go.Proofs.YtpccbmechgkogaaGreatDoorW.PrintWords
abbrev T := S131
theorem info : (Tryz.prog.info? 131).map (fun i => (i.zero, i.size, i.bytes)) = some (some (.agg #[(.int .u64 0), (.string ⟨#[]⟩), (.slice none 0 0)]), 3, 48) := by kernel_rfl
def Post (ok : Nat → Prop) (w : World) (l : List T) (e : Ending) (w' : World) : Prop := ∃ v0_ : Value, e = .returned v0_ ∧ Kd.N k131 131 w' w.heap.size (fun k_ => ok k_ ∨ w.heap.size ≤ k_) v0_ l ∧ Below w.heap.size w w'
set_option maxRecDepth 100000 in
set_option maxHeartbeats 1600000 in
theorem clone_any (w : World) (ok : Nat → Prop) (hok : ∀ k_, ok k_ → k_ < w.heap.size) (A : Option Addr) (c : Nat) (l : List T) (hr : Kd.F k131 w ok A l.length l) (hl : l.length < 2932031007402) :
  Calls Tryz.prog 146 #[.slice A l.length c] w (Post ok w l) := by
 have qT : ∀ (w : World) (a : Option Addr) (n c n' c' : Nat), (binOp .eql 38 (.slice a n c) (.slice none n' c')).run Tryz.prog w = .ok (.bool a.isNone) w := fun w a n c n' c' => Lib.run_eql_slice_nil w _ _ a n c n' c' Tryz.underlying38
 cases A with
 | none =>
  have h0 : l = [] := by
   rcases l with _ | ⟨x, r⟩
   ·rfl
   ·obtain ⟨ad, h, _⟩ := (Kd.F_now hr).2.2 (by simp)
    cases h
  subst h0
  clear hr hl
  go_enter Tryz.func146, Tryz.ntmps146
  go_wp2
  go_ret
  exact ⟨_, rfl, Kd.N_nil _ _ _ _ _, Below.refl _ _⟩
 | some ad =>
  have HR := Aside0.mk hr
  have HK := Aside0.mk hok
  clear hr hok
  have hu := Tryz.underlying131
  go_enter Tryz.func146, Tryz.ntmps146
  have HL := Aside0.mk hl
  clear hl
  go_wp2_with (first
   | ((with_reducible refine gate_dst (N := 5) rfl ?_); refine Kd.N_lit (w0 := w) k131 w.heap.size 131 ?hg (N' := 5) ?hd (xs := []) (inner := []) (ok := fun k_ => ok k_ ∨ w.heap.size ≤ k_) (okp := fun _ => False) ?hr ?hp (fun _ h => h.elim) (.inr (Nat.le_refl _)) (Below.refl _ _) (Nat.le_refl _) (by simp) ?_; (case hd => rfl); (case hg => rfl); (case hr => first | (go_simp; done) | (go_simp; rfl)); (case hp => exact Reps.none _ _); intro v1 w1 ho hb hg hat; have HO := Aside0.mk ho; have HB := Aside0.mk hb; have HA := Aside0.mk hat; have HG := Aside0.mk hg; clear ho hb hg hat)
   | ((with_reducible refine gate_builtin (b := .append) (xs := #[.tmp 5, .tmp 6]) rfl ?_); at_builtin; refine Kd.N_append_rows k131 (w0 := w) w.heap.size rfl (.tmp 5) (.tmp 6) 38 131 (.agg #[(.int .u64 0), (.string ⟨#[]⟩), (.slice none 0 0)]) 48 rfl Tryz.underlying38 info rfl (by decide) (by omega) v1 [] l _ _ _ (fun k_ => ok k_ ∨ w.heap.size ≤ k_) ok rfl rfl ?aO ?aR ?aP ?aF ?aB ?aS ?aL ?_; (case aR => exact Kd.F_grown HR.out HG.out (fun _ _ => by simp)); (case aP => exact (fun k_ h_ => ⟨.inl h_, by obtain ⟨b, e1, e2⟩ := HA.out; rw [e1]; have := HK.out k_ h_; intro e3; have := Option.some.inj e3; omega⟩)); (case aB => exact HB.out); (case aF => exact (fun k_ h_ => .inr (Nat.le_trans HB.out.size h_))); (case aO => exact HO.out); (case aS => exact HB.out.size); (case aL => have := HL.out; simp; omega); intro v2 w2 ho hb hg hat; have HO2 := Aside0.mk ho; have HB2 := Aside0.mk hb; clear HO HB HA HG; clear ho hb hg hat))
  go_ret
  exact ⟨_, rfl, HO2.out, HB2.out⟩
end Go.Proofs.YtpccbmechgkogaaGreatDoor.ClU
namespace Go.Proofs.YtpccbmechgkogaaGreatDoor.PtPlace
open Go.RowKit Go.Proofs.YtpccbmechgkogaaGreatDoor.P Go.Proofs.YtpccbmechgkogaaGreatDoorW.PrintWords Go.Proofs.YtpccbmechgkogaaGreatDoor.PureKit Go.Proofs.YtpccbmechgkogaaGreatDoor.BkSpec Go.Proofs.YtpccbmechgkogaaGreatDoor.Wk Go.Proofs.YtpccbmechgkogaaGreatDoor.IdxG
theorem rd_N {α : Type} {d : Kd α} {e b : Nat} {w : World} {ok : Nat → Prop} {v : Value} {xs : List α} (h : Kd.N d e w b ok v xs) : Rd d w ok v xs := show Kd.V d e w 0 ok v xs from Kd.N_V h
def hasId (id : Int) (u : U) : Bool := u.f0 == id
set_option maxRecDepth 100000 in
set_option maxHeartbeats 1600000 in
theorem placeC (id : Int) (x : U) (A : Option Addr) (c b : Nat) (w : World) (hb : w.heap[b]? = some (.cells #[.int .u64 id] 26 (0, 0))) :
  Calls Tryz.prog 182 #[.agg #[.int .u64 x.f0, .string x.f1, .slice A x.f2.length c], .pointer (some ⟨b, 0, none⟩)] w fun e w' => e = .returned (.bool (hasId id x)) ∧ Below w.heap.size w w' := by
 unfold hasId
 have hu := Tryz.underlying131
 have hz := fun (o : Obj) j => blk_cell (blk_alloc hb o) j
 have HB := Aside0.mk (below_alloc (Below.refl w.heap.size w) (.cells #[.int .u64 x.f0, .string x.f1, .slice A x.f2.length c] 131))
 clear hb
 go_enter Tryz.func182, Tryz.ntmps182
 go_wp2
 go_ret
 exact ⟨rfl, HB.out⟩
def Placed (w : World) (l : List U) (id : Int) (en : Ending) (w' : World) : Prop :=
 (en = .returned (.tuple #[.int .i64 0, .int .i64 4]) ∨ ∃ (k : Nat) (h : k < l.length), l[k].f0 = id ∧ en = .returned (.tuple #[.int .i64 k, .int .i64 0])) ∧ Below w.heap.size w w'
theorem check_any (A : Option Addr) (c : Nat) (l : List U) (w : World) (hp : partsB l = true) (hr : Kd.C kU w A l.length l) (hc : l.length ≤ c) :
  Calls Tryz.prog 115 #[.slice A l.length c] w fun e w' => e = .returned (.int .i64 0) ∧ Below w.heap.size w w' := by
 exact ChkP.check_any A c l w hr hp
set_option maxRecDepth 100000 in
set_option maxHeartbeats 1600000 in
theorem place_any (A : Option Addr) (c : Nat) (l : List U) (id : Int) (w : World) (hp : partsB l = true) (hr : Kd.C kU w A l.length l) (hc : l.length ≤ c) :
  Calls Tryz.prog 147 #[.slice A l.length c, .int .u64 id] w (Placed w l id) := by
 have hmf : ∀ (fn : Fn) (first cap : Array Value) (w : World), (Instr.makeFunc fn first cap).run Tryz.prog w = .ok (.func fn first cap) w := fun _ _ _ _ => rfl
 have HB0 := Aside0.mk (below_alloc (Below.refl w.heap.size w) (.cells #[.int .u64 id] 26))
 have C1 := check_any A c l _ hp (Kd.C_below hr HB0.out) hc
 have C2 := Aside0.mk (fun (W : World) (hW : Below w.heap.size w W) (b : Nat) (hb : W.heap[b]? = some (.cells #[.int .u64 id] 26 (0, 0))) => IxU.index_any 182 #[.pointer (some ⟨b, 0, none⟩)] (fun args w => by rfl) (hasId id) A c l W (Kd.C_below hr hW) (fun W2 x A2 c2 _ hB _ _ => placeC id x A2 c2 b W2 (blk_below hb hB)))
 clear hr hc hp
 go_enter Tryz.func147, Tryz.ntmps147
 go_wp2_with fail
 refine C1.mono ?_
 rintro en w1 ⟨rfl, hb1⟩
 have K1 := Aside0.mk (blk_below (blk_new w (.cells #[.int .u64 id] 26)) hb1)
 have HB1 := Aside0.mk (below_step HB0.out hb1)
 clear hb1 C1 HB0
 go_wp2_with fail
 refine (C2.out _ HB1.out w.heap.size K1.out).mono ?_
 rintro en w2 ⟨rfl, hb2⟩
 have HB2 := Aside0.mk (below_step HB1.out hb2)
 clear hb2 C2 K1 HB1
 rcases hq : l.findIdx? (hasId id) with _ | k
 ·have hi : idx (hasId id) l = -1 := by unfold idx; rw [hq]
  rw [hi]
  clear hi hq
  go_wp2
  go_ret2
  exact ⟨.inl rfl, HB2.out⟩
 ·have hi : idx (hasId id) l = (k : Int) := by unfold idx; rw [hq]
  rw [hi]
  obtain ⟨hk, hpk, -⟩ := List.findIdx?_eq_some_iff_getElem.1 hq
  have HK := Aside0.mk (show ∃ (h : k < l.length), l[k].f0 = id from ⟨hk, by simpa [hasId] using hpk⟩)
  clear hi hq hpk hk
  go_wp2
  go_ret2
  obtain ⟨h, h2⟩ := HK.out
  exact ⟨.inr ⟨k, h, h2, rfl⟩, HB2.out⟩
end Go.Proofs.YtpccbmechgkogaaGreatDoor.PtPlace
namespace Go.Proofs.YtpccbmechgkogaaGreatDoor.PtBegin
open Go.RowKit Go.Proofs.YtpccbmechgkogaaGreatDoor.P Go.Proofs.YtpccbmechgkogaaGreatDoorW.PrintWords Go.Proofs.YtpccbmechgkogaaGreatDoor.PureKit Go.Proofs.YtpccbmechgkogaaGreatDoor.BkSpec Go.Proofs.YtpccbmechgkogaaGreatDoor.Wk
abbrev tU : Nat := 131
def Begun (l : List U) (id : Int) (key : ByteArray) (r : List U) : Prop := r = l ++ [⟨id, key, []⟩] ∧ l.length < 10
def Ups (w : World) (ok : Nat → Prop) (R : List U → Prop) (en : Ending) (w' : World) : Prop :=
 ∃ (v : Value) (r : List U) (er : Int), en = .returned (.tuple #[v, .int .i64 er]) ∧ Rd kU w' (fun k => ok k ∨ w.heap.size ≤ k) v r ∧ (er = 0 → R r) ∧ Below w.heap.size w w'
set_option maxRecDepth 100000 in
set_option maxHeartbeats 3200000 in
theorem begin_any (w : World) (ok : Nat → Prop) (v : Value) (l : List U) (id : Int) (key : ByteArray) (hp : partsB l = true) (h : Rd kU w ok v l) (h1 : 1 ≤ id) (h2 : id ≤ 281474976710655) (hk : Name.keyB key = true) (hl : ∀ u ∈ l, u.f0 < id) :
  Calls Tryz.prog 109 #[v, .int .u64 id, .string key] w (Ups w ok (Begun l id key)) := by
 have hb := Kd.V_bound h
 obtain ⟨A, c, rfl, hc, hF⟩ := hb
 have hlen : l.length ≤ 10 := by unfold partsB at hp; simp only [Bool.and_eq_true, decide_eq_true_eq] at hp; exact hp.1.1
 have C1 := PtPlace.check_any A c l w hp (Kd.F_now hF) hc
 have CK := Aside0.mk (fun W : World => Name.key_any key W)
 rw [hk] at CK
 have CC := Aside0.mk (fun (W : World) (hW : Below w.heap.size w W) => ClU.clone_any W (fun k => ok k ∧ k < w.heap.size) (fun k hk => Nat.lt_of_lt_of_le hk.2 hW.size) A c l (Kd.F_below hF hW) (by omega))
 have d1 : decide (id ≥ 1) = true := decide_eq_true h1
 have d2 : decide (id ≤ 281474976710655) = true := decide_eq_true h2
 have hu := Tryz.underlying131
 have HLen := Aside0.mk hlen
 have HF := Aside0.mk hF
 have HL := Aside0.mk hl
 clear h hF hp hk hl h1 h2 hlen
 rcases hm : l.length with _ | m
 ·have hl0 : l = [] := List.length_eq_zero_iff.1 hm
  subst hl0
  rw [show ([] : List U).length = 0 from rfl] at C1
  have CC0 := CC.out
  rw [show ([] : List U).length = 0 from rfl] at CC0
  have CC1 := Aside0.mk CC0
  clear CC CC0 hm
  go_enter Tryz.func109, Tryz.ntmps109
  go_wp2_with fail
  refine C1.mono ?_
  rintro en w1 ⟨rfl, hb1⟩
  have HB1 := Aside0.mk hb1
  clear hb1 C1
  go_wp2_with (go_at_call 145; go_in)
  refine (CK.out _).mono ?_
  rintro en w2 ⟨rfl, hb2⟩
  have HB2 := Aside0.mk (below_step HB1.out hb2)
  clear hb2 CK HB1
  go_wp2_with fail
  refine (CC1.out _ HB2.out).mono ?_
  rintro en w3 ⟨v3, rfl, hN, hb3⟩
  have HN := Aside0.mk hN
  have HB3 := Aside0.mk (below_step HB2.out hb3)
  have HS := Aside0.mk (HB2.out.size)
  have HS3 := Aside0.mk hb3.size
  clear hb3 hN CC1 HB2
  go_wp2_with (first
   | ((with_reducible refine gate_builtin (b := .append) (xs := #[.tmp 42, .tmp 46]) rfl ?_); at_builtin; refine Kd.N_append kU (w0 := w) w.heap.size rfl (.tmp 42) (.tmp 46) 38 tU (.agg #[(.int .u64 0), (.string ⟨#[]⟩), (.slice none 0 0)]) 48 rfl Tryz.underlying38 ClU.info rfl (by decide) (by decide) v3 [] ⟨id, key, []⟩ [.int .u64 id, .string key, .slice none 0 0] (fun k => (ok k ∧ k < w.heap.size) ∨ w2.heap.size ≤ k) (fun _ => False) rfl rfl ?hp (fun _ h => h.elim) ?hf ?hO ?hB ?hb ?hl ?_; (case hp => exact k131_mkF w3 _ ⟨id, key, []⟩ (Nat.le_refl 0) (Kd.F_nil _ _ _)); (case hf => exact (fun k hk => .inr (Nat.le_trans HS3.out hk))); (case hO => exact Kd.N_lower HN.out HS.out); (case hB => exact HB3.out); (case hb => exact HB3.out.size); (case hl => have := HLen.out; simp; (try omega)); intro v4 w4 hN4 hB4 hg hat; have HN4 := Aside0.mk hN4; have HB4 := Aside0.mk hB4; clear hN4 hB4 hg hat))
  go_ret2
  refine ⟨v4, _, 0, rfl, Kd.V_mono (PtPlace.rd_N HN4.out) ?_, fun _ => ⟨rfl, by simp⟩, HB4.out⟩
  rintro k (hk | hk)
  ·exact .inl hk.1
  ·exact .inr (Nat.le_trans HS.out hk)
 ·obtain ⟨ad, A2, c2, e0, h0, -, -, -, -⟩ := at_T131 (Kd.F_now HF.out) (m : Int) (by omega) (by omega)
  have hlast : (rd_T131 l (m : Int)).f0 < id := by
   refine HL.out _ ?_
   unfold rd_T131
   rw [Int.toNat_natCast, List.getD_eq_getElem?_getD, List.getElem?_eq_getElem (by omega)]
   exact List.getElem_mem _
  generalize (rd_T131 l (m : Int)).f0 = q at h0 hlast
  rw [Int.toNat_natCast] at h0
  subst e0
  have d3 : decide (q ≥ id) = false := decide_eq_false (by omega)
  have HQ := Aside0.mk h0
  rw [hm] at C1 hc
  have CC0 := CC.out
  rw [hm] at CC0
  have CC1 := Aside0.mk CC0
  have HM := Aside0.mk hm
  have hm1 : m + 1 ≤ 10 := by have := HLen.out; omega
  clear CC CC0 hm hlast h0
  go_enter Tryz.func109, Tryz.ntmps109
  go_wp2_with fail
  refine C1.mono ?_
  rintro en w1 ⟨rfl, hb1⟩
  have HB1 := Aside0.mk hb1
  clear hb1 C1
  go_wp2_with (go_at_call 145; go_in)
  refine (CK.out _).mono ?_
  rintro en w2 ⟨rfl, hb2⟩
  have HB2 := Aside0.mk (below_step HB1.out hb2)
  have hq : w2.cell? (ad.add (m * 3)) = some (.int .u64 q) := pw_cell_below HB2.out HQ.out
  have hx : (0 : Int) ≤ (m : Int) := by omega
  clear hb2 CK HB1
  by_cases h10 : m + 1 = 10
  ·have d4 : (((m : Int) + 1) == 10) = true := by rw [beq_iff_eq]; omega
   clear h10
   go_wp2_with fail
   go_ret2
   exact ⟨_, [], 6, rfl, Kd.V_nil _ _ _ _ _, (fun h => absurd h (by decide)), HB2.out⟩
  ·have d4 : (((m : Int) + 1) == 10) = false := by rw [beq_eq_false_iff_ne]; omega
   have H10 := Aside0.mk h10
   clear h10
   go_wp2_with fail
   refine (CC1.out _ HB2.out).mono ?_
   rintro en w3 ⟨v3, rfl, hN, hb3⟩
   have HN := Aside0.mk hN
   have HS := Aside0.mk (HB2.out.size)
   have HS3 := Aside0.mk hb3.size
   have HB3 := Aside0.mk (below_step HB2.out hb3)
   clear hb3 hN CC1 HB2 hq
   go_wp2_with (first
    | ((with_reducible refine gate_builtin (b := .append) (xs := #[.tmp 42, .tmp 46]) rfl ?_); at_builtin; refine Kd.N_append kU (w0 := w) w.heap.size rfl (.tmp 42) (.tmp 46) 38 tU (.agg #[(.int .u64 0), (.string ⟨#[]⟩), (.slice none 0 0)]) 48 rfl Tryz.underlying38 ClU.info rfl (by decide) (by decide) v3 l ⟨id, key, []⟩ [.int .u64 id, .string key, .slice none 0 0] (fun k => (ok k ∧ k < w.heap.size) ∨ w2.heap.size ≤ k) (fun _ => False) rfl rfl ?hp (fun _ h => h.elim) ?hf ?hO ?hB ?hb ?hl ?_; (case hp => exact k131_mkF w3 _ ⟨id, key, []⟩ (Nat.le_refl 0) (Kd.F_nil _ _ _)); (case hf => exact (fun k hk => .inr (Nat.le_trans HS3.out hk))); (case hO => exact Kd.N_lower HN.out HS.out); (case hB => exact HB3.out); (case hb => exact HB3.out.size); (case hl => have := HLen.out; omega); intro v4 w4 hN4 hB4 hg hat; have HN4 := Aside0.mk hN4; have HB4 := Aside0.mk hB4; clear hN4 hB4 hg hat))
   go_ret2
   refine ⟨v4, _, 0, rfl, Kd.V_mono (PtPlace.rd_N HN4.out) ?_, fun _ => ⟨rfl, by have := HM.out; have := H10.out; omega⟩, HB4.out⟩
   rintro k (hk | hk)
   ·exact .inl hk.1
   ·exact .inr (Nat.le_trans HS.out hk)
end Go.Proofs.YtpccbmechgkogaaGreatDoor.PtBegin
