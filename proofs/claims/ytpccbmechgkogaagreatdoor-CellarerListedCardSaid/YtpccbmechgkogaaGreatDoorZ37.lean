/-
  Lemmas: ClkTwo.
-/
import Derived.Test.YtpccbmechgkogaaGreatDoorProg
import Derived.Test.YtpccbmechgkogaaGreatDoorV0
import Derived.Test.YtpccbmechgkogaaGreatDoorZ01
import Derived.Test.YtpccbmechgkogaaGreatDoorZ02
import Derived.Test.YtpccbmechgkogaaGreatDoorZ04
import Derived.Test.YtpccbmechgkogaaGreatDoorZ05
import Derived.Test.YtpccbmechgkogaaGreatDoorZ06
import Derived.Test.YtpccbmechgkogaaGreatDoorZ11
import Derived.Test.YtpccbmechgkogaaGreatDoorZ21
import Derived.Test.YtpccbmechgkogaaGreatDoorZ22
import Derived.Test.YtpccbmechgkogaaGreatDoorZ23
import Derived.Test.YtpccbmechgkogaaGreatDoorZ25
import Derived.Test.YtpccbmechgkogaaGreatDoorZ26
import Derived.Test.YtpccbmechgkogaaGreatDoorZ29
import Derived.Test.YtpccbmechgkogaaGreatDoorZ35
import Derived.Test.YtpccbmechgkogaaGreatDoorZ36
set_option linter.unusedVariables false
set_option linter.unusedSimpArgs false
namespace Go.Proofs.YtpccbmechgkogaaGreatDoor.ClkTwo
open Go.RowKit Go.Proofs.YtpccbmechgkogaaGreatDoor.P Go.Proofs.YtpccbmechgkogaaGreatDoorW.PrintWords Go.Proofs.YtpccbmechgkogaaGreatDoorW.PrintLast Go.Proofs.YtpccbmechgkogaaGreatDoorW.PrintMore Go.Proofs.YtpccbmechgkogaaGreatDoor.PureKit Go.Proofs.YtpccbmechgkogaaGreatDoor.BkSpec Go.Proofs.YtpccbmechgkogaaGreatDoor.Wk Go.Proofs.YtpccbmechgkogaaGreatDoor.Close Go.Proofs.YtpccbmechgkogaaGreatDoor.BkOk Go.Proofs.YtpccbmechgkogaaGreatDoor.DpChk Go.Proofs.YtpccbmechgkogaaGreatDoor.DpFind Go.Proofs.YtpccbmechgkogaaGreatDoor.BkUps Go.Proofs.YtpccbmechgkogaaGreatDoor.PtLack Go.Proofs.YtpccbmechgkogaaGreatDoor.Clk Go.Proofs.YtpccbmechgkogaaGreatDoor.ClkOne
set_option maxRecDepth 100000 in
set_option maxHeartbeats 6400000 in
theorem lay_any (w : World) (g : Nat) (q : Q) (vp : Value) (now : Int) (vl : Value) (l : List B) (b : B) (v2 v3 : Value) (ti : Int) (tt : ByteArray) (h : CAt w g q vp now vl l b v2 v3 ti tt 0) (hb : Ok now b) :
  Calls Tryz.prog 24 #[.pointer (some ⟨g, 0, none⟩)] w (Ones w g vp now vl l) := by
 have hu := Tryz.underlying40
 obtain ⟨A2, c2, rfl⟩ := Kd.V_slice h.sl.r2
 obtain ⟨A3, c3, rfl⟩ := Kd.V_slice h.sl.r3
 have HC := Aside0.mk h
 have HOK := Aside0.mk hb
 have hup := Tryz.underlying119
 have HS11 : Aside0 (w.cell? ⟨g, 11, none⟩ = some (.string b.f0)) := ⟨(blk_cell h.blk 11).trans rfl⟩
 have HS12 : Aside0 (w.cell? ⟨g, 12, none⟩ = some (.int .i64 b.f1)) := ⟨(blk_cell h.blk 12).trans rfl⟩
 have HS13 : Aside0 (w.cell? ⟨g, 13, none⟩ = some (.slice A2 b.f2.length c2)) := ⟨(blk_cell h.blk 13).trans rfl⟩
 have HS14 : Aside0 (w.cell? ⟨g, 14, none⟩ = some (.slice A3 b.f3.length c3)) := ⟨(blk_cell h.blk 14).trans rfl⟩
 have HS15 : Aside0 (w.cell? ⟨g, 15, none⟩ = some (.int .u64 b.f4)) := ⟨(blk_cell h.blk 15).trans rfl⟩
 have HS6 : Aside0 (w.cell? ⟨g, 6, none⟩ = some (.int .u64 q.f6)) := ⟨(blk_cell h.blk 6).trans rfl⟩
 have HS7 : Aside0 (w.cell? ⟨g, 7, none⟩ = some (.int .i64 q.f7)) := ⟨(blk_cell h.blk 7).trans rfl⟩
 have HS3 : Aside0 (w.cell? ⟨g, 3, none⟩ = some (.string q.f3)) := ⟨(blk_cell h.blk 3).trans rfl⟩
 clear h hb
 go_enter Tryz.func24, Tryz.ntmps24
 go_wp2_with fail
 refine start_ (n := 29) (S := fun w' => w'.cell? ⟨g, 11, none⟩ = some (.string b.f0) ∧ w'.cell? ⟨g, 12, none⟩ = some (.int .i64 b.f1) ∧ w'.cell? ⟨g, 13, none⟩ = some (.slice A2 b.f2.length c2) ∧ w'.cell? ⟨g, 14, none⟩ = some (.slice A3 b.f3.length c3) ∧ w'.cell? ⟨g, 15, none⟩ = some (.int .u64 b.f4) ∧ w'.cell? ⟨g, 6, none⟩ = some (.int .u64 q.f6) ∧ w'.cell? ⟨g, 7, none⟩ = some (.int .i64 q.f7) ∧ w'.cell? ⟨g, 3, none⟩ = some (.string q.f3)) (ds := [26]) (bb 29 0) (by kernel_rfl) rfl rfl ⟨HS11.out, HS12.out, HS13.out, HS14.out, HS15.out, HS6.out, HS7.out, HS3.out⟩ (fun hHeld => ?_)
 refine pu 0 6 (h := pu 1 7 (h := pu 2 8 (h := pu 4 10 (h := pu 5 11 (h := pu 6 12 (h := pu 7 13 (h := pu 9 15 (h := pu 10 16 (h := pu 11 17 (h := pu 12 18 (h := pu 14 20 (h := pu 15 21 (h := pu 16 22 (h := pu 17 23 (h := ta 3 9 hHeld (h := ta 8 14 hHeld (h := ta 13 19 hHeld (h := ta 18 24 hHeld (h := pu 19 25 (h := ?_))))))))))))))))))))
 refine join_ (σ := B × Value × Value × Int × Int × Nat) 3 (bb 29 67108863) (fun s => [(26, .tuple #[.agg #[.string s.1.f0, .int .i64 s.1.f1, s.2.1, s.2.2.1, .int .u64 s.1.f4], .int .u32 s.2.2.2.1, .int .i64 s.2.2.2.2.1]), (5, .tuple #[.agg #[.string s.1.f0, .int .i64 s.1.f1, s.2.1, s.2.2.1, .int .u64 s.1.f4], .int .u32 s.2.2.2.1, .int .i64 s.2.2.2.2.1]), (27, .agg #[.string s.1.f0, .int .i64 s.1.f1, s.2.1, s.2.2.1, .int .u64 s.1.f4]), (28, .int .u32 s.2.2.2.1), (29, .int .i64 s.2.2.2.2.1), (2, .pointer (some ⟨s.2.2.2.2.2, 0, none⟩))]) (fun s w' => BkWhole.Drawn now w (fun k => okg g k ∧ k < w.heap.size) s.1 s.2.1 s.2.2.1 s.2.2.2.2.2 w' ∧ (0 ≤ s.2.2.2.1 ∧ s.2.2.2.1 < 4294967296)) ?_ ?_
 rotate_left
 ·intro hCont
  refine two_ (i := 20) (j := 25) (Ni := some 26) (Nj := some 2) (bb 29 2097151) (bb 29 34603007) rfl rfl rfl rfl (by kernel_rfl) (by decide) (by decide) (fun K hK => ?_) (fun K hK => ?_)
  ·skip
   refine goes_ Tryz.func64 (by kernel_rfl) rfl #[.agg #[.string b.f0, .int .i64 b.f1, .slice A2 b.f2.length c2, .slice A3 b.f3.length c3, .int .u64 b.f4], .int .u64 q.f6, .agg #[.int .i64 q.f7, .string q.f3]] (by rfl) rfl rfl (by simp only [List.map_toArray, List.map_cons, List.map_nil]; rfl) ?_
   refine (BkPart.lay_any now w.drew (fun k => okg g k ∧ k < w.heap.size) b _ _ q.f6 (⟨q.f7, q.f3⟩ : P) (HC.out.sl.bound.below (below_drew (Below.refl w.heap.size w))) HOK.out).mono ?_
   rintro e w7 ⟨b7, v72, v73, t7, er7, rfl, hsl7, hok7, hb7, ht7⟩
   refine ⟨_, rfl, ?_⟩
   have HD7 := Aside0.mk (And.intro hsl7 hok7)
   have HB7 := Aside0.mk (below_step (below_drew (Below.refl w.heap.size w)) hb7)
   have HX7 := Aside0.mk hb7
   have HT7 := Aside0.mk ht7
   clear ht7
   clear hsl7 hok7 hb7
   refine hK.out _ _ ⟨(pw_cell_below HB7.out HS11.out), (pw_cell_below HB7.out HS12.out), (pw_cell_below HB7.out HS13.out), (pw_cell_below HB7.out HS14.out), (pw_cell_below HB7.out HS15.out), (pw_cell_below HB7.out HS6.out), (pw_cell_below HB7.out HS7.out), (pw_cell_below HB7.out HS3.out)⟩ (fun hHeld => ?_)
   clear hK K
   refine nm (h := pu 21 5 (h := pu 22 27 (h := pu 23 28 (h := pu 24 29 (h := on_ 25 2 (h := fun K hK => ?_))))))
   refine value_ (w1 := ?_) (v := ?_) (by rfl) rfl ?_ ?_
   rotate_left 2
   ·go_simp
    constructor
    ·rfl
    ·rfl
   refine hK.out _ _ ⟨(pw_cell_below (below_alloc HB7.out (.cells #[.string ⟨#[]⟩, .int .i64 0, .slice none 0 0, .slice none 0 0, .int .u64 0] tB)) HS11.out), (pw_cell_below (below_alloc HB7.out (.cells #[.string ⟨#[]⟩, .int .i64 0, .slice none 0 0, .slice none 0 0, .int .u64 0] tB)) HS12.out), (pw_cell_below (below_alloc HB7.out (.cells #[.string ⟨#[]⟩, .int .i64 0, .slice none 0 0, .slice none 0 0, .int .u64 0] tB)) HS13.out), (pw_cell_below (below_alloc HB7.out (.cells #[.string ⟨#[]⟩, .int .i64 0, .slice none 0 0, .slice none 0 0, .int .u64 0] tB)) HS14.out), (pw_cell_below (below_alloc HB7.out (.cells #[.string ⟨#[]⟩, .int .i64 0, .slice none 0 0, .slice none 0 0, .int .u64 0] tB)) HS15.out), (pw_cell_below (below_alloc HB7.out (.cells #[.string ⟨#[]⟩, .int .i64 0, .slice none 0 0, .slice none 0 0, .int .u64 0] tB)) HS6.out), (pw_cell_below (below_alloc HB7.out (.cells #[.string ⟨#[]⟩, .int .i64 0, .slice none 0 0, .slice none 0 0, .int .u64 0] tB)) HS7.out), (pw_cell_below (below_alloc HB7.out (.cells #[.string ⟨#[]⟩, .int .i64 0, .slice none 0 0, .slice none 0 0, .int .u64 0] tB)) HS3.out)⟩ (fun hHeld => ?_)
   clear hK K
   refine nm (h := ?_)
   exact norm_ (by simp only [putAll, Act.put, List.setIfInBounds_toArray, List.set_cons_zero, List.set_cons_succ]) (hCont (b7, v72, v73, t7, er7, w7.heap.size) _ (And.intro (BkWhole.drawn_call HD7.out.1 HD7.out.2 HB7.out (fun k hk => hk.2)) HT7.out))
  ·skip
   refine value_ (w1 := ?_) (v := ?_) (by rfl) rfl ?_ ?_
   rotate_left 2
   ·go_simp
    constructor
    ·rfl
    ·rfl
   refine hK.out _ _ ⟨(pw_cell_below (below_alloc (below_drew (Below.refl w.heap.size w)) (.cells #[.string ⟨#[]⟩, .int .i64 0, .slice none 0 0, .slice none 0 0, .int .u64 0] tB)) HS11.out), (pw_cell_below (below_alloc (below_drew (Below.refl w.heap.size w)) (.cells #[.string ⟨#[]⟩, .int .i64 0, .slice none 0 0, .slice none 0 0, .int .u64 0] tB)) HS12.out), (pw_cell_below (below_alloc (below_drew (Below.refl w.heap.size w)) (.cells #[.string ⟨#[]⟩, .int .i64 0, .slice none 0 0, .slice none 0 0, .int .u64 0] tB)) HS13.out), (pw_cell_below (below_alloc (below_drew (Below.refl w.heap.size w)) (.cells #[.string ⟨#[]⟩, .int .i64 0, .slice none 0 0, .slice none 0 0, .int .u64 0] tB)) HS14.out), (pw_cell_below (below_alloc (below_drew (Below.refl w.heap.size w)) (.cells #[.string ⟨#[]⟩, .int .i64 0, .slice none 0 0, .slice none 0 0, .int .u64 0] tB)) HS15.out), (pw_cell_below (below_alloc (below_drew (Below.refl w.heap.size w)) (.cells #[.string ⟨#[]⟩, .int .i64 0, .slice none 0 0, .slice none 0 0, .int .u64 0] tB)) HS6.out), (pw_cell_below (below_alloc (below_drew (Below.refl w.heap.size w)) (.cells #[.string ⟨#[]⟩, .int .i64 0, .slice none 0 0, .slice none 0 0, .int .u64 0] tB)) HS7.out), (pw_cell_below (below_alloc (below_drew (Below.refl w.heap.size w)) (.cells #[.string ⟨#[]⟩, .int .i64 0, .slice none 0 0, .slice none 0 0, .int .u64 0] tB)) HS3.out)⟩ (fun hHeld => ?_)
   clear hK K
   refine nm (h := on_ 20 26 (h := fun K hK => ?_))
   refine goes_ Tryz.func64 (by kernel_rfl) rfl #[.agg #[.string b.f0, .int .i64 b.f1, .slice A2 b.f2.length c2, .slice A3 b.f3.length c3, .int .u64 b.f4], .int .u64 q.f6, .agg #[.int .i64 q.f7, .string q.f3]] (by rfl) rfl rfl (by simp only [List.map_toArray, List.map_cons, List.map_nil]; rfl) ?_
   refine (BkPart.lay_any now (w.drew.alloc (.cells #[.string ⟨#[]⟩, .int .i64 0, .slice none 0 0, .slice none 0 0, .int .u64 0] tB)) (fun k => okg g k ∧ k < w.heap.size) b _ _ q.f6 (⟨q.f7, q.f3⟩ : P) (HC.out.sl.bound.below (below_alloc (below_drew (Below.refl w.heap.size w)) (.cells #[.string ⟨#[]⟩, .int .i64 0, .slice none 0 0, .slice none 0 0, .int .u64 0] tB))) HOK.out).mono ?_
   rintro e w7 ⟨b7, v72, v73, t7, er7, rfl, hsl7, hok7, hb7, ht7⟩
   refine ⟨_, rfl, ?_⟩
   have HD7 := Aside0.mk (And.intro hsl7 hok7)
   have HB7 := Aside0.mk (below_step (below_alloc (below_drew (Below.refl w.heap.size w)) (.cells #[.string ⟨#[]⟩, .int .i64 0, .slice none 0 0, .slice none 0 0, .int .u64 0] tB)) hb7)
   have HX7 := Aside0.mk hb7
   have HT7 := Aside0.mk ht7
   clear ht7
   clear hsl7 hok7 hb7
   refine hK.out _ _ ⟨(pw_cell_below HB7.out HS11.out), (pw_cell_below HB7.out HS12.out), (pw_cell_below HB7.out HS13.out), (pw_cell_below HB7.out HS14.out), (pw_cell_below HB7.out HS15.out), (pw_cell_below HB7.out HS6.out), (pw_cell_below HB7.out HS7.out), (pw_cell_below HB7.out HS3.out)⟩ (fun hHeld => ?_)
   clear hK K
   refine nm (h := pu 21 5 (h := pu 22 27 (h := pu 23 28 (h := pu 24 29 (h := ?_)))))
   exact norm_ (by simp only [putAll, Act.put, List.setIfInBounds_toArray, List.set_cons_zero, List.set_cons_succ]) (hCont (b7, v72, v73, t7, er7, w.heap.size) _ (And.intro (BkWhole.drawn_box HD7.out.1 HD7.out.2 HX7.out (fun k hk => hk.2)) HT7.out))
 rintro ⟨b7, v72, v73, t7, er7, q7⟩ w7 ⟨hD, ht7⟩
 obtain ⟨A7, d7, rfl⟩ := Kd.V_slice (show Rd kE w7 _ v72 b7.f2 from hD.sl.r2)
 obtain ⟨A8, d8, rfl⟩ := Kd.V_slice (show Rd kU w7 _ v73 b7.f3 from hD.sl.r3)
 have HT := Aside0.mk ht7
 clear ht7
 have HD := Aside0.mk (show BkWhole.Drawn now w (fun k => okg g k ∧ k < w.heap.size) b7 (.slice A7 b7.f2.length d7) (.slice A8 b7.f3.length d8) q7 w7 from hD)
 have hHeld := And.intro (pw_cell_below HD.out.bel HS11.out) (And.intro (pw_cell_below HD.out.bel HS12.out) (And.intro (pw_cell_below HD.out.bel HS13.out) (And.intro (pw_cell_below HD.out.bel HS14.out) (And.intro (pw_cell_below HD.out.bel HS15.out) (And.intro (pw_cell_below HD.out.bel HS6.out) (And.intro (pw_cell_below HD.out.bel HS7.out) (pw_cell_below HD.out.bel HS3.out)))))))
 have zq := fun j => blk_cell HD.out.z j
 have zf := fun j => blk_frozen HD.out.z j
 clear hD
 refine norm_ (a' := ?_) ?_ ?_
 rotate_left
 ·simp only [putAll, Act.put, List.setIfInBounds_toArray, List.set_cons_zero, List.set_cons_succ]
  rfl
 refine ln_ 26 (h := fun K hK => ?_)
 refine skip_ (w1 := ?_) (by rfl) rfl ?_ ?_
 rotate_left
 ·go_simp
  rfl
 refine hK.out _ _ ?_
 clear hK K
 refine pu 27 3 (h := pu 28 4 (h := dn (h := ?_)))
 have gQ := set5_grown w7 q7 (.string b7.f0) (.int .i64 b7.f1) (.slice A7 b7.f2.length d7) (.slice A8 b7.f3.length d8) (.int .u64 b7.f4)
 have bQ := set5_blk HD.out.z (.string b7.f0) (.int .i64 b7.f1) (.slice A7 b7.f2.length d7) (.slice A8 b7.f3.length d8) (.int .u64 b7.f4)
 clear zq zf
 (try clear hHeld)
 unfold set5 at gQ bQ
 generalize hWE : ((((w7.setCell ⟨q7, 0, none⟩ (.string b7.f0)).setCell ⟨q7, 1, none⟩ (.int .i64 b7.f1)).setCell ⟨q7, 2, none⟩ (.slice A7 b7.f2.length d7)).setCell ⟨q7, 3, none⟩ (.slice A8 b7.f3.length d8)).setCell ⟨q7, 4, none⟩ (.int .u64 b7.f4) = WQ at gQ bQ ⊢
 clear hWE
 have hq7 := HD.out.q0
 have hBQ := HD.out.bel.grown gQ HD.out.bel.size (fun k e => by cases e; omega)
 have HCQ := Aside0.mk (HC.out.below hBQ)
 have HGQ := Aside0.mk (grown_of_below hBQ (some g))
 have HSQ : Aside0 (Sl WQ (okg g) b7 (.slice A7 b7.f2.length d7) (.slice A8 b7.f3.length d8)) := ⟨(HD.out.sl.grown gQ (fun k hk => hk.2)).mono (fun k hk => by
  have := HC.out.lt
  rcases hk.1 with h | h
  ·exact h.1
  ·exact ⟨by omega, by omega, by omega⟩)⟩
 have hzq := fun j => blk_cell bQ j
 clear hq7 hBQ bQ gQ
 go_wp2_with fail
 refine (took_any WQ g q _ now _ l b _ _ ti tt 0 HCQ.out b7 _ _ HSQ.out er7).mono ?_
 rintro e4 w8 ⟨rfl, hC8, hg8⟩
 have HC8 := Aside0.mk hC8
 have HG8 := Aside0.mk (grown_then HGQ.out hg8 (.inr rfl))
 clear hC8 hg8 hzq
 go_wp2_with fail
 refine (TagOf.text_any t7 _ HT.out.1 HT.out.2).mono ?_
 rintro en w9 ⟨rfl, hb9⟩
 have HC9 := Aside0.mk (HC8.out.below hb9)
 have HG9 := Aside0.mk (grown_then HG8.out (grown_of_below hb9 (some g)) (.inr rfl))
 have hz := fun j => blk_cell HC9.out.blk j
 have hf := fun j => blk_frozen HC9.out.blk j
 clear hb9
 go_wp2_with fail
 (first | go_end0 | ((try simp only [Exit.inBlock, Exit.then]); refine bodyPost_ret (results_none rfl _ _ _) rfl ?_))
 exact ⟨q, b7, _, _, _, _, _, ⟨rfl, HC9.out.setT _, grown_then HG9.out (grown_set _ g 17 _) (.inr rfl)⟩, fun _ => HD.out.okb⟩
set_option maxRecDepth 100000 in
set_option maxHeartbeats 6400000 in
theorem whole_any (w : World) (g : Nat) (q : Q) (vp : Value) (now : Int) (vl : Value) (l : List B) (b : B) (v2 v3 : Value) (ti : Int) (tt : ByteArray) (h : CAt w g q vp now vl l b v2 v3 ti tt 0) (hb : Ok now b) (hq : q.f8.length ≤ 40) :
  Calls Tryz.prog 26 #[.pointer (some ⟨g, 0, none⟩)] w (Ones w g vp now vl l) := by
 have hu := Tryz.underlying40
 obtain ⟨A2, c2, rfl⟩ := Kd.V_slice h.sl.r2
 obtain ⟨A3, c3, rfl⟩ := Kd.V_slice h.sl.r3
 have HC := Aside0.mk h
 have HOK := Aside0.mk hb
 have hrp := h.rp
 obtain ⟨AP, cp, rfl, hcp, hFp⟩ := hrp
 have HP8 := Aside0.mk (And.intro (Kd.F_now hFp) (And.intro hcp hq))
 clear hcp hFp hq
 have HS11 : Aside0 (w.cell? ⟨g, 11, none⟩ = some (.string b.f0)) := ⟨(blk_cell h.blk 11).trans rfl⟩
 have HS12 : Aside0 (w.cell? ⟨g, 12, none⟩ = some (.int .i64 b.f1)) := ⟨(blk_cell h.blk 12).trans rfl⟩
 have HS13 : Aside0 (w.cell? ⟨g, 13, none⟩ = some (.slice A2 b.f2.length c2)) := ⟨(blk_cell h.blk 13).trans rfl⟩
 have HS14 : Aside0 (w.cell? ⟨g, 14, none⟩ = some (.slice A3 b.f3.length c3)) := ⟨(blk_cell h.blk 14).trans rfl⟩
 have HS15 : Aside0 (w.cell? ⟨g, 15, none⟩ = some (.int .u64 b.f4)) := ⟨(blk_cell h.blk 15).trans rfl⟩
 have HS6 : Aside0 (w.cell? ⟨g, 6, none⟩ = some (.int .u64 q.f6)) := ⟨(blk_cell h.blk 6).trans rfl⟩
 have HS8 : Aside0 (w.cell? ⟨g, 8, none⟩ = some (.slice AP q.f8.length cp)) := ⟨(blk_cell h.blk 8).trans rfl⟩
 have HS9 : Aside0 (w.cell? ⟨g, 9, none⟩ = some (.int .i64 now)) := ⟨(blk_cell h.blk 9).trans rfl⟩
 clear h hb
 go_enter Tryz.func26, Tryz.ntmps26
 go_wp2_with fail
 refine start_ (n := 30) (S := fun w' => w'.cell? ⟨g, 11, none⟩ = some (.string b.f0) ∧ w'.cell? ⟨g, 12, none⟩ = some (.int .i64 b.f1) ∧ w'.cell? ⟨g, 13, none⟩ = some (.slice A2 b.f2.length c2) ∧ w'.cell? ⟨g, 14, none⟩ = some (.slice A3 b.f3.length c3) ∧ w'.cell? ⟨g, 15, none⟩ = some (.int .u64 b.f4) ∧ w'.cell? ⟨g, 6, none⟩ = some (.int .u64 q.f6) ∧ w'.cell? ⟨g, 8, none⟩ = some (.slice AP q.f8.length cp) ∧ w'.cell? ⟨g, 9, none⟩ = some (.int .i64 now)) (ds := [26]) (bb 30 0) (by kernel_rfl) rfl rfl ⟨HS11.out, HS12.out, HS13.out, HS14.out, HS15.out, HS6.out, HS8.out, HS9.out⟩ (fun hHeld => ?_)
 refine pu 0 7 (h := pu 1 8 (h := pu 2 9 (h := pu 4 11 (h := pu 5 12 (h := pu 6 13 (h := pu 7 14 (h := pu 9 16 (h := pu 10 17 (h := pu 11 18 (h := pu 12 19 (h := pu 14 21 (h := pu 15 22 (h := pu 16 23 (h := pu 17 24 (h := ta 3 10 hHeld (h := ta 8 15 hHeld (h := ta 13 20 hHeld (h := ta 18 25 hHeld (h := ?_)))))))))))))))))))
 refine join_ (σ := B × Value × Value × Int × ByteArray × Int × Nat) 4 (bb 30 67108863) (fun s => [(26, .tuple #[.agg #[.string s.1.f0, .int .i64 s.1.f1, s.2.1, s.2.2.1, .int .u64 s.1.f4], .int .u64 s.2.2.2.1, .string s.2.2.2.2.1, .int .i64 s.2.2.2.2.2.1]), (6, .tuple #[.agg #[.string s.1.f0, .int .i64 s.1.f1, s.2.1, s.2.2.1, .int .u64 s.1.f4], .int .u64 s.2.2.2.1, .string s.2.2.2.2.1, .int .i64 s.2.2.2.2.2.1]), (27, .agg #[.string s.1.f0, .int .i64 s.1.f1, s.2.1, s.2.2.1, .int .u64 s.1.f4]), (28, .int .u64 s.2.2.2.1), (29, .string s.2.2.2.2.1), (30, .int .i64 s.2.2.2.2.2.1), (2, .pointer (some ⟨s.2.2.2.2.2.2, 0, none⟩))]) (fun s w' => BkWhole.Drawn now w (fun k => okg g k ∧ k < w.heap.size) s.1 s.2.1 s.2.2.1 s.2.2.2.2.2.2 w') ?_ ?_
 rotate_left
 ·intro hCont
  refine two_ (i := 19) (j := 25) (Ni := some 26) (Nj := some 2) (bb 30 1048575) (bb 30 34078719) rfl rfl rfl rfl (by kernel_rfl) (by decide) (by decide) (fun K hK => ?_) (fun K hK => ?_)
  ·skip
   refine goes_ Tryz.func66 (by kernel_rfl) rfl #[.agg #[.string b.f0, .int .i64 b.f1, .slice A2 b.f2.length c2, .slice A3 b.f3.length c3, .int .u64 b.f4], .int .u64 q.f6, .slice AP q.f8.length cp, .int .i64 now] (by rfl) rfl rfl (by simp only [List.map_toArray, List.map_cons, List.map_nil]; rfl) ?_
   refine (BkWhole.whole_any now w.drew (fun k => okg g k ∧ k < w.heap.size) b _ _ q.f6 AP cp q.f8 (HC.out.sl.bound.below (below_drew (Below.refl w.heap.size w))) HOK.out (Kd.C_below HP8.out.1 (below_drew (Below.refl w.heap.size w))) HP8.out.2.1 HP8.out.2.2).mono ?_
   rintro e w7 ⟨b7, v72, v73, id7, t7, er7, rfl, hsl7, hok7, hb7⟩
   refine ⟨_, rfl, ?_⟩
   have HD7 := Aside0.mk (And.intro hsl7 hok7)
   have HB7 := Aside0.mk (below_step (below_drew (Below.refl w.heap.size w)) hb7)
   have HX7 := Aside0.mk hb7
   clear hsl7 hok7 hb7
   refine hK.out _ _ ⟨(pw_cell_below HB7.out HS11.out), (pw_cell_below HB7.out HS12.out), (pw_cell_below HB7.out HS13.out), (pw_cell_below HB7.out HS14.out), (pw_cell_below HB7.out HS15.out), (pw_cell_below HB7.out HS6.out), (pw_cell_below HB7.out HS8.out), (pw_cell_below HB7.out HS9.out)⟩ (fun hHeld => ?_)
   clear hK K
   refine nm (h := pu 20 6 (h := pu 21 27 (h := pu 22 28 (h := pu 23 29 (h := pu 24 30 (h := on_ 25 2 (h := fun K hK => ?_)))))))
   refine value_ (w1 := ?_) (v := ?_) (by rfl) rfl ?_ ?_
   rotate_left 2
   ·go_simp
    constructor
    ·rfl
    ·rfl
   refine hK.out _ _ ⟨(pw_cell_below (below_alloc HB7.out (.cells #[.string ⟨#[]⟩, .int .i64 0, .slice none 0 0, .slice none 0 0, .int .u64 0] tB)) HS11.out), (pw_cell_below (below_alloc HB7.out (.cells #[.string ⟨#[]⟩, .int .i64 0, .slice none 0 0, .slice none 0 0, .int .u64 0] tB)) HS12.out), (pw_cell_below (below_alloc HB7.out (.cells #[.string ⟨#[]⟩, .int .i64 0, .slice none 0 0, .slice none 0 0, .int .u64 0] tB)) HS13.out), (pw_cell_below (below_alloc HB7.out (.cells #[.string ⟨#[]⟩, .int .i64 0, .slice none 0 0, .slice none 0 0, .int .u64 0] tB)) HS14.out), (pw_cell_below (below_alloc HB7.out (.cells #[.string ⟨#[]⟩, .int .i64 0, .slice none 0 0, .slice none 0 0, .int .u64 0] tB)) HS15.out), (pw_cell_below (below_alloc HB7.out (.cells #[.string ⟨#[]⟩, .int .i64 0, .slice none 0 0, .slice none 0 0, .int .u64 0] tB)) HS6.out), (pw_cell_below (below_alloc HB7.out (.cells #[.string ⟨#[]⟩, .int .i64 0, .slice none 0 0, .slice none 0 0, .int .u64 0] tB)) HS8.out), (pw_cell_below (below_alloc HB7.out (.cells #[.string ⟨#[]⟩, .int .i64 0, .slice none 0 0, .slice none 0 0, .int .u64 0] tB)) HS9.out)⟩ (fun hHeld => ?_)
   clear hK K
   refine nm (h := ?_)
   exact norm_ (by simp only [putAll, Act.put, List.setIfInBounds_toArray, List.set_cons_zero, List.set_cons_succ]) (hCont (b7, v72, v73, id7, t7, er7, w7.heap.size) _ (BkWhole.drawn_call HD7.out.1 HD7.out.2 HB7.out (fun k hk => hk.2)))
  ·skip
   refine value_ (w1 := ?_) (v := ?_) (by rfl) rfl ?_ ?_
   rotate_left 2
   ·go_simp
    constructor
    ·rfl
    ·rfl
   refine hK.out _ _ ⟨(pw_cell_below (below_alloc (below_drew (Below.refl w.heap.size w)) (.cells #[.string ⟨#[]⟩, .int .i64 0, .slice none 0 0, .slice none 0 0, .int .u64 0] tB)) HS11.out), (pw_cell_below (below_alloc (below_drew (Below.refl w.heap.size w)) (.cells #[.string ⟨#[]⟩, .int .i64 0, .slice none 0 0, .slice none 0 0, .int .u64 0] tB)) HS12.out), (pw_cell_below (below_alloc (below_drew (Below.refl w.heap.size w)) (.cells #[.string ⟨#[]⟩, .int .i64 0, .slice none 0 0, .slice none 0 0, .int .u64 0] tB)) HS13.out), (pw_cell_below (below_alloc (below_drew (Below.refl w.heap.size w)) (.cells #[.string ⟨#[]⟩, .int .i64 0, .slice none 0 0, .slice none 0 0, .int .u64 0] tB)) HS14.out), (pw_cell_below (below_alloc (below_drew (Below.refl w.heap.size w)) (.cells #[.string ⟨#[]⟩, .int .i64 0, .slice none 0 0, .slice none 0 0, .int .u64 0] tB)) HS15.out), (pw_cell_below (below_alloc (below_drew (Below.refl w.heap.size w)) (.cells #[.string ⟨#[]⟩, .int .i64 0, .slice none 0 0, .slice none 0 0, .int .u64 0] tB)) HS6.out), (pw_cell_below (below_alloc (below_drew (Below.refl w.heap.size w)) (.cells #[.string ⟨#[]⟩, .int .i64 0, .slice none 0 0, .slice none 0 0, .int .u64 0] tB)) HS8.out), (pw_cell_below (below_alloc (below_drew (Below.refl w.heap.size w)) (.cells #[.string ⟨#[]⟩, .int .i64 0, .slice none 0 0, .slice none 0 0, .int .u64 0] tB)) HS9.out)⟩ (fun hHeld => ?_)
   clear hK K
   refine nm (h := on_ 19 26 (h := fun K hK => ?_))
   refine goes_ Tryz.func66 (by kernel_rfl) rfl #[.agg #[.string b.f0, .int .i64 b.f1, .slice A2 b.f2.length c2, .slice A3 b.f3.length c3, .int .u64 b.f4], .int .u64 q.f6, .slice AP q.f8.length cp, .int .i64 now] (by rfl) rfl rfl (by simp only [List.map_toArray, List.map_cons, List.map_nil]; rfl) ?_
   refine (BkWhole.whole_any now (w.drew.alloc (.cells #[.string ⟨#[]⟩, .int .i64 0, .slice none 0 0, .slice none 0 0, .int .u64 0] tB)) (fun k => okg g k ∧ k < w.heap.size) b _ _ q.f6 AP cp q.f8 (HC.out.sl.bound.below (below_alloc (below_drew (Below.refl w.heap.size w)) (.cells #[.string ⟨#[]⟩, .int .i64 0, .slice none 0 0, .slice none 0 0, .int .u64 0] tB))) HOK.out (Kd.C_below HP8.out.1 (below_alloc (below_drew (Below.refl w.heap.size w)) (.cells #[.string ⟨#[]⟩, .int .i64 0, .slice none 0 0, .slice none 0 0, .int .u64 0] tB))) HP8.out.2.1 HP8.out.2.2).mono ?_
   rintro e w7 ⟨b7, v72, v73, id7, t7, er7, rfl, hsl7, hok7, hb7⟩
   refine ⟨_, rfl, ?_⟩
   have HD7 := Aside0.mk (And.intro hsl7 hok7)
   have HB7 := Aside0.mk (below_step (below_alloc (below_drew (Below.refl w.heap.size w)) (.cells #[.string ⟨#[]⟩, .int .i64 0, .slice none 0 0, .slice none 0 0, .int .u64 0] tB)) hb7)
   have HX7 := Aside0.mk hb7
   clear hsl7 hok7 hb7
   refine hK.out _ _ ⟨(pw_cell_below HB7.out HS11.out), (pw_cell_below HB7.out HS12.out), (pw_cell_below HB7.out HS13.out), (pw_cell_below HB7.out HS14.out), (pw_cell_below HB7.out HS15.out), (pw_cell_below HB7.out HS6.out), (pw_cell_below HB7.out HS8.out), (pw_cell_below HB7.out HS9.out)⟩ (fun hHeld => ?_)
   clear hK K
   refine nm (h := pu 20 6 (h := pu 21 27 (h := pu 22 28 (h := pu 23 29 (h := pu 24 30 (h := ?_))))))
   exact norm_ (by simp only [putAll, Act.put, List.setIfInBounds_toArray, List.set_cons_zero, List.set_cons_succ]) (hCont (b7, v72, v73, id7, t7, er7, w.heap.size) _ (BkWhole.drawn_box HD7.out.1 HD7.out.2 HX7.out (fun k hk => hk.2)))
 rintro ⟨b7, v72, v73, id7, t7, er7, q7⟩ w7 hD
 obtain ⟨A7, d7, rfl⟩ := Kd.V_slice (show Rd kE w7 _ v72 b7.f2 from hD.sl.r2)
 obtain ⟨A8, d8, rfl⟩ := Kd.V_slice (show Rd kU w7 _ v73 b7.f3 from hD.sl.r3)
 have HD := Aside0.mk (show BkWhole.Drawn now w (fun k => okg g k ∧ k < w.heap.size) b7 (.slice A7 b7.f2.length d7) (.slice A8 b7.f3.length d8) q7 w7 from hD)
 have hHeld := And.intro (pw_cell_below HD.out.bel HS11.out) (And.intro (pw_cell_below HD.out.bel HS12.out) (And.intro (pw_cell_below HD.out.bel HS13.out) (And.intro (pw_cell_below HD.out.bel HS14.out) (And.intro (pw_cell_below HD.out.bel HS15.out) (And.intro (pw_cell_below HD.out.bel HS6.out) (And.intro (pw_cell_below HD.out.bel HS8.out) (pw_cell_below HD.out.bel HS9.out)))))))
 have zq := fun j => blk_cell HD.out.z j
 have zf := fun j => blk_frozen HD.out.z j
 clear hD
 refine norm_ (a' := ?_) ?_ ?_
 rotate_left
 ·simp only [putAll, Act.put, List.setIfInBounds_toArray, List.set_cons_zero, List.set_cons_succ]
  rfl
 refine ln_ 26 (h := fun K hK => ?_)
 refine skip_ (w1 := ?_) (by rfl) rfl ?_ ?_
 rotate_left
 ·go_simp
  rfl
 refine hK.out _ _ ?_
 clear hK K
 refine pu 27 3 (h := pu 28 4 (h := pu 29 5 (h := dn (h := ?_))))
 have gQ := set5_grown w7 q7 (.string b7.f0) (.int .i64 b7.f1) (.slice A7 b7.f2.length d7) (.slice A8 b7.f3.length d8) (.int .u64 b7.f4)
 have bQ := set5_blk HD.out.z (.string b7.f0) (.int .i64 b7.f1) (.slice A7 b7.f2.length d7) (.slice A8 b7.f3.length d8) (.int .u64 b7.f4)
 clear zq zf
 (try clear hHeld)
 unfold set5 at gQ bQ
 generalize hWE : ((((w7.setCell ⟨q7, 0, none⟩ (.string b7.f0)).setCell ⟨q7, 1, none⟩ (.int .i64 b7.f1)).setCell ⟨q7, 2, none⟩ (.slice A7 b7.f2.length d7)).setCell ⟨q7, 3, none⟩ (.slice A8 b7.f3.length d8)).setCell ⟨q7, 4, none⟩ (.int .u64 b7.f4) = WQ at gQ bQ ⊢
 clear hWE
 have hq7 := HD.out.q0
 have hBQ := HD.out.bel.grown gQ HD.out.bel.size (fun k e => by cases e; omega)
 have HCQ := Aside0.mk (HC.out.below hBQ)
 have HGQ := Aside0.mk (grown_of_below hBQ (some g))
 have HSQ : Aside0 (Sl WQ (okg g) b7 (.slice A7 b7.f2.length d7) (.slice A8 b7.f3.length d8)) := ⟨(HD.out.sl.grown gQ (fun k hk => hk.2)).mono (fun k hk => by
  have := HC.out.lt
  rcases hk.1 with h | h
  ·exact h.1
  ·exact ⟨by omega, by omega, by omega⟩)⟩
 have hzq := fun j => blk_cell bQ j
 clear hq7 hBQ bQ gQ
 go_wp2_with fail
 refine (gave_any WQ g q _ now _ l b _ _ ti tt 0 HCQ.out b7 _ _ HSQ.out id7 er7).mono ?_
 rintro e4 w8 ⟨rfl, hC8, hg8⟩
 have HC8 := Aside0.mk hC8
 have HG8 := Aside0.mk (grown_then HGQ.out hg8 (.inr rfl))
 clear hC8 hg8 hzq
 have hz := fun j => blk_cell HC8.out.blk j
 have hf := fun j => blk_frozen HC8.out.blk j
 go_wp2_with fail
 (first | go_end0 | ((try simp only [Exit.inBlock, Exit.then]); refine bodyPost_ret (results_none rfl _ _ _) rfl ?_))
 exact ⟨q, b7, _, _, _, _, _, ⟨rfl, HC8.out.setT t7, grown_then HG8.out (grown_set _ g 17 _) (.inr rfl)⟩, fun _ => HD.out.okb⟩
end Go.Proofs.YtpccbmechgkogaaGreatDoor.ClkTwo
