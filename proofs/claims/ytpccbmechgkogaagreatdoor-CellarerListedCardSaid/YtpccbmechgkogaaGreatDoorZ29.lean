/-
  Lemmas: ClkOne.
-/
import Derived.BigRegion
import Derived.Test.YtpccbmechgkogaaGreatDoorProg
import Derived.Test.YtpccbmechgkogaaGreatDoorV0
import Derived.Test.YtpccbmechgkogaaGreatDoorZ01
import Derived.Test.YtpccbmechgkogaaGreatDoorZ02
import Derived.Test.YtpccbmechgkogaaGreatDoorZ04
import Derived.Test.YtpccbmechgkogaaGreatDoorZ06
import Derived.Test.YtpccbmechgkogaaGreatDoorZ10
import Derived.Test.YtpccbmechgkogaaGreatDoorZ11
import Derived.Test.YtpccbmechgkogaaGreatDoorZ13
import Derived.Test.YtpccbmechgkogaaGreatDoorZ15
import Derived.Test.YtpccbmechgkogaaGreatDoorZ16
import Derived.Test.YtpccbmechgkogaaGreatDoorZ17
import Derived.Test.YtpccbmechgkogaaGreatDoorZ18
import Derived.Test.YtpccbmechgkogaaGreatDoorZ19
import Derived.Test.YtpccbmechgkogaaGreatDoorZ21
import Derived.Test.YtpccbmechgkogaaGreatDoorZ22
import Derived.Test.YtpccbmechgkogaaGreatDoorZ28
set_option linter.unusedVariables false
set_option linter.unusedSimpArgs false
namespace Go.Proofs.YtpccbmechgkogaaGreatDoor.ClkOne
open Go.RowKit Go.Proofs.YtpccbmechgkogaaGreatDoor.P Go.Proofs.YtpccbmechgkogaaGreatDoorW.PrintWords Go.Proofs.YtpccbmechgkogaaGreatDoorW.PrintLast Go.Proofs.YtpccbmechgkogaaGreatDoorW.PrintMore Go.Proofs.YtpccbmechgkogaaGreatDoor.PureKit Go.Proofs.YtpccbmechgkogaaGreatDoor.BkSpec Go.Proofs.YtpccbmechgkogaaGreatDoor.Wk Go.Proofs.YtpccbmechgkogaaGreatDoor.Close Go.Proofs.YtpccbmechgkogaaGreatDoor.BkOk Go.Proofs.YtpccbmechgkogaaGreatDoor.DpChk Go.Proofs.YtpccbmechgkogaaGreatDoor.DpFind Go.Proofs.YtpccbmechgkogaaGreatDoor.BkUps Go.Proofs.YtpccbmechgkogaaGreatDoor.PtLack Go.Proofs.YtpccbmechgkogaaGreatDoor.Clk
def Ones (w : World) (g : Nat) (vp : Value) (now : Int) (vl : Value) (l : List B) (en : Ending) (w' : World) : Prop :=
 ∃ (q : Q) (b : B) (v2 v3 : Value) (ti : Int) (tt : ByteArray) (e : Int), Took w g q vp now vl l b v2 v3 ti tt e en w' ∧ (e = 0 → Ok now b)
set_option maxRecDepth 100000 in
set_option maxHeartbeats 3200000 in
theorem turn_any (w : World) (g : Nat) (q : Q) (vp : Value) (now : Int) (vl : Value) (l : List B) (b : B) (v2 v3 : Value) (ti : Int) (tt : ByteArray) (h : CAt w g q vp now vl l b v2 v3 ti tt 0) (hb : Ok now b) :
  Calls Tryz.prog 19 #[.pointer (some ⟨g, 0, none⟩)] w (Ones w g vp now vl l) := by
 obtain ⟨A2, c2, rfl⟩ := Kd.V_slice h.sl.r2
 obtain ⟨A3, c3, rfl⟩ := Kd.V_slice h.sl.r3
 have HC := Aside0.mk h
 have HOK := Aside0.mk hb
 have HS11 : Aside0 (w.cell? ⟨g, 11, none⟩ = some (.string b.f0)) := ⟨(blk_cell h.blk 11).trans rfl⟩
 have HS12 : Aside0 (w.cell? ⟨g, 12, none⟩ = some (.int .i64 b.f1)) := ⟨(blk_cell h.blk 12).trans rfl⟩
 have HS13 : Aside0 (w.cell? ⟨g, 13, none⟩ = some (.slice A2 b.f2.length c2)) := ⟨(blk_cell h.blk 13).trans rfl⟩
 have HS14 : Aside0 (w.cell? ⟨g, 14, none⟩ = some (.slice A3 b.f3.length c3)) := ⟨(blk_cell h.blk 14).trans rfl⟩
 have HS15 : Aside0 (w.cell? ⟨g, 15, none⟩ = some (.int .u64 b.f4)) := ⟨(blk_cell h.blk 15).trans rfl⟩
 have HS7 : Aside0 (w.cell? ⟨g, 7, none⟩ = some (.int .i64 q.f7)) := ⟨(blk_cell h.blk 7).trans rfl⟩
 clear h hb
 go_enter Tryz.func19, Tryz.ntmps19
 go_wp2_with fail
 refine start_ (n := 14) (S := fun w' => w'.cell? ⟨g, 11, none⟩ = some (.string b.f0) ∧ w'.cell? ⟨g, 12, none⟩ = some (.int .i64 b.f1) ∧ w'.cell? ⟨g, 13, none⟩ = some (.slice A2 b.f2.length c2) ∧ w'.cell? ⟨g, 14, none⟩ = some (.slice A3 b.f3.length c3) ∧ w'.cell? ⟨g, 15, none⟩ = some (.int .u64 b.f4) ∧ w'.cell? ⟨g, 7, none⟩ = some (.int .i64 q.f7)) (ds := [13]) (bb 14 0) (by kernel_rfl) rfl rfl ⟨HS11.out, HS12.out, HS13.out, HS14.out, HS15.out, HS7.out⟩ (fun hHeld => ?_)
 refine pu 0 2 (h := pu 1 3 (h := pu 2 4 (h := pu 3 5 (h := pu 5 7 (h := pu 6 8 (h := pu 7 9 (h := pu 8 10 (h := ta 4 6 hHeld (h := ta 9 11 hHeld (h := on_ 10 12 (h := fun K hK => ?_)))))))))))
 refine goes_ Tryz.func58 (by kernel_rfl) rfl #[.agg #[.string b.f0, .int .i64 b.f1, .slice A2 b.f2.length c2, .slice A3 b.f3.length c3, .int .u64 b.f4], .int .i64 q.f7] (by rfl) rfl rfl (by simp only [List.map_toArray, List.map_cons, List.map_nil]; rfl) ?_
 refine (BkTurn.turn_any now w.drew (fun k => okg g k ∧ k < w.heap.size) b _ _ q.f7 (HC.out.sl.bound.below (below_drew (Below.refl w.heap.size w))) HOK.out).mono ?_
 rintro e3 w3 ⟨b3, u2, u3, er, rfl, hs3, hok3, hb3⟩
 obtain ⟨A5, c5, rfl⟩ := Kd.V_slice hs3.r2
 obtain ⟨A6, c6, rfl⟩ := Kd.V_slice hs3.r3
 refine ⟨_, rfl, ?_⟩
 have HOK3 := Aside0.mk hok3
 have HB3 := Aside0.mk (below_step (below_drew (Below.refl w.heap.size w)) hb3)
 have HC3 := Aside0.mk (HC.out.below HB3.out)
 have HSL3 := Aside0.mk (Clk.Sl.past hs3 (fun k hk => hk.1) HC.out.lt)
 clear hs3 hok3 hb3
 refine hK.out _ _ ⟨(pw_cell_below HB3.out HS11.out), (pw_cell_below HB3.out HS12.out), (pw_cell_below HB3.out HS13.out), (pw_cell_below HB3.out HS14.out), (pw_cell_below HB3.out HS15.out), (pw_cell_below HB3.out HS7.out)⟩ (fun hHeld => ?_)
 clear hK K
 refine nm (h := pu 11 13 (h := pu 12 14 (h := la_ 13 15 (h := fun K hK => ?_))))
 refine goes_ Tryz.func57 (by kernel_rfl) rfl #[.pointer (some ⟨g, 0, none⟩), .agg #[.string b3.f0, .int .i64 b3.f1, .slice A5 b3.f2.length c5, .slice A6 b3.f3.length c6, .int .u64 b3.f4], .int .i64 er] (by rfl) rfl rfl (by simp only [List.map_toArray, List.map_cons, List.map_nil]; rfl) ?_
 refine (took_any w3 g q _ now _ l b _ _ ti tt 0 HC3.out b3 _ _ HSL3.out er).mono ?_
 rintro e4 w4 ⟨rfl, hC4, hg4⟩
 refine ⟨_, rfl, ?_⟩
 have HC4 := Aside0.mk hC4
 have HG4 := Aside0.mk (grown_then (grown_of_below HB3.out (some g)) hg4 (.inr rfl))
 clear hC4 hg4
 refine hK.out _ _ ?_
 clear hK K
 refine nm (h := dn (h := ?_))
 go_wp2_with fail
 (first | go_end0 | ((try simp only [Exit.inBlock, Exit.then]); refine bodyPost_ret (results_none rfl _ _ _) rfl ?_))
 exact ⟨q, b3, _, _, _, _, _, ⟨rfl, HC4.out, HG4.out⟩, fun _ => HOK3.out⟩
set_option maxRecDepth 100000 in
set_option maxHeartbeats 3200000 in
theorem delete_any (w : World) (g : Nat) (q : Q) (vp : Value) (now : Int) (vl : Value) (l : List B) (b : B) (v2 v3 : Value) (ti : Int) (tt : ByteArray) (h : CAt w g q vp now vl l b v2 v3 ti tt 0) (hb : Ok now b) :
  Calls Tryz.prog 21 #[.pointer (some ⟨g, 0, none⟩)] w (Ones w g vp now vl l) := by
 obtain ⟨A2, c2, rfl⟩ := Kd.V_slice h.sl.r2
 obtain ⟨A3, c3, rfl⟩ := Kd.V_slice h.sl.r3
 have HC := Aside0.mk h
 have HOK := Aside0.mk hb
 have HS11 : Aside0 (w.cell? ⟨g, 11, none⟩ = some (.string b.f0)) := ⟨(blk_cell h.blk 11).trans rfl⟩
 have HS12 : Aside0 (w.cell? ⟨g, 12, none⟩ = some (.int .i64 b.f1)) := ⟨(blk_cell h.blk 12).trans rfl⟩
 have HS13 : Aside0 (w.cell? ⟨g, 13, none⟩ = some (.slice A2 b.f2.length c2)) := ⟨(blk_cell h.blk 13).trans rfl⟩
 have HS14 : Aside0 (w.cell? ⟨g, 14, none⟩ = some (.slice A3 b.f3.length c3)) := ⟨(blk_cell h.blk 14).trans rfl⟩
 have HS15 : Aside0 (w.cell? ⟨g, 15, none⟩ = some (.int .u64 b.f4)) := ⟨(blk_cell h.blk 15).trans rfl⟩
 have HS2 : Aside0 (w.cell? ⟨g, 2, none⟩ = some (.string q.f2)) := ⟨(blk_cell h.blk 2).trans rfl⟩
 have HS9 : Aside0 (w.cell? ⟨g, 9, none⟩ = some (.int .i64 now)) := ⟨(blk_cell h.blk 9).trans rfl⟩
 clear h hb
 go_enter Tryz.func21, Tryz.ntmps21
 go_wp2_with fail
 refine start_ (n := 20) (S := fun w' => w'.cell? ⟨g, 11, none⟩ = some (.string b.f0) ∧ w'.cell? ⟨g, 12, none⟩ = some (.int .i64 b.f1) ∧ w'.cell? ⟨g, 13, none⟩ = some (.slice A2 b.f2.length c2) ∧ w'.cell? ⟨g, 14, none⟩ = some (.slice A3 b.f3.length c3) ∧ w'.cell? ⟨g, 15, none⟩ = some (.int .u64 b.f4) ∧ w'.cell? ⟨g, 2, none⟩ = some (.string q.f2) ∧ w'.cell? ⟨g, 9, none⟩ = some (.int .i64 now)) (ds := [19]) (bb 20 0) (by kernel_rfl) rfl rfl ⟨HS11.out, HS12.out, HS13.out, HS14.out, HS15.out, HS2.out, HS9.out⟩ (fun hHeld => ?_)
 refine pu 0 2 (h := pu 1 3 (h := pu 2 4 (h := pu 3 5 (h := pu 5 7 (h := pu 6 8 (h := pu 7 9 (h := pu 8 10 (h := pu 10 12 (h := pu 11 13 (h := pu 12 14 (h := pu 13 15 (h := ta 4 6 hHeld (h := ta 9 11 hHeld (h := ta 14 16 hHeld (h := on_ 15 17 (h := fun K hK => ?_))))))))))))))))
 refine goes_ Tryz.func61 (by kernel_rfl) rfl #[.agg #[.string b.f0, .int .i64 b.f1, .slice A2 b.f2.length c2, .slice A3 b.f3.length c3, .int .u64 b.f4], .string q.f2, .int .i64 now] (by rfl) rfl rfl (by simp only [List.map_toArray, List.map_cons, List.map_nil]; rfl) ?_
 refine (BkDel.del_any now w.drew (fun k => okg g k ∧ k < w.heap.size) b _ _ q.f2 (HC.out.sl.bound.below (below_drew (Below.refl w.heap.size w))) HOK.out).mono ?_
 rintro e3 w3 ⟨b3, u2, u3, id, er, rfl, hs3, hok3, hb3⟩
 obtain ⟨A5, c5, rfl⟩ := Kd.V_slice hs3.r2
 obtain ⟨A6, c6, rfl⟩ := Kd.V_slice hs3.r3
 refine ⟨_, rfl, ?_⟩
 have HOK3 := Aside0.mk hok3
 have HB3 := Aside0.mk (below_step (below_drew (Below.refl w.heap.size w)) hb3)
 have HC3 := Aside0.mk (HC.out.below HB3.out)
 have HSL3 := Aside0.mk (Clk.Sl.past hs3 (fun k hk => hk.1) HC.out.lt)
 clear hs3 hok3 hb3
 refine hK.out _ _ ⟨(pw_cell_below HB3.out HS11.out), (pw_cell_below HB3.out HS12.out), (pw_cell_below HB3.out HS13.out), (pw_cell_below HB3.out HS14.out), (pw_cell_below HB3.out HS15.out), (pw_cell_below HB3.out HS2.out), (pw_cell_below HB3.out HS9.out)⟩ (fun hHeld => ?_)
 clear hK K
 refine nm (h := pu 16 18 (h := pu 17 19 (h := pu 18 20 (h := la_ 19 21 (h := fun K hK => ?_)))))
 refine goes_ Tryz.func59 (by kernel_rfl) rfl #[.pointer (some ⟨g, 0, none⟩), .agg #[.string b3.f0, .int .i64 b3.f1, .slice A5 b3.f2.length c5, .slice A6 b3.f3.length c6, .int .u64 b3.f4], .int .u64 id, .int .i64 er] (by rfl) rfl rfl (by simp only [List.map_toArray, List.map_cons, List.map_nil]; rfl) ?_
 refine (gave_any w3 g q _ now _ l b _ _ ti tt 0 HC3.out b3 _ _ HSL3.out id er).mono ?_
 rintro e4 w4 ⟨rfl, hC4, hg4⟩
 refine ⟨_, rfl, ?_⟩
 have HC4 := Aside0.mk hC4
 have HG4 := Aside0.mk (grown_then (grown_of_below HB3.out (some g)) hg4 (.inr rfl))
 clear hC4 hg4
 refine hK.out _ _ ?_
 clear hK K
 refine nm (h := dn (h := ?_))
 go_wp2_with fail
 (first | go_end0 | ((try simp only [Exit.inBlock, Exit.then]); refine bodyPost_ret (results_none rfl _ _ _) rfl ?_))
 exact ⟨q, b3, _, _, _, _, _, ⟨rfl, HC4.out, HG4.out⟩, fun _ => HOK3.out⟩
set_option maxRecDepth 100000 in
set_option maxHeartbeats 3200000 in
theorem drop_any (w : World) (g : Nat) (q : Q) (vp : Value) (now : Int) (vl : Value) (l : List B) (b : B) (v2 v3 : Value) (ti : Int) (tt : ByteArray) (h : CAt w g q vp now vl l b v2 v3 ti tt 0) (hb : Ok now b) :
  Calls Tryz.prog 22 #[.pointer (some ⟨g, 0, none⟩)] w (Ones w g vp now vl l) := by
 obtain ⟨A2, c2, rfl⟩ := Kd.V_slice h.sl.r2
 obtain ⟨A3, c3, rfl⟩ := Kd.V_slice h.sl.r3
 have HC := Aside0.mk h
 have HOK := Aside0.mk hb
 have HS11 : Aside0 (w.cell? ⟨g, 11, none⟩ = some (.string b.f0)) := ⟨(blk_cell h.blk 11).trans rfl⟩
 have HS12 : Aside0 (w.cell? ⟨g, 12, none⟩ = some (.int .i64 b.f1)) := ⟨(blk_cell h.blk 12).trans rfl⟩
 have HS13 : Aside0 (w.cell? ⟨g, 13, none⟩ = some (.slice A2 b.f2.length c2)) := ⟨(blk_cell h.blk 13).trans rfl⟩
 have HS14 : Aside0 (w.cell? ⟨g, 14, none⟩ = some (.slice A3 b.f3.length c3)) := ⟨(blk_cell h.blk 14).trans rfl⟩
 have HS15 : Aside0 (w.cell? ⟨g, 15, none⟩ = some (.int .u64 b.f4)) := ⟨(blk_cell h.blk 15).trans rfl⟩
 have HS2 : Aside0 (w.cell? ⟨g, 2, none⟩ = some (.string q.f2)) := ⟨(blk_cell h.blk 2).trans rfl⟩
 have HS6 : Aside0 (w.cell? ⟨g, 6, none⟩ = some (.int .u64 q.f6)) := ⟨(blk_cell h.blk 6).trans rfl⟩
 clear h hb
 go_enter Tryz.func22, Tryz.ntmps22
 go_wp2_with fail
 refine start_ (n := 19) (S := fun w' => w'.cell? ⟨g, 11, none⟩ = some (.string b.f0) ∧ w'.cell? ⟨g, 12, none⟩ = some (.int .i64 b.f1) ∧ w'.cell? ⟨g, 13, none⟩ = some (.slice A2 b.f2.length c2) ∧ w'.cell? ⟨g, 14, none⟩ = some (.slice A3 b.f3.length c3) ∧ w'.cell? ⟨g, 15, none⟩ = some (.int .u64 b.f4) ∧ w'.cell? ⟨g, 2, none⟩ = some (.string q.f2) ∧ w'.cell? ⟨g, 6, none⟩ = some (.int .u64 q.f6)) (ds := [18]) (bb 19 0) (by kernel_rfl) rfl rfl ⟨HS11.out, HS12.out, HS13.out, HS14.out, HS15.out, HS2.out, HS6.out⟩ (fun hHeld => ?_)
 refine pu 0 2 (h := pu 1 3 (h := pu 2 4 (h := pu 3 5 (h := pu 5 7 (h := pu 6 8 (h := pu 7 9 (h := pu 8 10 (h := pu 10 12 (h := pu 11 13 (h := pu 12 14 (h := pu 13 15 (h := ta 4 6 hHeld (h := ta 9 11 hHeld (h := ta 14 16 hHeld (h := on_ 15 17 (h := fun K hK => ?_))))))))))))))))
 refine goes_ Tryz.func62 (by kernel_rfl) rfl #[.agg #[.string b.f0, .int .i64 b.f1, .slice A2 b.f2.length c2, .slice A3 b.f3.length c3, .int .u64 b.f4], .string q.f2, .int .u64 q.f6] (by rfl) rfl rfl (by simp only [List.map_toArray, List.map_cons, List.map_nil]; rfl) ?_
 refine (BkDrop.drop_any now w.drew (fun k => okg g k ∧ k < w.heap.size) b _ _ q.f2 q.f6 (HC.out.sl.bound.below (below_drew (Below.refl w.heap.size w))) HOK.out).mono ?_
 rintro e3 w3 ⟨b3, u2, u3, er, rfl, hs3, hok3, hb3⟩
 obtain ⟨A5, c5, rfl⟩ := Kd.V_slice hs3.r2
 obtain ⟨A6, c6, rfl⟩ := Kd.V_slice hs3.r3
 refine ⟨_, rfl, ?_⟩
 have HOK3 := Aside0.mk hok3
 have HB3 := Aside0.mk (below_step (below_drew (Below.refl w.heap.size w)) hb3)
 have HC3 := Aside0.mk (HC.out.below HB3.out)
 have HSL3 := Aside0.mk (Clk.Sl.past hs3 (fun k hk => hk.1) HC.out.lt)
 clear hs3 hok3 hb3
 refine hK.out _ _ ⟨(pw_cell_below HB3.out HS11.out), (pw_cell_below HB3.out HS12.out), (pw_cell_below HB3.out HS13.out), (pw_cell_below HB3.out HS14.out), (pw_cell_below HB3.out HS15.out), (pw_cell_below HB3.out HS2.out), (pw_cell_below HB3.out HS6.out)⟩ (fun hHeld => ?_)
 clear hK K
 refine nm (h := pu 16 18 (h := pu 17 19 (h := la_ 18 20 (h := fun K hK => ?_))))
 refine goes_ Tryz.func57 (by kernel_rfl) rfl #[.pointer (some ⟨g, 0, none⟩), .agg #[.string b3.f0, .int .i64 b3.f1, .slice A5 b3.f2.length c5, .slice A6 b3.f3.length c6, .int .u64 b3.f4], .int .i64 er] (by rfl) rfl rfl (by simp only [List.map_toArray, List.map_cons, List.map_nil]; rfl) ?_
 refine (took_any w3 g q _ now _ l b _ _ ti tt 0 HC3.out b3 _ _ HSL3.out er).mono ?_
 rintro e4 w4 ⟨rfl, hC4, hg4⟩
 refine ⟨_, rfl, ?_⟩
 have HC4 := Aside0.mk hC4
 have HG4 := Aside0.mk (grown_then (grown_of_below HB3.out (some g)) hg4 (.inr rfl))
 clear hC4 hg4
 refine hK.out _ _ ?_
 clear hK K
 refine nm (h := dn (h := ?_))
 go_wp2_with fail
 (first | go_end0 | ((try simp only [Exit.inBlock, Exit.then]); refine bodyPost_ret (results_none rfl _ _ _) rfl ?_))
 exact ⟨q, b3, _, _, _, _, _, ⟨rfl, HC4.out, HG4.out⟩, fun _ => HOK3.out⟩
set_option maxRecDepth 100000 in
set_option maxHeartbeats 3200000 in
theorem begin_any (w : World) (g : Nat) (q : Q) (vp : Value) (now : Int) (vl : Value) (l : List B) (b : B) (v2 v3 : Value) (ti : Int) (tt : ByteArray) (h : CAt w g q vp now vl l b v2 v3 ti tt 0) (hb : Ok now b) :
  Calls Tryz.prog 23 #[.pointer (some ⟨g, 0, none⟩)] w (Ones w g vp now vl l) := by
 obtain ⟨A2, c2, rfl⟩ := Kd.V_slice h.sl.r2
 obtain ⟨A3, c3, rfl⟩ := Kd.V_slice h.sl.r3
 have HC := Aside0.mk h
 have HOK := Aside0.mk hb
 have HS11 : Aside0 (w.cell? ⟨g, 11, none⟩ = some (.string b.f0)) := ⟨(blk_cell h.blk 11).trans rfl⟩
 have HS12 : Aside0 (w.cell? ⟨g, 12, none⟩ = some (.int .i64 b.f1)) := ⟨(blk_cell h.blk 12).trans rfl⟩
 have HS13 : Aside0 (w.cell? ⟨g, 13, none⟩ = some (.slice A2 b.f2.length c2)) := ⟨(blk_cell h.blk 13).trans rfl⟩
 have HS14 : Aside0 (w.cell? ⟨g, 14, none⟩ = some (.slice A3 b.f3.length c3)) := ⟨(blk_cell h.blk 14).trans rfl⟩
 have HS15 : Aside0 (w.cell? ⟨g, 15, none⟩ = some (.int .u64 b.f4)) := ⟨(blk_cell h.blk 15).trans rfl⟩
 have HS2 : Aside0 (w.cell? ⟨g, 2, none⟩ = some (.string q.f2)) := ⟨(blk_cell h.blk 2).trans rfl⟩
 clear h hb
 go_enter Tryz.func23, Tryz.ntmps23
 go_wp2_with fail
 refine start_ (n := 15) (S := fun w' => w'.cell? ⟨g, 11, none⟩ = some (.string b.f0) ∧ w'.cell? ⟨g, 12, none⟩ = some (.int .i64 b.f1) ∧ w'.cell? ⟨g, 13, none⟩ = some (.slice A2 b.f2.length c2) ∧ w'.cell? ⟨g, 14, none⟩ = some (.slice A3 b.f3.length c3) ∧ w'.cell? ⟨g, 15, none⟩ = some (.int .u64 b.f4) ∧ w'.cell? ⟨g, 2, none⟩ = some (.string q.f2)) (ds := [14]) (bb 15 0) (by kernel_rfl) rfl rfl ⟨HS11.out, HS12.out, HS13.out, HS14.out, HS15.out, HS2.out⟩ (fun hHeld => ?_)
 refine pu 0 2 (h := pu 1 3 (h := pu 2 4 (h := pu 3 5 (h := pu 5 7 (h := pu 6 8 (h := pu 7 9 (h := pu 8 10 (h := ta 4 6 hHeld (h := ta 9 11 hHeld (h := on_ 10 12 (h := fun K hK => ?_)))))))))))
 refine goes_ Tryz.func63 (by kernel_rfl) rfl #[.agg #[.string b.f0, .int .i64 b.f1, .slice A2 b.f2.length c2, .slice A3 b.f3.length c3, .int .u64 b.f4], .string q.f2] (by rfl) rfl rfl (by simp only [List.map_toArray, List.map_cons, List.map_nil]; rfl) ?_
 refine (BkUps.begin_any now w.drew (fun k => okg g k ∧ k < w.heap.size) b _ _ q.f2 (HC.out.sl.bound.below (below_drew (Below.refl w.heap.size w))) HOK.out).mono ?_
 rintro e3 w3 ⟨b3, u2, u3, id, er, rfl, hs3, hok3, hb3⟩
 obtain ⟨A5, c5, rfl⟩ := Kd.V_slice hs3.r2
 obtain ⟨A6, c6, rfl⟩ := Kd.V_slice hs3.r3
 refine ⟨_, rfl, ?_⟩
 have HOK3 := Aside0.mk hok3
 have HB3 := Aside0.mk (below_step (below_drew (Below.refl w.heap.size w)) hb3)
 have HC3 := Aside0.mk (HC.out.below HB3.out)
 have HSL3 := Aside0.mk (Clk.Sl.past hs3 (fun k hk => hk.1) HC.out.lt)
 clear hs3 hok3 hb3
 refine hK.out _ _ ⟨(pw_cell_below HB3.out HS11.out), (pw_cell_below HB3.out HS12.out), (pw_cell_below HB3.out HS13.out), (pw_cell_below HB3.out HS14.out), (pw_cell_below HB3.out HS15.out), (pw_cell_below HB3.out HS2.out)⟩ (fun hHeld => ?_)
 clear hK K
 refine nm (h := pu 11 13 (h := pu 12 14 (h := pu 13 15 (h := la_ 14 16 (h := fun K hK => ?_)))))
 refine goes_ Tryz.func59 (by kernel_rfl) rfl #[.pointer (some ⟨g, 0, none⟩), .agg #[.string b3.f0, .int .i64 b3.f1, .slice A5 b3.f2.length c5, .slice A6 b3.f3.length c6, .int .u64 b3.f4], .int .u64 id, .int .i64 er] (by rfl) rfl rfl (by simp only [List.map_toArray, List.map_cons, List.map_nil]; rfl) ?_
 refine (gave_any w3 g q _ now _ l b _ _ ti tt 0 HC3.out b3 _ _ HSL3.out id er).mono ?_
 rintro e4 w4 ⟨rfl, hC4, hg4⟩
 refine ⟨_, rfl, ?_⟩
 have HC4 := Aside0.mk hC4
 have HG4 := Aside0.mk (grown_then (grown_of_below HB3.out (some g)) hg4 (.inr rfl))
 clear hC4 hg4
 refine hK.out _ _ ?_
 clear hK K
 refine nm (h := dn (h := ?_))
 go_wp2_with fail
 (first | go_end0 | ((try simp only [Exit.inBlock, Exit.then]); refine bodyPost_ret (results_none rfl _ _ _) rfl ?_))
 exact ⟨q, b3, _, _, _, _, _, ⟨rfl, HC4.out, HG4.out⟩, fun _ => HOK3.out⟩
set_option maxRecDepth 100000 in
set_option maxHeartbeats 3200000 in
theorem abort_any (w : World) (g : Nat) (q : Q) (vp : Value) (now : Int) (vl : Value) (l : List B) (b : B) (v2 v3 : Value) (ti : Int) (tt : ByteArray) (h : CAt w g q vp now vl l b v2 v3 ti tt 0) (hb : Ok now b) :
  Calls Tryz.prog 25 #[.pointer (some ⟨g, 0, none⟩)] w (Ones w g vp now vl l) := by
 obtain ⟨A2, c2, rfl⟩ := Kd.V_slice h.sl.r2
 obtain ⟨A3, c3, rfl⟩ := Kd.V_slice h.sl.r3
 have HC := Aside0.mk h
 have HOK := Aside0.mk hb
 have HS11 : Aside0 (w.cell? ⟨g, 11, none⟩ = some (.string b.f0)) := ⟨(blk_cell h.blk 11).trans rfl⟩
 have HS12 : Aside0 (w.cell? ⟨g, 12, none⟩ = some (.int .i64 b.f1)) := ⟨(blk_cell h.blk 12).trans rfl⟩
 have HS13 : Aside0 (w.cell? ⟨g, 13, none⟩ = some (.slice A2 b.f2.length c2)) := ⟨(blk_cell h.blk 13).trans rfl⟩
 have HS14 : Aside0 (w.cell? ⟨g, 14, none⟩ = some (.slice A3 b.f3.length c3)) := ⟨(blk_cell h.blk 14).trans rfl⟩
 have HS15 : Aside0 (w.cell? ⟨g, 15, none⟩ = some (.int .u64 b.f4)) := ⟨(blk_cell h.blk 15).trans rfl⟩
 have HS6 : Aside0 (w.cell? ⟨g, 6, none⟩ = some (.int .u64 q.f6)) := ⟨(blk_cell h.blk 6).trans rfl⟩
 clear h hb
 go_enter Tryz.func25, Tryz.ntmps25
 go_wp2_with fail
 refine start_ (n := 14) (S := fun w' => w'.cell? ⟨g, 11, none⟩ = some (.string b.f0) ∧ w'.cell? ⟨g, 12, none⟩ = some (.int .i64 b.f1) ∧ w'.cell? ⟨g, 13, none⟩ = some (.slice A2 b.f2.length c2) ∧ w'.cell? ⟨g, 14, none⟩ = some (.slice A3 b.f3.length c3) ∧ w'.cell? ⟨g, 15, none⟩ = some (.int .u64 b.f4) ∧ w'.cell? ⟨g, 6, none⟩ = some (.int .u64 q.f6)) (ds := [13]) (bb 14 0) (by kernel_rfl) rfl rfl ⟨HS11.out, HS12.out, HS13.out, HS14.out, HS15.out, HS6.out⟩ (fun hHeld => ?_)
 refine pu 0 2 (h := pu 1 3 (h := pu 2 4 (h := pu 3 5 (h := pu 5 7 (h := pu 6 8 (h := pu 7 9 (h := pu 8 10 (h := ta 4 6 hHeld (h := ta 9 11 hHeld (h := on_ 10 12 (h := fun K hK => ?_)))))))))))
 refine goes_ Tryz.func65 (by kernel_rfl) rfl #[.agg #[.string b.f0, .int .i64 b.f1, .slice A2 b.f2.length c2, .slice A3 b.f3.length c3, .int .u64 b.f4], .int .u64 q.f6] (by rfl) rfl rfl (by simp only [List.map_toArray, List.map_cons, List.map_nil]; rfl) ?_
 refine (BkUps.abort_any now w.drew (fun k => okg g k ∧ k < w.heap.size) b _ _ q.f6 (HC.out.sl.bound.below (below_drew (Below.refl w.heap.size w))) HOK.out).mono ?_
 rintro e3 w3 ⟨b3, u2, u3, er, rfl, hs3, hok3, hb3⟩
 obtain ⟨A5, c5, rfl⟩ := Kd.V_slice hs3.r2
 obtain ⟨A6, c6, rfl⟩ := Kd.V_slice hs3.r3
 refine ⟨_, rfl, ?_⟩
 have HOK3 := Aside0.mk hok3
 have HB3 := Aside0.mk (below_step (below_drew (Below.refl w.heap.size w)) hb3)
 have HC3 := Aside0.mk (HC.out.below HB3.out)
 have HSL3 := Aside0.mk (Clk.Sl.past hs3 (fun k hk => hk.1) HC.out.lt)
 clear hs3 hok3 hb3
 refine hK.out _ _ ⟨(pw_cell_below HB3.out HS11.out), (pw_cell_below HB3.out HS12.out), (pw_cell_below HB3.out HS13.out), (pw_cell_below HB3.out HS14.out), (pw_cell_below HB3.out HS15.out), (pw_cell_below HB3.out HS6.out)⟩ (fun hHeld => ?_)
 clear hK K
 refine nm (h := pu 11 13 (h := pu 12 14 (h := la_ 13 15 (h := fun K hK => ?_))))
 refine goes_ Tryz.func57 (by kernel_rfl) rfl #[.pointer (some ⟨g, 0, none⟩), .agg #[.string b3.f0, .int .i64 b3.f1, .slice A5 b3.f2.length c5, .slice A6 b3.f3.length c6, .int .u64 b3.f4], .int .i64 er] (by rfl) rfl rfl (by simp only [List.map_toArray, List.map_cons, List.map_nil]; rfl) ?_
 refine (took_any w3 g q _ now _ l b _ _ ti tt 0 HC3.out b3 _ _ HSL3.out er).mono ?_
 rintro e4 w4 ⟨rfl, hC4, hg4⟩
 refine ⟨_, rfl, ?_⟩
 have HC4 := Aside0.mk hC4
 have HG4 := Aside0.mk (grown_then (grown_of_below HB3.out (some g)) hg4 (.inr rfl))
 clear hC4 hg4
 refine hK.out _ _ ?_
 clear hK K
 refine nm (h := dn (h := ?_))
 go_wp2_with fail
 (first | go_end0 | ((try simp only [Exit.inBlock, Exit.then]); refine bodyPost_ret (results_none rfl _ _ _) rfl ?_))
 exact ⟨q, b3, _, _, _, _, _, ⟨rfl, HC4.out, HG4.out⟩, fun _ => HOK3.out⟩
set_option maxRecDepth 100000 in
set_option maxHeartbeats 3200000 in
theorem put_any (w : World) (g : Nat) (q : Q) (vp : Value) (now : Int) (vl : Value) (l : List B) (b : B) (v2 v3 : Value) (ti : Int) (tt : ByteArray) (h : CAt w g q vp now vl l b v2 v3 ti tt 0) (hb : Ok now b) (hq : q.f3.size ≤ 9223372036854775807) :
  Calls Tryz.prog 20 #[.pointer (some ⟨g, 0, none⟩)] w (Ones w g vp now vl l) := by
 obtain ⟨A2, c2, rfl⟩ := Kd.V_slice h.sl.r2
 obtain ⟨A3, c3, rfl⟩ := Kd.V_slice h.sl.r3
 have HC := Aside0.mk h
 have HOK := Aside0.mk hb
 have HQ := Aside0.mk hq
 clear hq
 have HS11 : Aside0 (w.cell? ⟨g, 11, none⟩ = some (.string b.f0)) := ⟨(blk_cell h.blk 11).trans rfl⟩
 have HS12 : Aside0 (w.cell? ⟨g, 12, none⟩ = some (.int .i64 b.f1)) := ⟨(blk_cell h.blk 12).trans rfl⟩
 have HS13 : Aside0 (w.cell? ⟨g, 13, none⟩ = some (.slice A2 b.f2.length c2)) := ⟨(blk_cell h.blk 13).trans rfl⟩
 have HS14 : Aside0 (w.cell? ⟨g, 14, none⟩ = some (.slice A3 b.f3.length c3)) := ⟨(blk_cell h.blk 14).trans rfl⟩
 have HS15 : Aside0 (w.cell? ⟨g, 15, none⟩ = some (.int .u64 b.f4)) := ⟨(blk_cell h.blk 15).trans rfl⟩
 have HS2 : Aside0 (w.cell? ⟨g, 2, none⟩ = some (.string q.f2)) := ⟨(blk_cell h.blk 2).trans rfl⟩
 have HS3 : Aside0 (w.cell? ⟨g, 3, none⟩ = some (.string q.f3)) := ⟨(blk_cell h.blk 3).trans rfl⟩
 have HS9 : Aside0 (w.cell? ⟨g, 9, none⟩ = some (.int .i64 now)) := ⟨(blk_cell h.blk 9).trans rfl⟩
 clear h hb
 go_enter Tryz.func20, Tryz.ntmps20
 go_wp2_with fail
 refine start_ (n := 25) (S := fun w' => w'.cell? ⟨g, 11, none⟩ = some (.string b.f0) ∧ w'.cell? ⟨g, 12, none⟩ = some (.int .i64 b.f1) ∧ w'.cell? ⟨g, 13, none⟩ = some (.slice A2 b.f2.length c2) ∧ w'.cell? ⟨g, 14, none⟩ = some (.slice A3 b.f3.length c3) ∧ w'.cell? ⟨g, 15, none⟩ = some (.int .u64 b.f4) ∧ w'.cell? ⟨g, 2, none⟩ = some (.string q.f2) ∧ w'.cell? ⟨g, 3, none⟩ = some (.string q.f3) ∧ w'.cell? ⟨g, 9, none⟩ = some (.int .i64 now)) (ds := [24]) (bb 25 0) (by kernel_rfl) rfl rfl ⟨HS11.out, HS12.out, HS13.out, HS14.out, HS15.out, HS2.out, HS3.out, HS9.out⟩ (fun hHeld => ?_)
 refine pu 0 2 (h := pu 1 3 (h := pu 2 4 (h := pu 3 5 (h := pu 5 7 (h := pu 6 8 (h := pu 7 9 (h := pu 8 10 (h := pu 10 12 (h := pu 11 13 (h := pu 12 14 (h := pu 13 15 (h := pu 15 17 (h := pu 16 18 (h := pu 17 19 (h := pu 18 20 (h := ta 4 6 hHeld (h := ta 9 11 hHeld (h := ta 14 16 hHeld (h := ta 19 21 hHeld (h := on_ 20 22 (h := fun K hK => ?_)))))))))))))))))))))
 refine goes_ Tryz.func60 (by kernel_rfl) rfl #[.agg #[.string b.f0, .int .i64 b.f1, .slice A2 b.f2.length c2, .slice A3 b.f3.length c3, .int .u64 b.f4], .string q.f2, .string q.f3, .int .i64 now] (by rfl) rfl rfl (by simp only [List.map_toArray, List.map_cons, List.map_nil]; rfl) ?_
 refine (BkPut.put_any now w.drew (fun k => okg g k ∧ k < w.heap.size) b _ _ q.f2 q.f3 (HC.out.sl.bound.below (below_drew (Below.refl w.heap.size w))) HOK.out).mono ?_
 rintro e3 w3 ⟨b3, u2, u3, id, er, rfl, hs3, hok3, hb3⟩
 obtain ⟨A5, c5, rfl⟩ := Kd.V_slice hs3.r2
 obtain ⟨A6, c6, rfl⟩ := Kd.V_slice hs3.r3
 refine ⟨_, rfl, ?_⟩
 have HOK3 := Aside0.mk hok3
 have HB3 := Aside0.mk (below_step (below_drew (Below.refl w.heap.size w)) hb3)
 have HC3 := Aside0.mk (HC.out.below HB3.out)
 have HSL3 := Aside0.mk (Clk.Sl.past hs3 (fun k hk => hk.1) HC.out.lt)
 clear hs3 hok3 hb3
 refine hK.out _ _ ⟨(pw_cell_below HB3.out HS11.out), (pw_cell_below HB3.out HS12.out), (pw_cell_below HB3.out HS13.out), (pw_cell_below HB3.out HS14.out), (pw_cell_below HB3.out HS15.out), (pw_cell_below HB3.out HS2.out), (pw_cell_below HB3.out HS3.out), (pw_cell_below HB3.out HS9.out)⟩ (fun hHeld => ?_)
 clear hK K
 refine nm (h := pu 21 23 (h := pu 22 24 (h := pu 23 25 (h := la_ 24 26 (h := fun K hK => ?_)))))
 refine goes_ Tryz.func59 (by kernel_rfl) rfl #[.pointer (some ⟨g, 0, none⟩), .agg #[.string b3.f0, .int .i64 b3.f1, .slice A5 b3.f2.length c5, .slice A6 b3.f3.length c6, .int .u64 b3.f4], .int .u64 id, .int .i64 er] (by rfl) rfl rfl (by simp only [List.map_toArray, List.map_cons, List.map_nil]; rfl) ?_
 refine (gave_any w3 g q _ now _ l b _ _ ti tt 0 HC3.out b3 _ _ HSL3.out id er).mono ?_
 rintro e4 w4 ⟨rfl, hC4, hg4⟩
 refine ⟨_, rfl, ?_⟩
 have HC4 := Aside0.mk hC4
 have HG4 := Aside0.mk (grown_then (grown_of_below HB3.out (some g)) hg4 (.inr rfl))
 clear hC4 hg4
 refine hK.out _ _ ?_
 clear hK K
 refine nm (h := dn (h := ?_))
 have hz := fun j => blk_cell HC4.out.blk j
 go_wp2_with fail
 refine (TagOf.of_any q.f3 _ HQ.out).mono ?_
 rintro en w5 ⟨rfl, hb5⟩
 have HB5 := Aside0.mk hb5
 clear hz hb5
 go_wp2_with fail
 refine (TagOf.text_any _ _ (TagOf.tag_bd q.f3).1 (TagOf.tag_bd q.f3).2).mono ?_
 rintro en w6 ⟨rfl, hb6⟩
 have HC6 := Aside0.mk ((HC4.out.below HB5.out).below hb6)
 have HG6 := Aside0.mk (grown_then HG4.out (grown_of_below (below_step HB5.out hb6) (some g)) (.inr rfl))
 have hz := fun j => blk_cell HC6.out.blk j
 have hf := fun j => blk_frozen HC6.out.blk j
 clear hb6
 go_wp2_with fail
 (first | go_end0 | ((try simp only [Exit.inBlock, Exit.then]); refine bodyPost_ret (results_none rfl _ _ _) rfl ?_))
 exact ⟨q, b3, _, _, _, _, _, ⟨rfl, HC6.out.setT _, grown_then HG6.out (grown_set _ g 17 _) (.inr rfl)⟩, fun _ => HOK3.out⟩
end Go.Proofs.YtpccbmechgkogaaGreatDoor.ClkOne
