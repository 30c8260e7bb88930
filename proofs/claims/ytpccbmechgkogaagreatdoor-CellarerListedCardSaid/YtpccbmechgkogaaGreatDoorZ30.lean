/-
  Lemmas: ClkVer.
-/
import Derived.Test.YtpccbmechgkogaaGreatDoorProg
import Derived.Test.YtpccbmechgkogaaGreatDoorV0
import Derived.Test.YtpccbmechgkogaaGreatDoorZ01
import Derived.Test.YtpccbmechgkogaaGreatDoorZ02
import Derived.Test.YtpccbmechgkogaaGreatDoorZ04
import Derived.Test.YtpccbmechgkogaaGreatDoorZ05
import Derived.Test.YtpccbmechgkogaaGreatDoorZ06
import Derived.Test.YtpccbmechgkogaaGreatDoorZ07
import Derived.Test.YtpccbmechgkogaaGreatDoorZ08
import Derived.Test.YtpccbmechgkogaaGreatDoorZ10
import Derived.Test.YtpccbmechgkogaaGreatDoorZ11
import Derived.Test.YtpccbmechgkogaaGreatDoorZ15
import Derived.Test.YtpccbmechgkogaaGreatDoorZ16
import Derived.Test.YtpccbmechgkogaaGreatDoorZ17
import Derived.Test.YtpccbmechgkogaaGreatDoorZ18
import Derived.Test.YtpccbmechgkogaaGreatDoorZ19
import Derived.Test.YtpccbmechgkogaaGreatDoorZ20
import Derived.Test.YtpccbmechgkogaaGreatDoorZ21
import Derived.Test.YtpccbmechgkogaaGreatDoorZ22
import Derived.Test.YtpccbmechgkogaaGreatDoorZ28
import Derived.Test.YtpccbmechgkogaaGreatDoorZ29
set_option linter.unusedVariables false
set_option linter.unusedSimpArgs false
namespace Go.Proofs.YtpccbmechgkogaaGreatDoor.ClkVer
open Go.RowKit Go.Proofs.YtpccbmechgkogaaGreatDoor.P Go.Proofs.YtpccbmechgkogaaGreatDoorW.PrintWords Go.Proofs.YtpccbmechgkogaaGreatDoorW.PrintLast Go.Proofs.YtpccbmechgkogaaGreatDoorW.PrintMore Go.Proofs.YtpccbmechgkogaaGreatDoor.PureKit Go.Proofs.YtpccbmechgkogaaGreatDoor.BkSpec Go.Proofs.YtpccbmechgkogaaGreatDoor.Wk Go.Proofs.YtpccbmechgkogaaGreatDoor.Close Go.Proofs.YtpccbmechgkogaaGreatDoor.BkOk Go.Proofs.YtpccbmechgkogaaGreatDoor.DpChk Go.Proofs.YtpccbmechgkogaaGreatDoor.DpFind Go.Proofs.YtpccbmechgkogaaGreatDoor.BkUps Go.Proofs.YtpccbmechgkogaaGreatDoor.PtLack Go.Proofs.YtpccbmechgkogaaGreatDoor.Clk Go.Proofs.YtpccbmechgkogaaGreatDoor.ClkOne Go.Proofs.YtpccbmechgkogaaGreatDoor.BkGet Go.Proofs.YtpccbmechgkogaaGreatDoor.IdxPut Go.Proofs.YtpccbmechgkogaaGreatDoor.ChAt
abbrev tP1 : Nat := 69
def getP (b : B) (key : ByteArray) : V × Int := if Name.keyB key = true then ChSpec.getF (getL b.f2 key) else (ChSpec.zV, 1)
def findP (b : B) (key : ByteArray) (id : Int) : V × Int := if Name.keyB key = true then ChSpec.findF (getL b.f2 key) id else (ChSpec.zV, 1)
def versP (q : Q) (b : B) : V × Int := if q.f6 = 0 then getP b q.f2 else findP b q.f2 q.f6
set_option maxRecDepth 100000 in
set_option maxHeartbeats 3200000 in
theorem v1_any (w : World) (g b0 : Nat) (q : Q) (vp : Value) (now : Int) (vl : Value) (l : List B) (b : B) (v2 v3 : Value) (ti : Int) (tt : ByteArray) (e : Int) (h : CAt w g q vp now vl l b v2 v3 ti tt e) (hb : Ok now b) (h0 : w.heap[b0]? = some (.cells #[.pointer (some ⟨g, 0, none⟩)] tP1 (0, 0))) :
  Calls Tryz.prog 84 #[.pointer (some ⟨b0, 0, none⟩)] w (ChAt.One (getP b q.f2) w) := by
 obtain ⟨A2, c2, rfl⟩ := Kd.V_slice h.sl.r2
 obtain ⟨A3, c3, rfl⟩ := Kd.V_slice h.sl.r3
 have hu := Tryz.underlying40
 have huv := Tryz.underlying63
 have CG : Aside0 (∀ W, Below w.heap.size w W → Calls Tryz.prog 85 #[.agg #[.string b.f0, .int .i64 b.f1, .slice A2 b.f2.length c2, .slice A3 b.f3.length c3, .int .u64 b.f4], .string q.f2] W (ChAt.One (getP b q.f2) W)) := ⟨fun W hW => BkGet.get_any now W _ b _ _ q.f2 (h.sl.below hW) hb⟩
 obtain ⟨⟨x, er⟩, hp⟩ : ∃ p, getP b q.f2 = p := ⟨_, rfl⟩
 rw [hp] at CG ⊢
 unfold ChAt.One aggV at CG ⊢
 clear hp
 have HSB : Aside0 ((w.alloc (.cells #[.int .u64 0, .string ⟨#[]⟩, .bool false, .int .i64 0] tV)).cell? ⟨b0, 0, none⟩ = some (.pointer (some ⟨g, 0, none⟩))) := ⟨(blk_cell (blk_alloc h0 (.cells #[.int .u64 0, .string ⟨#[]⟩, .bool false, .int .i64 0] tV)) 0).trans rfl⟩
 have HS11 : Aside0 ((w.alloc (.cells #[.int .u64 0, .string ⟨#[]⟩, .bool false, .int .i64 0] tV)).cell? ⟨g, 11, none⟩ = some (.string b.f0)) := ⟨(blk_cell (blk_alloc h.blk (.cells #[.int .u64 0, .string ⟨#[]⟩, .bool false, .int .i64 0] tV)) 11).trans rfl⟩
 have HS12 : Aside0 ((w.alloc (.cells #[.int .u64 0, .string ⟨#[]⟩, .bool false, .int .i64 0] tV)).cell? ⟨g, 12, none⟩ = some (.int .i64 b.f1)) := ⟨(blk_cell (blk_alloc h.blk (.cells #[.int .u64 0, .string ⟨#[]⟩, .bool false, .int .i64 0] tV)) 12).trans rfl⟩
 have HS13 : Aside0 ((w.alloc (.cells #[.int .u64 0, .string ⟨#[]⟩, .bool false, .int .i64 0] tV)).cell? ⟨g, 13, none⟩ = some (.slice A2 b.f2.length c2)) := ⟨(blk_cell (blk_alloc h.blk (.cells #[.int .u64 0, .string ⟨#[]⟩, .bool false, .int .i64 0] tV)) 13).trans rfl⟩
 have HS14 : Aside0 ((w.alloc (.cells #[.int .u64 0, .string ⟨#[]⟩, .bool false, .int .i64 0] tV)).cell? ⟨g, 14, none⟩ = some (.slice A3 b.f3.length c3)) := ⟨(blk_cell (blk_alloc h.blk (.cells #[.int .u64 0, .string ⟨#[]⟩, .bool false, .int .i64 0] tV)) 14).trans rfl⟩
 have HS15 : Aside0 ((w.alloc (.cells #[.int .u64 0, .string ⟨#[]⟩, .bool false, .int .i64 0] tV)).cell? ⟨g, 15, none⟩ = some (.int .u64 b.f4)) := ⟨(blk_cell (blk_alloc h.blk (.cells #[.int .u64 0, .string ⟨#[]⟩, .bool false, .int .i64 0] tV)) 15).trans rfl⟩
 have HS2 : Aside0 ((w.alloc (.cells #[.int .u64 0, .string ⟨#[]⟩, .bool false, .int .i64 0] tV)).cell? ⟨g, 2, none⟩ = some (.string q.f2)) := ⟨(blk_cell (blk_alloc h.blk (.cells #[.int .u64 0, .string ⟨#[]⟩, .bool false, .int .i64 0] tV)) 2).trans rfl⟩
 clear h hb h0
 go_enter Tryz.func84, Tryz.ntmps84
 go_wp2_with fail
 refine start_ (n := 14) (S := fun w' => w'.cell? ⟨b0, 0, none⟩ = some (.pointer (some ⟨g, 0, none⟩)) ∧ w'.cell? ⟨g, 11, none⟩ = some (.string b.f0) ∧ w'.cell? ⟨g, 12, none⟩ = some (.int .i64 b.f1) ∧ w'.cell? ⟨g, 13, none⟩ = some (.slice A2 b.f2.length c2) ∧ w'.cell? ⟨g, 14, none⟩ = some (.slice A3 b.f3.length c3) ∧ w'.cell? ⟨g, 15, none⟩ = some (.int .u64 b.f4) ∧ w'.cell? ⟨g, 2, none⟩ = some (.string q.f2)) (ds := [12]) (bb 14 0) (by kernel_rfl) rfl rfl ⟨HSB.out, HS11.out, HS12.out, HS13.out, HS14.out, HS15.out, HS2.out⟩ (fun hHeld => ?_)
 refine ta 0 3 hHeld (h := pu 1 4 (h := pu 2 5 (h := ta 3 6 hHeld (h := ta 4 7 hHeld (h := pu 5 8 (h := pu 6 9 (h := pu 7 10 (h := ta 8 11 hHeld (h := on_ 9 12 (h := fun K hK => ?_))))))))))
 refine goes_ Tryz.func85 (by kernel_rfl) rfl #[.agg #[.string b.f0, .int .i64 b.f1, .slice A2 b.f2.length c2, .slice A3 b.f3.length c3, .int .u64 b.f4], .string q.f2] (by rfl) rfl rfl (by simp only [List.map_toArray, List.map_cons, List.map_nil]; rfl) ?_
 refine (CG.out (w.alloc (.cells #[.int .u64 0, .string ⟨#[]⟩, .bool false, .int .i64 0] tV)).drew (below_drew (below_alloc (Below.refl w.heap.size w) (.cells #[.int .u64 0, .string ⟨#[]⟩, .bool false, .int .i64 0] tV)))).mono ?_
 rintro e3 w7 ⟨rfl, hb7⟩
 refine ⟨_, rfl, ?_⟩
 have HB7 := Aside0.mk (below_step (below_drew (Below.refl (w.alloc (.cells #[.int .u64 0, .string ⟨#[]⟩, .bool false, .int .i64 0] tV)).heap.size (w.alloc (.cells #[.int .u64 0, .string ⟨#[]⟩, .bool false, .int .i64 0] tV)))) hb7)
 have bZ := blk_below (blk_new w (.cells #[.int .u64 0, .string ⟨#[]⟩, .bool false, .int .i64 0] tV)) HB7.out
 have HZ7 := Aside0.mk bZ
 have zq := fun j => blk_cell bZ j
 have zf := fun j => blk_frozen bZ j
 clear hb7 bZ
 refine hK.out _ _ ⟨(pw_cell_below HB7.out HSB.out), (pw_cell_below HB7.out HS11.out), (pw_cell_below HB7.out HS12.out), (pw_cell_below HB7.out HS13.out), (pw_cell_below HB7.out HS14.out), (pw_cell_below HB7.out HS15.out), (pw_cell_below HB7.out HS2.out)⟩ (fun hHeld => ?_)
 clear hK K
 refine nm (h := pu 10 13 (h := pu 11 14 (h := ln_ 12 (h := fun K hK => ?_))))
 refine skip_ (w1 := ?_) (by rfl) rfl ?_ ?_
 rotate_left
 ·go_simp
  rfl
 refine hK.out _ _ ?_
 clear hK K
 refine pu 13 2 (h := dn (h := ?_))
 (try clear hHeld)
 clear zq zf
 go_wp2
 have gS := set4_grown w7 w.heap.size (.int .u64 x.f0) (.string x.f1) (.bool x.f2) (.int .i64 x.f3)
 have z := fun j => blk_cell (set4_blk HZ7.out (.int .u64 x.f0) (.string x.f1) (.bool x.f2) (.int .i64 x.f3)) j
 refine bodyPost_ret (v := .tuple #[.agg #[.int .u64 x.f0, .string x.f1, .bool x.f2, .int .i64 x.f3], .int .i64 er]) (by simp [results, Tryz.results84, go_sem, z]) rfl ?_
 have hB := below_step (below_alloc (Below.refl w.heap.size w) (.cells #[.int .u64 0, .string ⟨#[]⟩, .bool false, .int .i64 0] tV)) HB7.out
 exact ⟨rfl, hB.grown gS hB.size (fun k e => by cases e; omega)⟩
set_option maxRecDepth 100000 in
set_option maxHeartbeats 3200000 in
theorem v2_any (w : World) (g b0 : Nat) (q : Q) (vp : Value) (now : Int) (vl : Value) (l : List B) (b : B) (v2 v3 : Value) (ti : Int) (tt : ByteArray) (e : Int) (h : CAt w g q vp now vl l b v2 v3 ti tt e) (hb : Ok now b) (h0 : w.heap[b0]? = some (.cells #[.pointer (some ⟨g, 0, none⟩)] tP1 (0, 0))) :
  Calls Tryz.prog 86 #[.pointer (some ⟨b0, 0, none⟩)] w (ChAt.One (findP b q.f2 q.f6) w) := by
 obtain ⟨A2, c2, rfl⟩ := Kd.V_slice h.sl.r2
 obtain ⟨A3, c3, rfl⟩ := Kd.V_slice h.sl.r3
 have hu := Tryz.underlying40
 have huv := Tryz.underlying63
 have CG : Aside0 (∀ W, Below w.heap.size w W → Calls Tryz.prog 87 #[.agg #[.string b.f0, .int .i64 b.f1, .slice A2 b.f2.length c2, .slice A3 b.f3.length c3, .int .u64 b.f4], .string q.f2, .int .u64 q.f6] W (ChAt.One (findP b q.f2 q.f6) W)) := ⟨fun W hW => BkGet.find_any now W _ b _ _ q.f2 q.f6 (h.sl.below hW) hb⟩
 obtain ⟨⟨x, er⟩, hp⟩ : ∃ p, findP b q.f2 q.f6 = p := ⟨_, rfl⟩
 rw [hp] at CG ⊢
 unfold ChAt.One aggV at CG ⊢
 clear hp
 have HSB : Aside0 ((w.alloc (.cells #[.int .u64 0, .string ⟨#[]⟩, .bool false, .int .i64 0] tV)).cell? ⟨b0, 0, none⟩ = some (.pointer (some ⟨g, 0, none⟩))) := ⟨(blk_cell (blk_alloc h0 (.cells #[.int .u64 0, .string ⟨#[]⟩, .bool false, .int .i64 0] tV)) 0).trans rfl⟩
 have HS11 : Aside0 ((w.alloc (.cells #[.int .u64 0, .string ⟨#[]⟩, .bool false, .int .i64 0] tV)).cell? ⟨g, 11, none⟩ = some (.string b.f0)) := ⟨(blk_cell (blk_alloc h.blk (.cells #[.int .u64 0, .string ⟨#[]⟩, .bool false, .int .i64 0] tV)) 11).trans rfl⟩
 have HS12 : Aside0 ((w.alloc (.cells #[.int .u64 0, .string ⟨#[]⟩, .bool false, .int .i64 0] tV)).cell? ⟨g, 12, none⟩ = some (.int .i64 b.f1)) := ⟨(blk_cell (blk_alloc h.blk (.cells #[.int .u64 0, .string ⟨#[]⟩, .bool false, .int .i64 0] tV)) 12).trans rfl⟩
 have HS13 : Aside0 ((w.alloc (.cells #[.int .u64 0, .string ⟨#[]⟩, .bool false, .int .i64 0] tV)).cell? ⟨g, 13, none⟩ = some (.slice A2 b.f2.length c2)) := ⟨(blk_cell (blk_alloc h.blk (.cells #[.int .u64 0, .string ⟨#[]⟩, .bool false, .int .i64 0] tV)) 13).trans rfl⟩
 have HS14 : Aside0 ((w.alloc (.cells #[.int .u64 0, .string ⟨#[]⟩, .bool false, .int .i64 0] tV)).cell? ⟨g, 14, none⟩ = some (.slice A3 b.f3.length c3)) := ⟨(blk_cell (blk_alloc h.blk (.cells #[.int .u64 0, .string ⟨#[]⟩, .bool false, .int .i64 0] tV)) 14).trans rfl⟩
 have HS15 : Aside0 ((w.alloc (.cells #[.int .u64 0, .string ⟨#[]⟩, .bool false, .int .i64 0] tV)).cell? ⟨g, 15, none⟩ = some (.int .u64 b.f4)) := ⟨(blk_cell (blk_alloc h.blk (.cells #[.int .u64 0, .string ⟨#[]⟩, .bool false, .int .i64 0] tV)) 15).trans rfl⟩
 have HS2 : Aside0 ((w.alloc (.cells #[.int .u64 0, .string ⟨#[]⟩, .bool false, .int .i64 0] tV)).cell? ⟨g, 2, none⟩ = some (.string q.f2)) := ⟨(blk_cell (blk_alloc h.blk (.cells #[.int .u64 0, .string ⟨#[]⟩, .bool false, .int .i64 0] tV)) 2).trans rfl⟩
 have HS6 : Aside0 ((w.alloc (.cells #[.int .u64 0, .string ⟨#[]⟩, .bool false, .int .i64 0] tV)).cell? ⟨g, 6, none⟩ = some (.int .u64 q.f6)) := ⟨(blk_cell (blk_alloc h.blk (.cells #[.int .u64 0, .string ⟨#[]⟩, .bool false, .int .i64 0] tV)) 6).trans rfl⟩
 clear h hb h0
 go_enter Tryz.func86, Tryz.ntmps86
 go_wp2_with fail
 refine start_ (n := 19) (S := fun w' => w'.cell? ⟨b0, 0, none⟩ = some (.pointer (some ⟨g, 0, none⟩)) ∧ w'.cell? ⟨g, 11, none⟩ = some (.string b.f0) ∧ w'.cell? ⟨g, 12, none⟩ = some (.int .i64 b.f1) ∧ w'.cell? ⟨g, 13, none⟩ = some (.slice A2 b.f2.length c2) ∧ w'.cell? ⟨g, 14, none⟩ = some (.slice A3 b.f3.length c3) ∧ w'.cell? ⟨g, 15, none⟩ = some (.int .u64 b.f4) ∧ w'.cell? ⟨g, 2, none⟩ = some (.string q.f2) ∧ w'.cell? ⟨g, 6, none⟩ = some (.int .u64 q.f6)) (ds := [17]) (bb 19 0) (by kernel_rfl) rfl rfl ⟨HSB.out, HS11.out, HS12.out, HS13.out, HS14.out, HS15.out, HS2.out, HS6.out⟩ (fun hHeld => ?_)
 refine ta 0 3 hHeld (h := pu 1 4 (h := pu 2 5 (h := ta 3 6 hHeld (h := ta 4 7 hHeld (h := pu 5 8 (h := pu 6 9 (h := pu 7 10 (h := ta 8 11 hHeld (h := ta 9 12 hHeld (h := pu 10 13 (h := pu 11 14 (h := pu 12 15 (h := ta 13 16 hHeld (h := on_ 14 17 (h := fun K hK => ?_)))))))))))))))
 refine goes_ Tryz.func87 (by kernel_rfl) rfl #[.agg #[.string b.f0, .int .i64 b.f1, .slice A2 b.f2.length c2, .slice A3 b.f3.length c3, .int .u64 b.f4], .string q.f2, .int .u64 q.f6] (by rfl) rfl rfl (by simp only [List.map_toArray, List.map_cons, List.map_nil]; rfl) ?_
 refine (CG.out (w.alloc (.cells #[.int .u64 0, .string ⟨#[]⟩, .bool false, .int .i64 0] tV)).drew (below_drew (below_alloc (Below.refl w.heap.size w) (.cells #[.int .u64 0, .string ⟨#[]⟩, .bool false, .int .i64 0] tV)))).mono ?_
 rintro e3 w7 ⟨rfl, hb7⟩
 refine ⟨_, rfl, ?_⟩
 have HB7 := Aside0.mk (below_step (below_drew (Below.refl (w.alloc (.cells #[.int .u64 0, .string ⟨#[]⟩, .bool false, .int .i64 0] tV)).heap.size (w.alloc (.cells #[.int .u64 0, .string ⟨#[]⟩, .bool false, .int .i64 0] tV)))) hb7)
 have bZ := blk_below (blk_new w (.cells #[.int .u64 0, .string ⟨#[]⟩, .bool false, .int .i64 0] tV)) HB7.out
 have HZ7 := Aside0.mk bZ
 have zq := fun j => blk_cell bZ j
 have zf := fun j => blk_frozen bZ j
 clear hb7 bZ
 refine hK.out _ _ ⟨(pw_cell_below HB7.out HSB.out), (pw_cell_below HB7.out HS11.out), (pw_cell_below HB7.out HS12.out), (pw_cell_below HB7.out HS13.out), (pw_cell_below HB7.out HS14.out), (pw_cell_below HB7.out HS15.out), (pw_cell_below HB7.out HS2.out), (pw_cell_below HB7.out HS6.out)⟩ (fun hHeld => ?_)
 clear hK K
 refine nm (h := pu 15 18 (h := pu 16 19 (h := ln_ 17 (h := fun K hK => ?_))))
 refine skip_ (w1 := ?_) (by rfl) rfl ?_ ?_
 rotate_left
 ·go_simp
  rfl
 refine hK.out _ _ ?_
 clear hK K
 refine pu 18 2 (h := dn (h := ?_))
 (try clear hHeld)
 clear zq zf
 go_wp2
 have gS := set4_grown w7 w.heap.size (.int .u64 x.f0) (.string x.f1) (.bool x.f2) (.int .i64 x.f3)
 have z := fun j => blk_cell (set4_blk HZ7.out (.int .u64 x.f0) (.string x.f1) (.bool x.f2) (.int .i64 x.f3)) j
 refine bodyPost_ret (v := .tuple #[.agg #[.int .u64 x.f0, .string x.f1, .bool x.f2, .int .i64 x.f3], .int .i64 er]) (by simp [results, Tryz.results86, go_sem, z]) rfl ?_
 have hB := below_step (below_alloc (Below.refl w.heap.size w) (.cells #[.int .u64 0, .string ⟨#[]⟩, .bool false, .int .i64 0] tV)) HB7.out
 exact ⟨rfl, hB.grown gS hB.size (fun k e => by cases e; omega)⟩
def Versed (w : World) (g : Nat) (q : Q) (vp : Value) (now : Int) (vl : Value) (l : List B) (b : B) (v2 v3 : Value) (ti : Int) (tt : ByteArray) (e : Int) (p : V × Int) (en : Ending) (w' : World) : Prop :=
 en = .returned (aggV p.1) ∧ CAt w' g q vp now vl l b v2 v3 ti tt (upE e p.2) ∧ w.grownBy w' (some g)
set_option maxRecDepth 100000 in
set_option maxHeartbeats 3200000 in
theorem version_any (w : World) (g : Nat) (q : Q) (vp : Value) (now : Int) (vl : Value) (l : List B) (b : B) (v2 v3 : Value) (ti : Int) (tt : ByteArray) (e : Int) (h : CAt w g q vp now vl l b v2 v3 ti tt e) (hb : Ok now b) :
  Calls Tryz.prog 42 #[.pointer (some ⟨g, 0, none⟩)] w (Versed w g q vp now vl l b v2 v3 ti tt e (versP q b)) := by
 have hmf : ∀ (fn : Fn) (first cap : Array Value) (w : World), (Instr.makeFunc fn first cap).run Tryz.prog w = .ok (.func fn first cap) w := fun _ _ _ _ => rfl
 have huv := Tryz.underlying63
 have hup : Tryz.prog.underlying tP1 = _ := Tryz.underlying69
 have e1 : ∀ args w, (callFunc 84 args).run Tryz.prog w = .ok (.enter 84 args) w := fun _ _ => by rfl
 have e2 : ∀ args w, (callFunc 86 args).run Tryz.prog w = .ok (.enter 86 args) w := fun _ _ => by rfl
 have HOK := Aside0.mk hb
 have H := Aside0.mk h
 have HB0 := Aside0.mk (below_alloc (below_alloc (Below.refl w.heap.size w) (.cells #[.pointer (some ⟨g, 0, none⟩)] tP1)) (.cells #[.int .u64 0, .string ⟨#[]⟩, .bool false, .int .i64 0] tV))
 have K0 := Aside0.mk (BkTurn.blk2a w (.cells #[.pointer (some ⟨g, 0, none⟩)] tP1) (.cells #[.int .u64 0, .string ⟨#[]⟩, .bool false, .int .i64 0] tV))
 have KZ := Aside0.mk (blk_push w (.cells #[.pointer (some ⟨g, 0, none⟩)] tP1) (.cells #[.int .u64 0, .string ⟨#[]⟩, .bool false, .int .i64 0] tV))
 have H1 := Aside0.mk (h.below HB0.out)
 have hz := fun j => blk_cell H1.out.blk j
 have hz0 := fun j => blk_cell K0.out j
 obtain ⟨p, hp⟩ : ∃ p, versP q b = p := ⟨_, rfl⟩
 rw [hp]
 clear h hb
 by_cases h6 : q.f6 = 0
 case' pos =>
  have d1 : (q.f6 != 0) = false := bne_eq_false_iff_eq.mpr h6
  have C1 := Aside0.mk (v1_any _ g w.heap.size q vp now vl l b v2 v3 ti tt e H1.out HOK.out K0.out)
  have hpp : getP b q.f2 = p := by rw [← hp]; unfold versP; rw [if_pos h6]
 case' neg =>
  have d1 : (q.f6 != 0) = true := bne_iff_ne.mpr h6
  have C1 := Aside0.mk (v2_any _ g w.heap.size q vp now vl l b v2 v3 ti tt e H1.out HOK.out K0.out)
  have hpp : findP b q.f2 q.f6 = p := by rw [← hp]; unfold versP; rw [if_neg h6]
 all_goals
  rw [hpp] at C1
  clear hpp hp h6
  obtain ⟨x, er⟩ := p
  unfold ChAt.One aggV at C1
  unfold Versed aggV
  go_enter Tryz.func42, Tryz.ntmps42
  go_wp2_with fail
  refine C1.out.mono ?_
  rintro en w2 ⟨rfl, hb2⟩
  have hba := below_alloc hb2 (.cells #[.int .u64 x.f0, .string x.f1, .bool x.f2, .int .i64 x.f3] tV)
  have H2 := Aside0.mk (H1.out.below hba)
  have HG2 := Aside0.mk (grown_of_below (below_step HB0.out hba) (some g))
  have K2 := Aside0.mk (blk_below K0.out hba)
  have KZ2 := Aside0.mk (blk_below KZ.out hba)
  have KV2 := Aside0.mk (blk_new w2 (.cells #[.int .u64 x.f0, .string x.f1, .bool x.f2, .int .i64 x.f3] tV))
  have HN2 : Aside0 (w.heap.size + 1 < w2.heap.size) := ⟨by have := blk_lt KZ.out; exact Nat.lt_of_lt_of_le this hb2.size⟩
  clear hz hz0 hb2 hba d1 C1
  have hz0 := fun j => blk_cell K2.out j
  go_wp2_with fail
  refine (no_any _ g q vp now vl l b _ _ ti tt e H2.out er).mono ?_
  rintro en w3 ⟨rfl, hC3, hg3⟩
  have hlt := H.out.lt
  have HC3 := Aside0.mk hC3
  have HG3 := Aside0.mk (grown_then HG2.out hg3 (.inr rfl))
  have KZ3 := Aside0.mk (grown_blk hg3 KZ2.out (by omega))
  have KV3 := Aside0.mk (grown_blk hg3 KV2.out (by have := HN2.out; omega))
  have hzv := fun j => blk_cell KV3.out j
  have hzz := fun j => blk_cell KZ3.out j
  have hzf := fun j => blk_frozen KZ3.out j
  have HLT := Aside0.mk hlt
  clear hC3 hg3 hlt hz0
  go_wp2
  have gS := set4_grown w3 (w.heap.size + 1) (.int .u64 x.f0) (.string x.f1) (.bool x.f2) (.int .i64 x.f3)
  have z := fun j => blk_cell (set4_blk KZ3.out (.int .u64 x.f0) (.string x.f1) (.bool x.f2) (.int .i64 x.f3)) j
  refine bodyPost_ret (v := .agg #[.int .u64 x.f0, .string x.f1, .bool x.f2, .int .i64 x.f3]) (by simp [results, Tryz.results42, go_sem, z]) rfl ?_
  have hlt := HLT.out
  have hsz := blk_lt KZ3.out
  have hG := grown_then HG3.out gS (.inl (by omega))
  exact ⟨rfl, ⟨grown_blk gS HC3.out.blk (by omega), H.out.rpG hG, H.out.rlG hG, H.out.slG hG⟩, hG⟩
theorem chain_size {l : List V} (h : ChSpec.chainB l = true) : ∀ v ∈ l, v.f1.size ≤ 2000 := fun v hv => by
 unfold ChSpec.chainB at h
 simp only [Bool.and_eq_true, List.all_eq_true] at h
 have := h.1.2 v hv
 unfold ChSpec.mayB at this
 simp only [Bool.and_eq_true, decide_eq_true_eq] at this
 omega
theorem up_zero {e er : Int} (h : upE e er = 0) : e = 0 ∧ er = 0 := by
 unfold upE at h
 split at h
 ·exact ⟨‹_›, h⟩
 ·rename_i hn; exact absurd h hn
theorem at_size {l : List V} {o : Option V} (h : ∀ v, o = some v → v ∈ l) : (ChSpec.atF l o).1.f1.size ≤ 9223372036854775807 := by
 unfold ChSpec.atF
 split
 ·rename_i hc
  cases o with
  | none => show (⟨#[]⟩ : ByteArray).size ≤ _; decide
  | some v =>
   have := chain_size hc v (h v rfl)
   show v.f1.size ≤ _
   omega
 ·show (⟨#[]⟩ : ByteArray).size ≤ _; decide
theorem vers_size (q : Q) (b : B) : (versP q b).1.f1.size ≤ 9223372036854775807 := by
 unfold versP getP findP
 split
 ·split
  ·exact at_size (fun v hv => List.mem_of_mem_head? hv)
  ·show (⟨#[]⟩ : ByteArray).size ≤ _; decide
 ·split
  ·exact at_size (fun v hv => List.mem_of_find?_eq_some hv)
  ·show (⟨#[]⟩ : ByteArray).size ≤ _; decide
theorem CAt.setQ {w : World} {g : Nat} {q : Q} {vp : Value} {now : Int} {vl : Value} {l : List B} {b : B} {v2 v3 : Value} {ti : Int} {tt : ByteArray} {e : Int} (h : CAt w g q vp now vl l b v2 v3 ti tt e) (s t : ByteArray) : CAt ((w.setCell ⟨g, 2, none⟩ (.string s)).setCell ⟨g, 3, none⟩ (.string t)) g ⟨q.f0, q.f1, s, t, q.f4, q.f5, q.f6, q.f7, q.f8⟩ vp now vl l b v2 v3 ti tt e :=
 have hg := (grown_set w g 2 (.string s)).trans (grown_set _ g 3 (.string t))
 ⟨blk_set (blk_set h.blk 2 _) 3 _, h.rpG hg, h.rlG hg, h.slG hg⟩
theorem CAt.drew {w : World} {g : Nat} {q : Q} {vp : Value} {now : Int} {vl : Value} {l : List B} {b : B} {v2 v3 : Value} {ti : Int} {tt : ByteArray} {e : Int} (h : CAt w g q vp now vl l b v2 v3 ti tt e) : CAt w.drew g q vp now vl l b v2 v3 ti tt e := h.below (below_drew (Below.refl _ _))
theorem ones_then {w w1 : World} {g : Nat} {vp : Value} {now : Int} {vl : Value} {l : List B} {en : Ending} {w' : World} (hg : w.grownBy w1 (some g)) (h : Ones w1 g vp now vl l en w') : Ones w g vp now vl l en w' := by
 obtain ⟨q, b, v2, v3, ti, tt, e, ⟨h1, h2, h3⟩, h4⟩ := h
 exact ⟨q, b, v2, v3, ti, tt, e, ⟨h1, h2, grown_then hg h3 (.inr rfl)⟩, h4⟩
set_option maxRecDepth 100000 in
set_option maxHeartbeats 3200000 in
theorem copy_any (w : World) (g : Nat) (q : Q) (vp : Value) (now : Int) (vl : Value) (l : List B) (b : B) (v2 v3 : Value) (ti : Int) (tt : ByteArray) (h : CAt w g q vp now vl l b v2 v3 ti tt 0) (hb : Ok now b) (hd : DepOk now l) :
  Calls Tryz.prog 27 #[.pointer (some ⟨g, 0, none⟩)] w (Ones w g vp now vl l) := by
 have huv := Tryz.underlying63
 have CV := Aside0.mk (version_any w g q vp now vl l b v2 v3 ti tt 0 h hb)
 have HV := Aside0.mk (vers_size q b)
 have HD := Aside0.mk hd
 have hs8 := Kd.V_slice h.rp
 obtain ⟨⟨x, er⟩, hp⟩ : ∃ p, versP q b = p := ⟨_, rfl⟩
 rw [hp] at CV HV
 unfold Versed aggV at CV
 clear h hb hd hp
 go_enter Tryz.func27, Tryz.ntmps27
 go_wp2_with fail
 refine CV.out.mono ?_
 rintro en w1 ⟨rfl, hC1, hg1⟩
 have hba := below_alloc (Below.refl w1.heap.size w1) (.cells #[.int .u64 x.f0, .string x.f1, .bool x.f2, .int .i64 x.f3] tV)
 have HC1 := Aside0.mk (hC1.below hba)
 have HG1 := Aside0.mk (grown_then hg1 (grown_of_below hba (some g)) (.inr rfl))
 have KV := Aside0.mk (blk_new w1 (.cells #[.int .u64 x.f0, .string x.f1, .bool x.f2, .int .i64 x.f3] tV))
 have HLT : Aside0 (g < w1.heap.size) := ⟨hC1.lt⟩
 have hz := fun j => blk_cell HC1.out.blk j
 clear CV hC1 hg1 hba
 go_wp2_with fail
 refine (open_any _ g q vp now vl l b v2 v3 ti tt _ HC1.out HD.out q.f4).mono ?_
 rintro en w2 ⟨b2, u2, u3, er2, ⟨rfl, hC2, hg2⟩, h1, h2⟩
 obtain ⟨e2, he2⟩ : ∃ e2, e2 = upE (upE 0 er) er2 := ⟨_, rfl⟩
 rw [← he2] at hC2
 have HOK : Aside0 (e2 = 0 → Ok now b2) := ⟨fun h0 => by
  rw [he2] at h0
  exact HD.out.ok b2 (h1 (up_zero h0).2).1⟩
 have KV2 := Aside0.mk (grown_blk hg2 KV.out (by have := HLT.out; omega))
 have HC2 := Aside0.mk hC2
 have HG2 := Aside0.mk (grown_then HG1.out hg2 (.inr rfl))
 have hz2 := fun j => blk_cell HC2.out.blk j
 have hf2 := fun j => blk_frozen HC2.out.blk j
 have hzv := fun j => blk_cell KV2.out j
 clear hC2 hg2 h1 h2 hz he2
 go_wp2_with fail
 go_region
 have HC3 := Aside0.mk (CAt.drew (CAt.setQ HC2.out q.f5 x.f1))
 have HG3 := Aside0.mk (grown_drew (grown_then HG2.out ((grown_set w2 g 2 (.string q.f5)).trans (grown_set _ g 3 (.string x.f1))) (.inr rfl)))
 have hz3 := fun j => blk_cell HC3.out.blk j
 clear hz2 hf2 hzv
 by_cases h0 : e2 = 0
 ·subst h0
  have CP := put_any _ g _ vp now vl l b2 u2 u3 ti tt HC3.out (HOK.out rfl) HV.out
  have CP2 := Aside0.mk CP
  clear CP
  go_wp2_with fail
  refine CP2.out.mono ?_
  rintro en w4 hO
  have HO := Aside0.mk hO
  have hret : en = .returned (.tuple #[]) := by obtain ⟨_, _, _, _, _, _, _, ⟨h, _⟩, _⟩ := hO; exact h
  subst hret
  clear hO hz3
  go_wp2
  (first | go_end0 | ((try simp only [Exit.inBlock, Exit.then]); refine bodyPost_ret (results_none rfl _ _ _) rfl ?_))
  exact ones_then HG3.out HO.out
 ·have d1 : (e2 == 0) = false := beq_eq_false_iff_ne.mpr h0
  have H0 := Aside0.mk h0
  clear h0
  go_wp2
  (first | go_end0 | ((try simp only [Exit.inBlock, Exit.then]); refine bodyPost_ret (results_none rfl _ _ _) rfl ?_))
  exact ⟨_, b2, _, _, _, _, e2, ⟨rfl, HC3.out, HG3.out⟩, fun h => absurd h H0.out⟩
end Go.Proofs.YtpccbmechgkogaaGreatDoor.ClkVer
