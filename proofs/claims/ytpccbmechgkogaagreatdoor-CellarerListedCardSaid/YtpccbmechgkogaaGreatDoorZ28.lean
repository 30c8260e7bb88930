/-
  Lemmas: BkGet, BkDel, BkDrop.
-/
import Derived.RegionTactic
import Derived.Test.YtpccbmechgkogaaGreatDoorProg
import Derived.Test.YtpccbmechgkogaaGreatDoorV0
import Derived.Test.YtpccbmechgkogaaGreatDoorZ01
import Derived.Test.YtpccbmechgkogaaGreatDoorZ02
import Derived.Test.YtpccbmechgkogaaGreatDoorZ04
import Derived.Test.YtpccbmechgkogaaGreatDoorZ05
import Derived.Test.YtpccbmechgkogaaGreatDoorZ06
import Derived.Test.YtpccbmechgkogaaGreatDoorZ07
import Derived.Test.YtpccbmechgkogaaGreatDoorZ08
import Derived.Test.YtpccbmechgkogaaGreatDoorZ10
import Derived.Test.YtpccbmechgkogaaGreatDoorZ11
import Derived.Test.YtpccbmechgkogaaGreatDoorZ13
import Derived.Test.YtpccbmechgkogaaGreatDoorZ16
import Derived.Test.YtpccbmechgkogaaGreatDoorZ17
set_option linter.unusedVariables false
set_option linter.unusedSimpArgs false
namespace Go.Proofs.YtpccbmechgkogaaGreatDoor.BkGet
open Go.RowKit Go.Proofs.YtpccbmechgkogaaGreatDoor.P Go.Proofs.YtpccbmechgkogaaGreatDoorW.PrintWords Go.Proofs.YtpccbmechgkogaaGreatDoor.PureKit Go.Proofs.YtpccbmechgkogaaGreatDoor.BkSpec Go.Proofs.YtpccbmechgkogaaGreatDoor.Wk Go.Proofs.YtpccbmechgkogaaGreatDoor.Close Go.Proofs.YtpccbmechgkogaaGreatDoor.Open Go.Proofs.YtpccbmechgkogaaGreatDoor.BkOk Go.Proofs.YtpccbmechgkogaaGreatDoor.BkPut Go.Proofs.YtpccbmechgkogaaGreatDoor.IdxPut Go.Proofs.YtpccbmechgkogaaGreatDoor.ChAt
open Go.Proofs.YtpccbmechgkogaaGreatDoor.ChSpec (zV)
set_option maxRecDepth 100000 in
set_option maxHeartbeats 3200000 in
theorem get_any (now : Int) (w : World) (ok : Nat → Prop) (b : B) (v2 v3 : Value) (key : ByteArray) (h : Sl w ok b v2 v3) (hb : Ok now b) :
  Calls Tryz.prog 85 #[.agg #[.string b.f0, .int .i64 b.f1, v2, v3, .int .u64 b.f4], .string key] w (One (if Name.keyB key = true then ChSpec.getF (getL b.f2 key) else (zV, 1)) w) := by
 have HS := Aside0.mk h
 obtain ⟨⟨A2, c2, rfl, hc2, hF2⟩, ⟨A3, c3, rfl, hc3, hF3⟩⟩ := h
 have hu := Tryz.underlying40
 have hmf : ∀ (fn : Fn) (first cap : Array Value) (w : World), (Instr.makeFunc fn first cap).run Tryz.prog w = .ok (.func fn first cap) w := fun _ _ _ _ => rfl
 have HP := Aside0.mk hb
 clear hF2 hF3 hc2 hc3 hb
 generalize hq : (if Name.keyB key = true then ChSpec.getF (getL b.f2 key) else (zV, 1)) = q
 have HQ := Aside0.mk hq
 clear hq
 go_enter Tryz.func85, Tryz.ntmps85
 go_wp2_with fail
 refine (open_any _ (fun k => ok k ∧ k < w.heap.size) b _ _ key (HS.out.bound.below (below_alloc (below_alloc (Below.refl w.heap.size w) (.cells #[.string b.f0, .int .i64 b.f1, .slice A2 b.f2.length c2, .slice A3 b.f3.length c3, .int .u64 b.f4] tB)) (.cells #[.int .u64 0, .string ⟨#[]⟩, .bool false, .int .i64 0] tV))) HP.out.bucket).mono ?_
 rintro en w1 ⟨g, rfl, hg0, hAt0, hb1⟩
 have BA := Aside0.mk (blk_below (BkTurn.blk2a w _ _) hb1)
 have BZ := Aside0.mk (blk_below (blk_push w _ _) hb1)
 have HB := Aside0.mk (below_step (below_alloc (below_alloc (Below.refl w.heap.size w) (.cells #[.string b.f0, .int .i64 b.f1, .slice A2 b.f2.length c2, .slice A3 b.f3.length c3, .int .u64 b.f4] tB)) (.cells #[.int .u64 0, .string ⟨#[]⟩, .bool false, .int .i64 0] tV)) hb1)
 have AT := Aside0.mk hAt0
 by_cases hk : Name.keyB key = true
 case' neg =>
  have hq : q = (zV, 1) := by rw [← HQ.out, if_neg hk]
  subst hq
  have he : openE key = 1 := by unfold openE; rw [if_neg hk]
  rw [he] at hAt0
  have hz := fun j => blk_cell hAt0.blk j
  have hf2 := fun j => blk_frozen BZ.out j
  have hz2 := fun j => blk_cell BZ.out j
  clear hb1 hg0 hk he hAt0
  go_wp2
  go_region
  go_wp2
  have gS := set4_grown w1 (w.heap.size + 1) (.int .u64 0) (.string ⟨#[]⟩) (.bool false) (.int .i64 0)
  have z := fun j => blk_cell (blk_drew (set4_blk BZ.out (.int .u64 0) (.string ⟨#[]⟩) (.bool false) (.int .i64 0))) j
  refine bodyPost_ret (v := .tuple #[aggV zV, .int .i64 1]) (by simp [results, Tryz.results85, go_sem, z, aggV, zV]) rfl ?_
  exact ⟨rfl, below_drew (HB.out.grown gS HB.out.size (fun k e => by cases e; omega))⟩
 case' pos =>
  have HQ2 := Aside0.mk (show q = ChSpec.getF (getL b.f2 key) by rw [← HQ.out, if_pos hk])
  have he : openE key = 0 := by unfold openE; rw [if_pos hk]
  rw [he] at hAt0
  have hz := fun j => blk_cell hAt0.blk j
  have hz1 := fun j => blk_cell BA.out j
  clear hb1 hg0 hk he hAt0
  go_wp2_with fail
  have hA := (HS.out.below HB.out).r2
  obtain ⟨A5, c5, e5, hc5, hF5⟩ := hA
  injection e5 with eA _ ec
  subst eA
  subst ec
  refine (Get.get_any A2 c2 b.f2 key w1 HP.out.idx (Kd.F_now hF5) hc5).mono ?_
  rintro en w2 ⟨v, rfl, hR2, hb2⟩
  obtain ⟨A6, c6, rfl, hc6, hC6⟩ := Kd.R_reads hR2
  have BZ2 := Aside0.mk (blk_below BZ.out hb2)
  have HB2 := Aside0.mk (below_step HB.out hb2)
  have HC6 := Aside0.mk (And.intro hC6 hc6)
  clear hF5 hc5 hR2 hC6 hc6 hb2 hz hz1
  go_wp2_with fail
  have hk := ChAt.get_any A6 c6 (getL b.f2 key) w2 HC6.out.1 (HP.out.chain key)
  rw [← HQ2.out] at hk
  obtain ⟨p1, p2⟩ := q
  unfold ChAt.One aggV at hk
  refine hk.mono ?_
  rintro en w3 ⟨rfl, hb3⟩
  have BZ3 := Aside0.mk (blk_below BZ2.out hb3)
  have HB3 := Aside0.mk (below_step HB2.out hb3)
  have hz2 := fun j => blk_cell BZ3.out j
  have hf2 := fun j => blk_frozen BZ3.out j
  clear hb3 hk
  go_wp2
  have gS := set4_grown w3 (w.heap.size + 1) (.int .u64 p1.f0) (.string p1.f1) (.bool p1.f2) (.int .i64 p1.f3)
  have z := fun j => blk_cell (set4_blk BZ3.out (.int .u64 p1.f0) (.string p1.f1) (.bool p1.f2) (.int .i64 p1.f3)) j
  refine bodyPost_ret (v := .tuple #[aggV p1, .int .i64 p2]) (by simp [results, Tryz.results85, go_sem, z, aggV]) rfl ?_
  exact ⟨rfl, HB3.out.grown gS HB3.out.size (fun k e => by cases e; omega)⟩
set_option maxRecDepth 100000 in
set_option maxHeartbeats 3200000 in
theorem find_any (now : Int) (w : World) (ok : Nat → Prop) (b : B) (v2 v3 : Value) (key : ByteArray) (id : Int) (h : Sl w ok b v2 v3) (hb : Ok now b) :
  Calls Tryz.prog 87 #[.agg #[.string b.f0, .int .i64 b.f1, v2, v3, .int .u64 b.f4], .string key, .int .u64 id] w (One (if Name.keyB key = true then ChSpec.findF (getL b.f2 key) id else (zV, 1)) w) := by
 have HS := Aside0.mk h
 obtain ⟨⟨A2, c2, rfl, hc2, hF2⟩, ⟨A3, c3, rfl, hc3, hF3⟩⟩ := h
 have hu := Tryz.underlying40
 have hmf : ∀ (fn : Fn) (first cap : Array Value) (w : World), (Instr.makeFunc fn first cap).run Tryz.prog w = .ok (.func fn first cap) w := fun _ _ _ _ => rfl
 have HP := Aside0.mk hb
 clear hF2 hF3 hc2 hc3 hb
 generalize hq : (if Name.keyB key = true then ChSpec.findF (getL b.f2 key) id else (zV, 1)) = q
 have HQ := Aside0.mk hq
 clear hq
 go_enter Tryz.func87, Tryz.ntmps87
 go_wp2_with fail
 refine (open_any _ (fun k => ok k ∧ k < w.heap.size) b _ _ key (HS.out.bound.below (below_alloc (below_alloc (Below.refl w.heap.size w) (.cells #[.string b.f0, .int .i64 b.f1, .slice A2 b.f2.length c2, .slice A3 b.f3.length c3, .int .u64 b.f4] tB)) (.cells #[.int .u64 0, .string ⟨#[]⟩, .bool false, .int .i64 0] tV))) HP.out.bucket).mono ?_
 rintro en w1 ⟨g, rfl, hg0, hAt0, hb1⟩
 have BA := Aside0.mk (blk_below (BkTurn.blk2a w _ _) hb1)
 have BZ := Aside0.mk (blk_below (blk_push w _ _) hb1)
 have HB := Aside0.mk (below_step (below_alloc (below_alloc (Below.refl w.heap.size w) (.cells #[.string b.f0, .int .i64 b.f1, .slice A2 b.f2.length c2, .slice A3 b.f3.length c3, .int .u64 b.f4] tB)) (.cells #[.int .u64 0, .string ⟨#[]⟩, .bool false, .int .i64 0] tV)) hb1)
 have AT := Aside0.mk hAt0
 by_cases hk : Name.keyB key = true
 case' neg =>
  have hq : q = (zV, 1) := by rw [← HQ.out, if_neg hk]
  subst hq
  have he : openE key = 1 := by unfold openE; rw [if_neg hk]
  rw [he] at hAt0
  have hz := fun j => blk_cell hAt0.blk j
  have hf2 := fun j => blk_frozen BZ.out j
  have hz2 := fun j => blk_cell BZ.out j
  clear hb1 hg0 hk he hAt0
  go_wp2
  go_region
  go_wp2
  have gS := set4_grown w1 (w.heap.size + 1) (.int .u64 0) (.string ⟨#[]⟩) (.bool false) (.int .i64 0)
  have z := fun j => blk_cell (blk_drew (set4_blk BZ.out (.int .u64 0) (.string ⟨#[]⟩) (.bool false) (.int .i64 0))) j
  refine bodyPost_ret (v := .tuple #[aggV zV, .int .i64 1]) (by simp [results, Tryz.results87, go_sem, z, aggV, zV]) rfl ?_
  exact ⟨rfl, below_drew (HB.out.grown gS HB.out.size (fun k e => by cases e; omega))⟩
 case' pos =>
  have HQ2 := Aside0.mk (show q = ChSpec.findF (getL b.f2 key) id by rw [← HQ.out, if_pos hk])
  have he : openE key = 0 := by unfold openE; rw [if_pos hk]
  rw [he] at hAt0
  have hz := fun j => blk_cell hAt0.blk j
  have hz1 := fun j => blk_cell BA.out j
  clear hb1 hg0 hk he hAt0
  go_wp2_with fail
  have hA := (HS.out.below HB.out).r2
  obtain ⟨A5, c5, e5, hc5, hF5⟩ := hA
  injection e5 with eA _ ec
  subst eA
  subst ec
  refine (Get.get_any A2 c2 b.f2 key w1 HP.out.idx (Kd.F_now hF5) hc5).mono ?_
  rintro en w2 ⟨v, rfl, hR2, hb2⟩
  obtain ⟨A6, c6, rfl, hc6, hC6⟩ := Kd.R_reads hR2
  have BZ2 := Aside0.mk (blk_below BZ.out hb2)
  have HB2 := Aside0.mk (below_step HB.out hb2)
  have HC6 := Aside0.mk (And.intro hC6 hc6)
  clear hF5 hc5 hR2 hC6 hc6 hb2 hz hz1
  go_wp2_with fail
  have hk := ChAt.find_any A6 c6 (getL b.f2 key) id w2 HC6.out.1 (HP.out.chain key)
  rw [← HQ2.out] at hk
  obtain ⟨p1, p2⟩ := q
  unfold ChAt.One aggV at hk
  refine hk.mono ?_
  rintro en w3 ⟨rfl, hb3⟩
  have BZ3 := Aside0.mk (blk_below BZ2.out hb3)
  have HB3 := Aside0.mk (below_step HB2.out hb3)
  have hz2 := fun j => blk_cell BZ3.out j
  have hf2 := fun j => blk_frozen BZ3.out j
  clear hb3 hk
  go_wp2
  have gS := set4_grown w3 (w.heap.size + 1) (.int .u64 p1.f0) (.string p1.f1) (.bool p1.f2) (.int .i64 p1.f3)
  have z := fun j => blk_cell (set4_blk BZ3.out (.int .u64 p1.f0) (.string p1.f1) (.bool p1.f2) (.int .i64 p1.f3)) j
  refine bodyPost_ret (v := .tuple #[aggV p1, .int .i64 p2]) (by simp [results, Tryz.results87, go_sem, z, aggV]) rfl ?_
  exact ⟨rfl, HB3.out.grown gS HB3.out.size (fun k e => by cases e; omega)⟩
end Go.Proofs.YtpccbmechgkogaaGreatDoor.BkGet
namespace Go.Proofs.YtpccbmechgkogaaGreatDoor.BkDel
open Go.RowKit Go.Proofs.YtpccbmechgkogaaGreatDoor.P Go.Proofs.YtpccbmechgkogaaGreatDoorW.PrintWords Go.Proofs.YtpccbmechgkogaaGreatDoor.PureKit Go.Proofs.YtpccbmechgkogaaGreatDoor.BkSpec Go.Proofs.YtpccbmechgkogaaGreatDoor.Wk Go.Proofs.YtpccbmechgkogaaGreatDoor.IdxPut Go.Proofs.YtpccbmechgkogaaGreatDoor.Open Go.Proofs.YtpccbmechgkogaaGreatDoor.Close Go.Proofs.YtpccbmechgkogaaGreatDoor.Vers Go.Proofs.YtpccbmechgkogaaGreatDoor.BkLay Go.Proofs.YtpccbmechgkogaaGreatDoor.BkOk Go.Proofs.YtpccbmechgkogaaGreatDoor.BkPut
theorem del_chain {l r : List V} {s id t : Int} (hw : ∀ v ∈ l, 0 ≤ v.f0) (hx : 0 ≤ id) (hf : ∀ v ∈ l, v.f3 ≤ t) (hc : ChSpec.chainB l = true) (h : ChSpec.delF l s id t = (r, 0)) : ChSpec.chainB r = true := by
 unfold ChSpec.delF at h
 split at h
 ·exact drop_chain hw hc h
 ·refine put_chain hw ?_ hf h
  split <;> simp [hx]
def RD (b : B) (key : ByteArray) (now id : Int) (r : List V) (er : Int) : Prop := ChSpec.delF (getL b.f2 key) b.f1 id now = (r, er)
set_option maxRecDepth 100000 in
set_option maxHeartbeats 1600000 in
theorem del_fn (b : B) (v2 v3 : Value) (key : ByteArray) (now id : Int) (A : Option Addr) (c : Nat) (g : Nat) (W : World) (hs : (Lit.int .i64 b.f1).wf = true) (h0 : W.heap[g]? = some (.cells #[.string b.f0, .int .i64 b.f1, v2, v3, .int .u64 b.f4] tB (0, 0))) (h1 : W.heap[g + 1]? = some (.cells #[.int .i64 now] 3 (0, 0)))
  (hC : Kd.C kV W A (getL b.f2 key).length (getL b.f2 key)) (hc : (getL b.f2 key).length ≤ c) (hk : ChSpec.chainB (getL b.f2 key) = true ∧ (b.f1 = 0 ∨ b.f1 = 1 ∨ b.f1 = 2) ∧ ∀ v ∈ getL b.f2 key, v.f3 ≤ now) :
  Calls Tryz.prog 100 #[.slice A (getL b.f2 key).length c, .int .u64 id, .pointer (some ⟨g, 0, none⟩), .pointer (some ⟨g + 1, 0, none⟩)] W (Does (RD b key now id) W) := by
 have hz0 := fun j => blk_cell h0 j
 have hz1 := fun j => blk_cell h1 j
 obtain ⟨⟨r, er⟩, hr⟩ : ∃ p, ChSpec.delF (getL b.f2 key) b.f1 id now = p := ⟨_, rfl⟩
 have CP := ChAt.delete_any A c (getL b.f2 key) b.f1 id now W hC hc hk.1 hs hk.2.1 (fun id => elder_no hk.2.2)
 unfold ChAt.Many at CP
 rw [hr] at CP
 have HR := Aside0.mk hr
 clear h0 h1 hC hc hs hr hk
 go_enter Tryz.func100, Tryz.ntmps100
 go_wp2_with fail
 refine CP.mono ?_
 rintro en w1 ⟨v, rfl, hV, hb⟩
 have HE := Aside0.mk (And.intro hV hb)
 clear hV hb CP
 go_wp2_with fail
 go_ret2
 exact ⟨v, r, er, rfl, HE.out.1, HR.out, HE.out.2⟩
set_option maxRecDepth 100000 in
set_option maxHeartbeats 3200000 in
theorem del_any (now : Int) (w : World) (ok : Nat → Prop) (b : B) (v2 v3 : Value) (key : ByteArray) (h : Sl w ok b v2 v3) (hb : Ok now b) :
  Calls Tryz.prog 61 #[.agg #[.string b.f0, .int .i64 b.f1, v2, v3, .int .u64 b.f4], .string key, .int .i64 now] w (Done3 now w ok) := by
 have HS := Aside0.mk h
 obtain ⟨⟨A2, c2, rfl, hc2, hF2⟩, ⟨A3, c3, rfl, hc3, hF3⟩⟩ := h
 have hu := Tryz.underlying40
 have hmf : ∀ (fn : Fn) (first cap : Array Value) (w : World), (Instr.makeFunc fn first cap).run Tryz.prog w = .ok (.func fn first cap) w := fun _ _ _ _ => rfl
 have HP := Aside0.mk hb
 clear hF2 hF3 hc2 hc3 hb
 go_enter Tryz.func61, Tryz.ntmps61
 go_wp2_with fail
 refine (laid_any (((w.alloc (.cells #[.string b.f0, .int .i64 b.f1, .slice A2 b.f2.length c2, .slice A3 b.f3.length c3, .int .u64 b.f4] tB)).alloc (.cells #[.int .i64 now] 3)).alloc (.cells #[.string ⟨#[]⟩, .int .i64 0, .slice none 0 0, .slice none 0 0, .int .u64 0] tB)) (fun k => ok k ∧ k < w.heap.size) b _ _ key (HS.out.bound.below (below_alloc (below_alloc (below_alloc (Below.refl w.heap.size w) (.cells #[.string b.f0, .int .i64 b.f1, .slice A2 b.f2.length c2, .slice A3 b.f3.length c3, .int .u64 b.f4] tB)) (.cells #[.int .i64 now] 3)) (.cells #[.string ⟨#[]⟩, .int .i64 0, .slice none 0 0, .slice none 0 0, .int .u64 0] tB))) HP.out.bucket HP.out.l0 100 #[.pointer (some ⟨w.heap.size, 0, none⟩), .pointer (some ⟨w.heap.size + 1, 0, none⟩)] (fun _ _ => rfl) (RD b key now) (fun id r hid hr => del_chain (fun v hv => (HP.out.got key v hv).1) (by have := HP.out.l0; omega) (fun v hv => (HP.out.got key v hv).2.2.2) (HP.out.chain key) hr) (fun W A c id hW hC hc _ => del_fn b _ _ key now id A c w.heap.size W (wf_state HP.out) (blk_below (blk3a w _ _ _) hW) (blk_below (blk3b w _ _ _) hW) hC hc (may_lay HP.out key))).mono ?_
 rintro en w1 ⟨b', u2, u3, id, er, rfl, hSl, hLay, hb1⟩
 obtain ⟨B2, d2, rfl⟩ := Kd.V_slice hSl.r2
 obtain ⟨B3, d3, rfl⟩ := Kd.V_slice hSl.r3
 have BR := Aside0.mk (blk_below (blk3c w _ _ _) hb1)
 have hz := fun j => blk_cell BR.out j
 have hf := fun j => blk_frozen BR.out j
 have HB1 := Aside0.mk (below_step (below_alloc (below_alloc (below_alloc (Below.refl w.heap.size w) (.cells #[.string b.f0, .int .i64 b.f1, .slice A2 b.f2.length c2, .slice A3 b.f3.length c3, .int .u64 b.f4] tB)) (.cells #[.int .i64 now] 3)) (.cells #[.string ⟨#[]⟩, .int .i64 0, .slice none 0 0, .slice none 0 0, .int .u64 0] tB)) hb1)
 have HSL := Aside0.mk hSl
 have HLY := Aside0.mk hLay
 have hs : ((((w.alloc (.cells #[.string b.f0, .int .i64 b.f1, .slice A2 b.f2.length c2, .slice A3 b.f3.length c3, .int .u64 b.f4] tB)).alloc (.cells #[.int .i64 now] 3)).alloc (.cells #[.string ⟨#[]⟩, .int .i64 0, .slice none 0 0, .slice none 0 0, .int .u64 0] tB))).heap.size = w.heap.size + 3 := by simp
 have HS4 := Aside0.mk hs
 clear hSl hLay hb1 hs
 go_wp2
 have gS := set5_grown w1 (w.heap.size + 1 + 1) (.string b'.f0) (.int .i64 b'.f1) (.slice B2 b'.f2.length d2) (.slice B3 b'.f3.length d3) (.int .u64 b'.f4)
 have z := fun j => blk_cell (set5_blk BR.out (.string b'.f0) (.int .i64 b'.f1) (.slice B2 b'.f2.length d2) (.slice B3 b'.f3.length d3) (.int .u64 b'.f4)) j
 refine bodyPost_ret (v := .tuple #[.agg #[.string b'.f0, .int .i64 b'.f1, .slice B2 b'.f2.length d2, .slice B3 b'.f3.length d3, .int .u64 b'.f4], .int .u64 id, .int .i64 er]) (by simp [results, Tryz.results61, go_sem, z]) rfl ?_
 refine ⟨b', _, _, id, er, rfl, (HSL.out.grown gS ?_).mono ?_, lay_ok HP.out HLY.out ?_, HB1.out.grown gS HB1.out.size (fun k e => by cases e; omega)⟩
 ·have h4 := HS4.out
  rintro k (hk | hk)
  ·have := hk.2; omega
  ·rw [h4] at hk; omega
 ·have h4 := HS4.out
  rintro k (hk | hk)
  ·exact .inl hk.1
  ·rw [h4] at hk; exact .inr (by omega)
 ·intro id r hr v hv
  rcases del_mem hr v hv with h1 | ⟨h1, _, h2⟩
  ·exact .inl h1
  ·exact .inr ⟨h1, h2⟩
end Go.Proofs.YtpccbmechgkogaaGreatDoor.BkDel
namespace Go.Proofs.YtpccbmechgkogaaGreatDoor.BkDrop
open Go.RowKit Go.Proofs.YtpccbmechgkogaaGreatDoor.P Go.Proofs.YtpccbmechgkogaaGreatDoorW.PrintWords Go.Proofs.YtpccbmechgkogaaGreatDoor.PureKit Go.Proofs.YtpccbmechgkogaaGreatDoor.BkSpec Go.Proofs.YtpccbmechgkogaaGreatDoor.Wk Go.Proofs.YtpccbmechgkogaaGreatDoor.IdxPut Go.Proofs.YtpccbmechgkogaaGreatDoor.Open Go.Proofs.YtpccbmechgkogaaGreatDoor.Close Go.Proofs.YtpccbmechgkogaaGreatDoor.Vers Go.Proofs.YtpccbmechgkogaaGreatDoor.BkOk Go.Proofs.YtpccbmechgkogaaGreatDoor.BkPut
def RX (b : B) (key : ByteArray) (id : Int) (r : List V) (er : Int) : Prop := ChSpec.dropF (getL b.f2 key) id = (r, er)
set_option maxRecDepth 100000 in
set_option maxHeartbeats 1600000 in
theorem drop_fn (b : B) (key : ByteArray) (id : Int) (A : Option Addr) (c : Nat) (g : Nat) (W : World) (h0 : W.heap[g]? = some (.cells #[.int .u64 id] 26 (0, 0)))
  (hC : Kd.C kV W A (getL b.f2 key).length (getL b.f2 key)) (hc : (getL b.f2 key).length ≤ c) (hk : ChSpec.chainB (getL b.f2 key) = true) :
  Calls Tryz.prog 104 #[.slice A (getL b.f2 key).length c, .pointer (some ⟨g, 0, none⟩)] W (Does (RX b key id) W) := by
 have hz0 := fun j => blk_cell h0 j
 obtain ⟨⟨r, er⟩, hr⟩ : ∃ p, ChSpec.dropF (getL b.f2 key) id = p := ⟨_, rfl⟩
 have CP := ChAt.drop_any A c (getL b.f2 key) id W hC hk
 unfold ChAt.Many at CP
 rw [hr] at CP
 have HR := Aside0.mk hr
 clear h0 hC hc hr hk
 go_enter Tryz.func104, Tryz.ntmps104
 go_wp2_with fail
 refine CP.mono ?_
 rintro en w1 ⟨v, rfl, hV, hb⟩
 have HE := Aside0.mk (And.intro hV hb)
 clear hV hb CP
 go_wp2_with fail
 go_ret2
 exact ⟨v, r, er, rfl, HE.out.1, HR.out, HE.out.2⟩
set_option maxRecDepth 100000 in
set_option maxHeartbeats 3200000 in
theorem drop_any (now : Int) (w : World) (ok : Nat → Prop) (b : B) (v2 v3 : Value) (key : ByteArray) (id : Int) (h : Sl w ok b v2 v3) (hb : Ok now b) :
  Calls Tryz.prog 62 #[.agg #[.string b.f0, .int .i64 b.f1, v2, v3, .int .u64 b.f4], .string key, .int .u64 id] w (Done2 now w ok) := by
 have HS := Aside0.mk h
 obtain ⟨⟨A2, c2, rfl, hc2, hF2⟩, ⟨A3, c3, rfl, hc3, hF3⟩⟩ := h
 have hu := Tryz.underlying40
 have hmf : ∀ (fn : Fn) (first cap : Array Value) (w : World), (Instr.makeFunc fn first cap).run Tryz.prog w = .ok (.func fn first cap) w := fun _ _ _ _ => rfl
 have HP := Aside0.mk hb
 clear hF2 hF3 hc2 hc3 hb
 go_enter Tryz.func62, Tryz.ntmps62
 go_wp2_with fail
 refine (open_any (((w.alloc (.cells #[.string b.f0, .int .i64 b.f1, .slice A2 b.f2.length c2, .slice A3 b.f3.length c3, .int .u64 b.f4] tB)).alloc (.cells #[.int .u64 id] 26)).alloc (.cells #[.string ⟨#[]⟩, .int .i64 0, .slice none 0 0, .slice none 0 0, .int .u64 0] tB)) (fun k => ok k ∧ k < w.heap.size) b _ _ key (HS.out.bound.below (below_alloc (below_alloc (below_alloc (Below.refl w.heap.size w) (.cells #[.string b.f0, .int .i64 b.f1, .slice A2 b.f2.length c2, .slice A3 b.f3.length c3, .int .u64 b.f4] tB)) (.cells #[.int .u64 id] 26)) (.cells #[.string ⟨#[]⟩, .int .i64 0, .slice none 0 0, .slice none 0 0, .int .u64 0] tB))) HP.out.bucket).mono ?_
 rintro en w1 ⟨g, rfl, hg0, hAt0, hb1⟩
 have hs3 : ∀ o1 o2 o3 : Obj, (((w.alloc o1).alloc o2).alloc o3).heap.size = w.heap.size + 1 + 1 + 1 := fun _ _ _ => by simp
 have HG : Aside0 (w.heap.size + 1 + 1 < g) := ⟨by rw [hs3] at hg0; omega⟩
 rw [hs3] at hAt0
 have B1 := Aside0.mk (blk_below (blk3a w _ _ _) hb1)
 have B2 := Aside0.mk (blk_below (blk3b w _ _ _) hb1)
 have B3 := Aside0.mk (blk_below (blk3c w _ _ _) hb1)
 have HB1 := Aside0.mk (below_step (below_alloc (below_alloc (below_alloc (Below.refl w.heap.size w) (.cells #[.string b.f0, .int .i64 b.f1, .slice A2 b.f2.length c2, .slice A3 b.f3.length c3, .int .u64 b.f4] tB)) (.cells #[.int .u64 id] 26)) (.cells #[.string ⟨#[]⟩, .int .i64 0, .slice none 0 0, .slice none 0 0, .int .u64 0] tB)) hb1)
 have AT := Aside0.mk hAt0
 have HGL := Aside0.mk hAt0.lt
 clear hs3 hg0 hAt0 hb1
 go_wp2_with fail
 refine (versions_any _ g _ b _ _ (openE key) AT.out HP.out.idx key (fun h => BkLay.openE_zero h) 104 #[.pointer (some ⟨w.heap.size + 1, 0, none⟩)] (fun _ _ => rfl) (RX b key id) (fun r hr => drop_chain (fun v hv => (HP.out.got key v hv).1) (HP.out.chain key) hr) (fun W A c hW hC hc => drop_fn b key id A c (w.heap.size + 1) W (blk_below B2.out hW) hC hc (HP.out.chain key))).mono ?_
 rintro en w2 ⟨b', v2', e', rfl, hAt, hTh, hg2⟩
 obtain ⟨A5, c5, rfl⟩ := Kd.V_slice hAt.sl.r2
 have HB3 : Aside0 (b'.f3 = b.f3) := ⟨by
  unfold Then at hTh
  split at hTh
  ·obtain ⟨r, er, _, h⟩ := hTh
   split at h <;> rw [h.1]
  ·rw [hTh.1]⟩
 have HTH := Aside0.mk hTh
 have C1 := Aside0.mk (grown_blk hg2 B1.out (by have := HG.out; omega))
 have C3 := Aside0.mk (grown_blk hg2 B3.out (by have := HG.out; omega))
 have HG2 := Aside0.mk (grown_then (grown_of_below HB1.out (some g)) hg2 (.inr rfl))
 have AT2 := Aside0.mk hAt
 have HM := Aside0.mk HB1.out.size
 clear hTh hAt hg2 B1 B2 B3 AT HB1
 have hz := fun j => blk_cell C1.out j
 go_wp2_with fail
 refine (close_any w2 g _ b' _ _ e' AT2.out (fun h0 => by
  obtain ⟨_, r, _, _, _, hi⟩ := then_zero HTH.out h0
  exact ⟨hi, by rw [HB3.out]; exact HP.out.pts⟩) b.f0 b.f1 b.f4 A2 A3 _ _ c2 c3).mono ?_
 rintro en w3 ⟨he, hg3⟩
 have D3 := Aside0.mk (grown_blk hg3 C3.out (by have := HG.out; omega))
 have HG3 := Aside0.mk (grown_then HG2.out hg3 (.inr rfl))
 have SL3 := Aside0.mk (AT2.out.sl.grown hg3 AT2.out.ne)
 clear hz C1 C3 HG2 AT2 hg3
 have hz := fun j => blk_cell D3.out j
 have hf := fun j => blk_frozen D3.out j
 obtain ⟨bb, B2, d2, B3, d3, er, he2, hsl, hok⟩ : ∃ (bb : B) (B2 : Option Addr) (d2 : Nat) (B3 : Option Addr) (d3 : Nat) (er : Int), en = .returned (.tuple #[.agg #[.string bb.f0, .int .i64 bb.f1, .slice B2 bb.f2.length d2, .slice B3 bb.f3.length d3, .int .u64 bb.f4], .int .i64 er]) ∧ Sl w3 (fun k => (ok k ∧ k < w.heap.size) ∨ g ≤ k) bb (.slice B2 bb.f2.length d2) (.slice B3 bb.f3.length d3) ∧ Ok now bb := by
  by_cases hc : closeE b' e' = 0
  ·rw [if_pos hc] at he
   obtain ⟨h0, ho⟩ := close_zero hc
   obtain ⟨h1, r, hr, hp, hb', _⟩ := then_zero HTH.out h0
   refine ⟨b', A5, c5, A3, c3, _, by rw [HB3.out]; exact he, ?_, ?_⟩
   ·rw [HB3.out]
    refine SL3.out.mono ?_
    rintro k (hk | hk)
    ·exact .inl ⟨hk.1.1, hk.1.2⟩
    ·exact .inr (by have := HGL.out; have := hk; omega)
   ·subst hb'
    exact HP.out.put key r b.f4 (Int.le_refl _) HP.out.l hp ho (fun v hv => HP.out.got key v (drop_mem hr v hv))
  ·rw [if_neg hc] at he
   exact ⟨b, A2, c2, A3, c3, _, he, (HS.out.bound.below (below_of_grown HG3.out (by have := HG.out; omega))).mono (fun k hk => .inl hk), HP.out⟩
 have HSL := Aside0.mk hsl
 have HOK := Aside0.mk hok
 clear he hsl hok SL3 HTH HB3
 subst he2
 go_wp2
 have gS := set5_grown w3 (w.heap.size + 1 + 1) (.string bb.f0) (.int .i64 bb.f1) (.slice B2 bb.f2.length d2) (.slice B3 bb.f3.length d3) (.int .u64 bb.f4)
 have z := fun j => blk_cell (set5_blk D3.out (.string bb.f0) (.int .i64 bb.f1) (.slice B2 bb.f2.length d2) (.slice B3 bb.f3.length d3) (.int .u64 bb.f4)) j
 refine bodyPost_ret (v := .tuple #[.agg #[.string bb.f0, .int .i64 bb.f1, .slice B2 bb.f2.length d2, .slice B3 bb.f3.length d3, .int .u64 bb.f4], .int .i64 er]) (by simp [results, Tryz.results62, go_sem, z]) rfl ?_
 have hB := below_of_grown HG3.out (by have := HG.out; omega)
 refine ⟨bb, _, _, er, rfl, (HSL.out.grown gS ?_).mono ?_, HOK.out, hB.grown gS hB.size (fun k e => by cases e; omega)⟩
 ·have := HG.out
  rintro k (hk | hk)
  ·have := hk.2; omega
  ·omega
 ·have := HG.out
  rintro k (hk | hk)
  ·exact .inl hk.1
  ·exact .inr (by omega)
end Go.Proofs.YtpccbmechgkogaaGreatDoor.BkDrop
