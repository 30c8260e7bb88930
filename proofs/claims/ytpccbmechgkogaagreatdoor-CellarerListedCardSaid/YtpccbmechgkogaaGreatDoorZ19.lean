/-
  Lemmas: BkUps.
-/
import Derived.Test.YtpccbmechgkogaaGreatDoorProg
import Derived.Test.YtpccbmechgkogaaGreatDoorV0
import Derived.Test.YtpccbmechgkogaaGreatDoorZ01
import Derived.Test.YtpccbmechgkogaaGreatDoorZ02
import Derived.Test.YtpccbmechgkogaaGreatDoorZ04
import Derived.Test.YtpccbmechgkogaaGreatDoorZ05
import Derived.Test.YtpccbmechgkogaaGreatDoorZ07
import Derived.Test.YtpccbmechgkogaaGreatDoorZ11
import Derived.Test.YtpccbmechgkogaaGreatDoorZ16
import Derived.Test.YtpccbmechgkogaaGreatDoorZ17
import Derived.Test.YtpccbmechgkogaaGreatDoorZ18
set_option linter.unusedVariables false
set_option linter.unusedSimpArgs false
namespace Go.Proofs.YtpccbmechgkogaaGreatDoor.BkUps
open Go.RowKit Go.Proofs.YtpccbmechgkogaaGreatDoor.P Go.Proofs.YtpccbmechgkogaaGreatDoorW.PrintWords Go.Proofs.YtpccbmechgkogaaGreatDoor.PureKit Go.Proofs.YtpccbmechgkogaaGreatDoor.BkSpec Go.Proofs.YtpccbmechgkogaaGreatDoor.Wk Go.Proofs.YtpccbmechgkogaaGreatDoor.Close Go.Proofs.YtpccbmechgkogaaGreatDoor.Open Go.Proofs.YtpccbmechgkogaaGreatDoor.BkOk Go.Proofs.YtpccbmechgkogaaGreatDoor.BkPut Go.Proofs.YtpccbmechgkogaaGreatDoor.PtBegin Go.Proofs.YtpccbmechgkogaaGreatDoor.PtAbort
def upE (e er : Int) : Int := if e = 0 then er else e
def Upl (w : World) (g : Nat) (ok : Nat → Prop) (b : B) (v2 v : Value) (l : List U) (e er : Int) (en : Ending) (w' : World) : Prop :=
 en = .returned (.tuple #[]) ∧ At w' g ok ⟨b.f0, b.f1, b.f2, l, b.f4⟩ v2 v (upE e er) ∧ w.grownBy w' (some g)
set_option maxRecDepth 100000 in
set_option maxHeartbeats 1600000 in
theorem uploads_any (w : World) (g : Nat) (ok : Nat → Prop) (b : B) (v2 v3 : Value) (e : Int) (h : At w g ok b v2 v3 e) (v : Value) (l : List U) (er : Int) (hv : Rd kU w ok v l) :
  Calls Tryz.prog 108 #[.pointer (some ⟨g, 0, none⟩), v, .int .i64 er] w (Upl w g ok b v2 v l e er) := by
 have H := Aside0.mk h
 have HV := Aside0.mk hv
 have hz := fun j => blk_cell h.blk j
 have hf := fun j => blk_frozen h.blk j
 obtain ⟨A, c, rfl⟩ := Kd.V_slice hv
 clear h hv
 by_cases hr : er = 0
 ·have d1 : (er != 0) = false := bne_eq_false_iff_eq.mpr hr
  have HE : Aside0 (upE e er = e) := ⟨by unfold upE; split <;> omega⟩
  clear hr
  go_enter Tryz.func108, Tryz.ntmps108
  go_wp2
  (first | go_end0 | ((try simp only [Exit.inBlock, Exit.then]); refine bodyPost_ret (results_none rfl _ _ _) rfl ?_))
  go_wp2
  (first | go_end0 | ((try simp only [Exit.inBlock, Exit.then]); refine bodyPost_ret (results_none rfl _ _ _) rfl ?_))
  exact ⟨rfl, by rw [HE.out]; exact H.out.set3 HV.out, grown_set w g 3 _⟩
 ·have d1 : (er != 0) = true := bne_iff_ne.mpr hr
  by_cases he : e = 0
  ·subst he
   have HE : Aside0 (upE 0 er = er) := ⟨rfl⟩
   clear hr
   go_enter Tryz.func108, Tryz.ntmps108
   go_wp2
   (first | go_end0 | ((try simp only [Exit.inBlock, Exit.then]); refine bodyPost_ret (results_none rfl _ _ _) rfl ?_))
   go_wp2
   (first | go_end0 | ((try simp only [Exit.inBlock, Exit.then]); refine bodyPost_ret (results_none rfl _ _ _) rfl ?_))
   exact ⟨rfl, by rw [HE.out]; exact (H.out.setE er).set3 (Kd.V_grown HV.out (grown_set w g 5 _) (fun k hk q => H.out.ne k hk (Option.some.inj q))), (grown_set w g 5 _).trans (grown_set _ g 3 _)⟩
  ·have d2 : (e == 0) = false := beq_eq_false_iff_ne.mpr he
   have HE : Aside0 (upE e er = e) := ⟨by unfold upE; rw [if_neg he]⟩
   clear hr he
   go_enter Tryz.func108, Tryz.ntmps108
   go_wp2
   (first | go_end0 | ((try simp only [Exit.inBlock, Exit.then]); refine bodyPost_ret (results_none rfl _ _ _) rfl ?_))
   go_wp2
   (first | go_end0 | ((try simp only [Exit.inBlock, Exit.then]); refine bodyPost_ret (results_none rfl _ _ _) rfl ?_))
   exact ⟨rfl, by rw [HE.out]; exact H.out.set3 HV.out, grown_set w g 3 _⟩
theorem ok_ups {now : Int} {b : B} (h : Ok now b) {r : List U} {n : Int} (hn : b.f4 ≤ n) (hn2 : n ≤ 281474976710655) (hp : partsB r = true) (ho : octI b.f2 + octU r ≤ 20000) (hr : ∀ u ∈ r, u.f0 ≤ n) : Ok now ⟨b.f0, b.f1, b.f2, r, n⟩ :=
 ⟨h.name, h.s0, h.s2, by have := h.l0; show 0 ≤ n; omega, hn2, h.idx, hp, ho, fun x hx v hv => by obtain ⟨a1, a2, a3, a4⟩ := h.vs x hx v hv; exact ⟨a1, Int.le_trans a2 hn, a3, a4⟩, hr⟩
theorem At.grown {w w1 : World} {g i : Nat} {ok : Nat → Prop} {b : B} {v2 v3 : Value} {e : Int} (h : At w g ok b v2 v3 e) (hg : w.grownBy w1 (some i)) (hne : g ≠ i) (hk : ∀ k, ok k → k ≠ i) : At w1 g ok b v2 v3 e := ⟨grown_blk hg h.blk hne, h.sl.grown hg hk, h.ne⟩
theorem blk2s (w : World) (o1 o2 : Obj) : ((w.alloc o1).alloc o2).heap.size = w.heap.size + 1 + 1 := by simp
structure Two (w : World) (i : Nat) (b0 z0 : Obj) : Prop where
 a : w.heap[i]? = some b0
 b : w.heap[i + 1]? = some z0
theorem Two.grown {w w1 : World} {i g : Nat} {b0 z0 : Obj} (h : Two w i b0 z0) (hg : w.grownBy w1 (some g)) (h0 : i + 1 < g) : Two w1 i b0 z0 := ⟨grown_blk hg h.a (by omega), grown_blk hg h.b (by omega)⟩
set_option maxRecDepth 100000 in
set_option maxHeartbeats 3200000 in
theorem abort_any (now : Int) (w : World) (ok : Nat → Prop) (b : B) (v2 v3 : Value) (id : Int) (h : Sl w ok b v2 v3) (hb : Ok now b) :
  Calls Tryz.prog 65 #[.agg #[.string b.f0, .int .i64 b.f1, v2, v3, .int .u64 b.f4], .int .u64 id] w (Done2 now w ok) := by
 have HS := Aside0.mk h
 obtain ⟨⟨A2, c2, rfl, hc2, hF2⟩, ⟨A3, c3, rfl, hc3, hF3⟩⟩ := h
 have hu := Tryz.underlying40
 have hmf : ∀ (fn : Fn) (first cap : Array Value) (w : World), (Instr.makeFunc fn first cap).run Tryz.prog w = .ok (.func fn first cap) w := fun _ _ _ _ => rfl
 have HP := Aside0.mk hb
 clear hF2 hF3 hc2 hc3 hb
 go_enter Tryz.func65, Tryz.ntmps65
 go_wp2_with fail
 refine (open_any _ (fun k => ok k ∧ k < w.heap.size) b _ _ _ (HS.out.bound.below (below_alloc (below_alloc (Below.refl w.heap.size w) (.cells #[.string b.f0, .int .i64 b.f1, .slice A2 b.f2.length c2, .slice A3 b.f3.length c3, .int .u64 b.f4] tB)) (.cells #[.string ⟨#[]⟩, .int .i64 0, .slice none 0 0, .slice none 0 0, .int .u64 0] tB))) HP.out.bucket).mono ?_
 rintro en w1 ⟨g, rfl, hg0, hAt0, hb1⟩
 rw [blk2s] at hg0 hAt0
 have hgl := hAt0.lt
 have BX := Aside0.mk (Two.mk (blk_below (BkTurn.blk2a w _ _) hb1) (blk_below (blk_push w _ _) hb1))
 have AT := Aside0.mk hAt0
 have HB := Aside0.mk (below_step (below_alloc (below_alloc (Below.refl w.heap.size w) (.cells #[.string b.f0, .int .i64 b.f1, .slice A2 b.f2.length c2, .slice A3 b.f3.length c3, .int .u64 b.f4] tB)) (.cells #[.string ⟨#[]⟩, .int .i64 0, .slice none 0 0, .slice none 0 0, .int .u64 0] tB)) hb1)
 have HG := Aside0.mk hg0
 have HSZ : Aside0 (w.heap.size + 1 < w1.heap.size) := ⟨by have := hb1.size; rw [blk2s] at this; omega⟩
 have hz := fun j => blk_cell hAt0.blk j
 obtain ⟨e1, he1⟩ : ∃ e, openE ⟨#[107]⟩ = e := ⟨_, rfl⟩
 rw [he1] at hAt0
 clear hb1 hgl hg0
 go_wp2_with fail
 refine (PtAbort.abort_any w1 _ _ b.f3 id HP.out.pts AT.out.sl.r3).mono ?_
 rintro en w2 ⟨v, r, er, rfl, hV, hR, hb2⟩
 obtain ⟨A4, c4, rfl⟩ := Kd.V_slice hV
 have HNE : Aside0 (∀ k, ((ok k ∧ k < w.heap.size) ∧ k < w.heap.size + 1 + 1) ∨ w1.heap.size ≤ k → k ≠ g) := ⟨by
  have h1 := HG.out
  have h2 := AT.out.lt
  rintro k (hk | hk)
  ·have := hk.2; omega
  ·omega⟩
 have AT2 := Aside0.mk ((AT.out.below hb2).mono (ok' := fun k => ((ok k ∧ k < w.heap.size) ∧ k < w.heap.size + 1 + 1) ∨ w1.heap.size ≤ k) (fun k hk => .inl hk) HNE.out)
 have HV := Aside0.mk (show Rd kU w2 _ (.slice A4 r.length c4) r from hV)
 have HR := Aside0.mk hR
 have HB2 := Aside0.mk hb2
 clear hV hR hb2 hz hAt0 he1
 go_wp2_with fail
 refine (uploads_any w2 g _ b _ _ _ AT2.out (.slice A4 r.length c4) r er HV.out).mono ?_
 rintro en w3 ⟨rfl, hAt3, hg3⟩
 have hGG := grown_then (grown_of_below (below_step HB.out HB2.out) (some g)) hg3 (.inr rfl)
 have BX3 := Aside0.mk ((BX.out.grown (grown_of_below HB2.out (some g)) (by have := HG.out; omega)).grown hg3 (by have := HG.out; omega))
 have HG3 := Aside0.mk hGG
 have AT3 := Aside0.mk hAt3
 have hz0 := fun j => blk_cell BX3.out.a j
 clear hAt3 hg3 hGG
 go_wp2_with fail
 refine (close_any w3 g _ ⟨b.f0, b.f1, b.f2, r, b.f4⟩ _ _ _ AT3.out (fun h0 => ?cl) b.f0 b.f1 b.f4 A2 A3 _ _ c2 c3).mono ?_
 case cl =>
  have he : er = 0 := by unfold upE at h0; split at h0 <;> omega
  obtain ⟨k, hk, rfl⟩ := HR.out he
  exact ⟨HP.out.idx, PtPure.erase_ok HP.out.pts⟩
 rintro en w4 ⟨he, hg4⟩
 have BX4 := Aside0.mk (BX3.out.grown hg4 (by have := HG.out; omega))
 have HG4 := Aside0.mk (grown_then HG3.out hg4 (.inr rfl))
 have SL4 := Aside0.mk (AT3.out.sl.grown hg4 AT3.out.ne)
 have HS12 : Aside0 (w.heap.size ≤ w1.heap.size) := ⟨HB.out.size⟩
 clear hz0 hg4
 have hz2 := fun j => blk_cell BX4.out.b j
 have hf2 := fun j => blk_frozen BX4.out.b j
 by_cases hc : closeE ⟨b.f0, b.f1, b.f2, r, b.f4⟩ (upE (openE ⟨#[107]⟩) er) = 0
 ·rw [if_pos hc, hc] at he
  subst he
  have HC0 := Aside0.mk hc
  clear hc
  go_wp2
  have gS := set5_grown w4 (w.heap.size + 1) (.string b.f0) (.int .i64 b.f1) (.slice A2 b.f2.length c2) (.slice A4 r.length c4) (.int .u64 b.f4)
  have z := fun j => blk_cell (set5_blk BX4.out.b (.string b.f0) (.int .i64 b.f1) (.slice A2 b.f2.length c2) (.slice A4 r.length c4) (.int .u64 b.f4)) j
  refine bodyPost_ret (v := .tuple #[.agg #[.string b.f0, .int .i64 b.f1, (.slice A2 b.f2.length c2), (.slice A4 r.length c4), .int .u64 b.f4], .int .i64 0]) (by simp [results, Tryz.results65, go_sem, z]) rfl ?_
  have hB4 := below_of_grown HG4.out (by have := HG.out; omega)
  have hBf := hB4.grown gS hB4.size (fun k e => by cases e; omega)
  obtain ⟨h0, ho⟩ := close_zero HC0.out
  have her : er = 0 := by unfold upE at h0; split at h0 <;> omega
  obtain ⟨k, hk, hrk⟩ := HR.out her
  refine ⟨⟨b.f0, b.f1, b.f2, r, b.f4⟩, _, _, 0, rfl, (SL4.out.grown gS ?_).mono ?_, ok_ups HP.out (Int.le_refl _) HP.out.l (by rw [hrk]; exact PtPure.erase_ok HP.out.pts) ho (fun u hu => by rw [hrk] at hu; exact HP.out.us u (List.mem_of_mem_eraseIdx hu)), hBf⟩
  ·have hs1 := HB.out.size
   rintro k (hk | hk)
   ·have := hk.1.2; omega
   ·have := HSZ.out
    omega
  ·have hs1 := HS12.out
   rintro k (hk | hk)
   ·exact .inl hk.1.1
   ·exact .inr (by omega)
 ·rw [if_neg hc] at he
  subst he
  have HC0 := Aside0.mk hc
  clear hc
  generalize hq : closeE ⟨b.f0, b.f1, b.f2, r, b.f4⟩ (upE (openE ⟨#[107]⟩) er) = q at HC0
  clear hq
  go_wp2
  have gS := set5_grown w4 (w.heap.size + 1) (.string b.f0) (.int .i64 b.f1) (.slice A2 b.f2.length c2) (.slice A3 b.f3.length c3) (.int .u64 b.f4)
  have z := fun j => blk_cell (set5_blk BX4.out.b (.string b.f0) (.int .i64 b.f1) (.slice A2 b.f2.length c2) (.slice A3 b.f3.length c3) (.int .u64 b.f4)) j
  refine bodyPost_ret (v := .tuple #[.agg #[.string b.f0, .int .i64 b.f1, (.slice A2 b.f2.length c2), (.slice A3 b.f3.length c3), .int .u64 b.f4], .int .i64 q]) (by simp [results, Tryz.results65, go_sem, z]) rfl ?_
  have hB4 := below_of_grown HG4.out (by have := HG.out; omega)
  have hBf := hB4.grown gS hB4.size (fun k e => by cases e; omega)
  exact ⟨b, _, _, q, rfl, (HS.out.below hBf).mono (fun k hk => .inl hk), HP.out, hBf⟩
set_option maxRecDepth 100000 in
set_option maxHeartbeats 6400000 in
theorem begin_any (now : Int) (w : World) (ok : Nat → Prop) (b : B) (v2 v3 : Value) (key : ByteArray) (h : Sl w ok b v2 v3) (hb : Ok now b) :
  Calls Tryz.prog 63 #[.agg #[.string b.f0, .int .i64 b.f1, v2, v3, .int .u64 b.f4], .string key] w (Done3 now w ok) := by
 have HS := Aside0.mk h
 obtain ⟨⟨A2, c2, rfl, hc2, hF2⟩, ⟨A3, c3, rfl, hc3, hF3⟩⟩ := h
 have hu := Tryz.underlying40
 have hmf : ∀ (fn : Fn) (first cap : Array Value) (w : World), (Instr.makeFunc fn first cap).run Tryz.prog w = .ok (.func fn first cap) w := fun _ _ _ _ => rfl
 have HP := Aside0.mk hb
 clear hF2 hF3 hc2 hc3 hb
 go_enter Tryz.func63, Tryz.ntmps63
 go_wp2_with fail
 refine (open_any _ (fun k => ok k ∧ k < w.heap.size) b _ _ key (HS.out.bound.below (below_alloc (below_alloc (Below.refl w.heap.size w) (.cells #[.string b.f0, .int .i64 b.f1, .slice A2 b.f2.length c2, .slice A3 b.f3.length c3, .int .u64 b.f4] tB)) (.cells #[.string ⟨#[]⟩, .int .i64 0, .slice none 0 0, .slice none 0 0, .int .u64 0] tB))) HP.out.bucket).mono ?_
 rintro en w1 ⟨g, rfl, hg0, hAt0, hb1⟩
 rw [blk2s] at hg0 hAt0
 have hgl := hAt0.lt
 have BX := Aside0.mk (Two.mk (blk_below (BkTurn.blk2a w _ _) hb1) (blk_below (blk_push w _ _) hb1))
 have AT := Aside0.mk hAt0
 have HB := Aside0.mk (below_step (below_alloc (below_alloc (Below.refl w.heap.size w) (.cells #[.string b.f0, .int .i64 b.f1, .slice A2 b.f2.length c2, .slice A3 b.f3.length c3, .int .u64 b.f4] tB)) (.cells #[.string ⟨#[]⟩, .int .i64 0, .slice none 0 0, .slice none 0 0, .int .u64 0] tB)) hb1)
 have HG := Aside0.mk hg0
 have HSZ : Aside0 (w.heap.size + 1 < w1.heap.size) := ⟨by have := hb1.size; rw [blk2s] at this; omega⟩
 clear hb1 hgl hg0
 go_wp2_with fail
 refine (next_any _ g _ b _ _ (openE key) AT.out HP.out.l0 HP.out.l).mono ?_
 rintro en w2 ⟨rfl, hAt2, hg2⟩
 obtain ⟨n, hn⟩ : ∃ n, n = b.f4 + 1 := ⟨_, rfl⟩
 obtain ⟨e1, he1⟩ : ∃ e1, e1 = nextE b (openE key) := ⟨_, rfl⟩
 rw [← he1, ← hn] at hAt2
 rw [← hn]
 have BX2 := Aside0.mk (BX.out.grown hg2 (by have := HG.out; omega))
 have HG2 := Aside0.mk (grown_then (grown_of_below HB.out (some g)) hg2 (.inr rfl))
 have HS2 := Aside0.mk hg2.size
 have AT2 := Aside0.mk hAt2
 have HE : Aside0 (e1 = 0 → Name.keyB key = true ∧ b.f4 < 281474976710655) := ⟨fun h0 => by
  rw [he1] at h0
  unfold nextE at h0
  split at h0
  ·cases h0
  ·rename_i hx
   have h1 : openE key = 0 := h0
   exact ⟨BkLay.openE_zero h1, by have : ¬ b.f4 ≥ 281474976710655 := fun h => hx ⟨h, h1⟩; omega⟩⟩
 have HN := Aside0.mk hn
 have hz := fun j => blk_cell hAt2.blk j
 clear hg2 hAt0 hAt2 he1 hn
 have HNE : Aside0 (∀ k, ((ok k ∧ k < w.heap.size) ∧ k < w.heap.size + 1 + 1) ∨ w2.heap.size ≤ k → k ≠ g) := ⟨by
  have h1 := HG.out
  have h2 := AT2.out.lt
  rintro k (hk | hk)
  ·have := hk.2; omega
  ·omega⟩
 by_cases hz1 : e1 = 0
 case' pos =>
  have d1 : (e1 == 0) = true := beq_iff_eq.mpr hz1
  have HZ := Aside0.mk hz1
  clear hz1
  go_wp2_with fail
  refine (PtBegin.begin_any w2 _ _ b.f3 n key HP.out.pts AT2.out.sl.r3 (by have := HP.out.l0; have := HN.out; omega) (by have := (HE.out HZ.out).2; have := HN.out; omega) (HE.out HZ.out).1 (fun u hu => by have := HP.out.us u hu; have := HN.out; omega)).mono ?_
  rintro en w3 ⟨v, r, er, rfl, hV, hR, hb3⟩
  obtain ⟨A4, c4, rfl⟩ := Kd.V_slice hV
  have AT3 := Aside0.mk ((AT2.out.below hb3).mono (ok' := fun k => ((ok k ∧ k < w.heap.size) ∧ k < w.heap.size + 1 + 1) ∨ w2.heap.size ≤ k) (fun k hk => .inl hk) HNE.out)
  have HV := Aside0.mk (show Rd kU w3 _ (.slice A4 r.length c4) r from hV)
  have HR := Aside0.mk hR
  have HB3 := Aside0.mk hb3
  clear hV hR hb3 hz
  go_wp2_with fail
  refine (uploads_any w3 g _ ⟨b.f0, b.f1, b.f2, b.f3, n⟩ _ _ _ AT3.out (.slice A4 r.length c4) r er HV.out).mono ?_
  rintro en w5 ⟨rfl, hAt5, hg5⟩
  have BX5 := Aside0.mk ((BX2.out.grown (grown_of_below HB3.out (some g)) (by have := HG.out; omega)).grown hg5 (by have := HG.out; omega))
  have HG5 := Aside0.mk (grown_then (grown_then HG2.out (grown_of_below HB3.out (some g)) (.inr rfl)) hg5 (.inr rfl))
  obtain ⟨e5, he5⟩ : ∃ e5, e5 = upE e1 er := ⟨_, rfl⟩
  rw [← he5] at hAt5
  have AT5 := Aside0.mk hAt5
  have HF : Aside0 (e5 = 0 → e1 = 0 ∧ partsB r = true ∧ ∀ u ∈ r, u.f0 ≤ n) := ⟨fun h0 => by
   have her : er = 0 := by rw [he5] at h0; unfold upE at h0; split at h0 <;> omega
   obtain ⟨hr, hl⟩ := HR.out her
   have hz := HZ.out
   have hN := HN.out
   obtain ⟨k1, k2⟩ := HE.out hz
   have h0' := HP.out.l0
   refine ⟨hz, by rw [hr]; exact PtPure.begin_ok HP.out.pts (by omega) (by omega) k1 (fun u hu => by have := HP.out.us u hu; omega) hl, fun u hu => ?_⟩
   rw [hr] at hu
   rcases List.mem_append.1 hu with hu | hu
   ·have := HP.out.us u hu; omega
   ·rw [List.mem_singleton] at hu; rw [hu]; exact Int.le_refl _⟩
  have hz0 := fun j => blk_cell BX5.out.a j
  clear hAt5 hg5 he5 HV HR HB3 AT3 HG2 BX2
  go_wp2_with fail
 case' neg =>
  have d1 : (e1 == 0) = false := beq_eq_false_iff_ne.mpr hz1
  obtain ⟨w5, hw5⟩ : ∃ w5, w5 = w2 := ⟨_, rfl⟩
  obtain ⟨r, hr⟩ : ∃ r, r = b.f3 := ⟨_, rfl⟩
  obtain ⟨A4, hA4⟩ : ∃ A, A = A3 := ⟨_, rfl⟩
  obtain ⟨c4, hc4⟩ : ∃ A, A = c3 := ⟨_, rfl⟩
  obtain ⟨e5, he5⟩ : ∃ e5, e5 = e1 := ⟨_, rfl⟩
  have BX5 : Aside0 (Two w5 w.heap.size _ _) := ⟨by rw [hw5]; exact BX2.out⟩
  have HG5 : Aside0 (w.grownBy w5 (some g)) := ⟨by rw [hw5]; exact HG2.out⟩
  have AT5 : Aside0 (At w5 g _ ⟨b.f0, b.f1, b.f2, r, n⟩ (.slice A2 b.f2.length c2) (.slice A4 r.length c4) e5) := ⟨by rw [hw5, hr, hA4, hc4, he5]; exact AT2.out.mono (ok' := fun k => ((ok k ∧ k < w.heap.size) ∧ k < w.heap.size + 1 + 1) ∨ w2.heap.size ≤ k) (fun k hk => .inl hk) HNE.out⟩
  have HF : Aside0 (e5 = 0 → e1 = 0 ∧ partsB r = true ∧ ∀ u ∈ r, u.f0 ≤ n) := ⟨fun h0 => absurd (he5 ▸ h0) hz1⟩
  have hz0 := fun j => blk_cell BX2.out.a j
  clear HG2 BX2
  go_wp2_with fail
  rw [← hw5]
  clear hz1 hz hz0 d1 hw5 hr hA4 hc4 he5
 all_goals
  refine (close_any w5 g _ ⟨b.f0, b.f1, b.f2, r, n⟩ _ _ _ AT5.out (fun h0 => ⟨HP.out.idx, (HF.out h0).2.1⟩) b.f0 b.f1 b.f4 A2 A3 _ _ c2 c3).mono ?_
  rintro en w6 ⟨he, hg6⟩
  have BX6 := Aside0.mk (BX5.out.grown hg6 (by have := HG.out; omega))
  have HG6 := Aside0.mk (grown_then HG5.out hg6 (.inr rfl))
  have SL6 := Aside0.mk (AT5.out.sl.grown hg6 AT5.out.ne)
  have HSW : Aside0 (w.heap.size + 1 < w6.heap.size) := ⟨by have := blk_lt BX6.out.b; exact this⟩
  clear hg6
  (try clear hz)
  (try clear hz0)
  (try clear hz)
  have hz0 := fun (o : Obj) j => blk_cell (blk_alloc BX6.out.a o) j
  have hz2 := fun (o : Obj) j => blk_cell (blk_alloc BX6.out.b o) j
  have hf2 := fun (o : Obj) j => blk_frozen (blk_alloc BX6.out.b o) j
  by_cases hc : closeE ⟨b.f0, b.f1, b.f2, r, n⟩ e5 = 0
  case' pos =>
   rw [if_pos hc, hc] at he
   subst he
   have HC0 := Aside0.mk hc
   clear hc
   go_wp2
   have gS := set5_grown (w6.alloc (.cells #[.string b.f0, .int .i64 b.f1, .slice A2 b.f2.length c2, .slice A4 r.length c4, .int .u64 n] tB)) (w.heap.size + 1) (.string b.f0) (.int .i64 b.f1) (.slice A2 b.f2.length c2) (.slice A4 r.length c4) (.int .u64 n)
   have z := fun j => blk_cell (set5_blk (blk_alloc BX6.out.b (.cells #[.string b.f0, .int .i64 b.f1, .slice A2 b.f2.length c2, .slice A4 r.length c4, .int .u64 n] tB)) (.string b.f0) (.int .i64 b.f1) (.slice A2 b.f2.length c2) (.slice A4 r.length c4) (.int .u64 n)) j
   refine bodyPost_ret (v := .tuple #[.agg #[.string b.f0, .int .i64 b.f1, (.slice A2 b.f2.length c2), (.slice A4 r.length c4), .int .u64 n], .int .u64 n, .int .i64 0]) (by simp [results, Tryz.results63, go_sem, z]) rfl ?_
   have hB6 := below_alloc (below_of_grown HG6.out (by have := HG.out; omega)) (.cells #[.string b.f0, .int .i64 b.f1, .slice A2 b.f2.length c2, .slice A4 r.length c4, .int .u64 n] tB)
   have hBf := hB6.grown gS hB6.size (fun k e => by cases e; omega)
   obtain ⟨h0, ho⟩ := close_zero HC0.out
   obtain ⟨f1, f2, f3⟩ := HF.out h0
   have hN := HN.out
   have hl := (HE.out f1).2
   have hs1 := HSZ.out
   have hs2 := HS2.out
   refine ⟨⟨b.f0, b.f1, b.f2, r, n⟩, _, _, n, 0, rfl, ((SL6.out.below (below_alloc (Below.refl _ _) _)).grown gS ?_).mono ?_, ok_ups HP.out (by omega) (by omega) f2 ho f3, hBf⟩
   ·rintro k (hk | hk)
    ·have := hk.1.2; omega
    ·omega
   ·rintro k (hk | hk)
    ·exact .inl hk.1.1
    ·exact .inr (by omega)
  case' neg =>
   rw [if_neg hc] at he
   subst he
   have d2 : (closeE ⟨b.f0, b.f1, b.f2, r, n⟩ e5 != 0) = true := bne_iff_ne.mpr hc
   have HC0 := Aside0.mk hc
   clear hc
   generalize hq : closeE ⟨b.f0, b.f1, b.f2, r, n⟩ e5 = q at d2 HC0
   clear hq
   go_wp2
   have gS := set5_grown (w6.alloc (.cells #[.string b.f0, .int .i64 b.f1, .slice A2 b.f2.length c2, .slice A3 b.f3.length c3, .int .u64 b.f4] tB)) (w.heap.size + 1) (.string b.f0) (.int .i64 b.f1) (.slice A2 b.f2.length c2) (.slice A3 b.f3.length c3) (.int .u64 b.f4)
   have z := fun j => blk_cell (set5_blk (blk_alloc BX6.out.b (.cells #[.string b.f0, .int .i64 b.f1, .slice A2 b.f2.length c2, .slice A3 b.f3.length c3, .int .u64 b.f4] tB)) (.string b.f0) (.int .i64 b.f1) (.slice A2 b.f2.length c2) (.slice A3 b.f3.length c3) (.int .u64 b.f4)) j
   refine bodyPost_ret (v := .tuple #[.agg #[.string b.f0, .int .i64 b.f1, (.slice A2 b.f2.length c2), (.slice A3 b.f3.length c3), .int .u64 b.f4], .int .u64 0, .int .i64 q]) (by simp [results, Tryz.results63, go_sem, z]) rfl ?_
   have hB6 := below_alloc (below_of_grown HG6.out (by have := HG.out; omega)) (.cells #[.string b.f0, .int .i64 b.f1, .slice A2 b.f2.length c2, .slice A3 b.f3.length c3, .int .u64 b.f4] tB)
   have hBf := hB6.grown gS hB6.size (fun k e => by cases e; omega)
   exact ⟨b, _, _, 0, q, rfl, (HS.out.below hBf).mono (fun k hk => .inl hk), HP.out, hBf⟩
end Go.Proofs.YtpccbmechgkogaaGreatDoor.BkUps
