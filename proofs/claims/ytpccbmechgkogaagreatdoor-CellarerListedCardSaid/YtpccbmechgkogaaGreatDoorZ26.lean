/-
  Lemmas: BkWhole.
-/
import Derived.BigRegion
import Derived.RegionTactic
import Derived.Test.YtpccbmechgkogaaGreatDoorProg
import Derived.Test.YtpccbmechgkogaaGreatDoorV0
import Derived.Test.YtpccbmechgkogaaGreatDoorZ01
import Derived.Test.YtpccbmechgkogaaGreatDoorZ02
import Derived.Test.YtpccbmechgkogaaGreatDoorZ04
import Derived.Test.YtpccbmechgkogaaGreatDoorZ05
import Derived.Test.YtpccbmechgkogaaGreatDoorZ06
import Derived.Test.YtpccbmechgkogaaGreatDoorZ07
import Derived.Test.YtpccbmechgkogaaGreatDoorZ08
import Derived.Test.YtpccbmechgkogaaGreatDoorZ10
import Derived.Test.YtpccbmechgkogaaGreatDoorZ11
import Derived.Test.YtpccbmechgkogaaGreatDoorZ14
import Derived.Test.YtpccbmechgkogaaGreatDoorZ15
import Derived.Test.YtpccbmechgkogaaGreatDoorZ16
import Derived.Test.YtpccbmechgkogaaGreatDoorZ17
import Derived.Test.YtpccbmechgkogaaGreatDoorZ18
import Derived.Test.YtpccbmechgkogaaGreatDoorZ19
import Derived.Test.YtpccbmechgkogaaGreatDoorZ21
import Derived.Test.YtpccbmechgkogaaGreatDoorZ22
import Derived.Test.YtpccbmechgkogaaGreatDoorZ23
import Derived.Test.YtpccbmechgkogaaGreatDoorZ25
set_option linter.unusedVariables false
set_option linter.unusedSimpArgs false
namespace Go.Proofs.YtpccbmechgkogaaGreatDoor.BkWhole
open Go.RowKit Go.Proofs.YtpccbmechgkogaaGreatDoor.P Go.Proofs.YtpccbmechgkogaaGreatDoorW.PrintWords Go.Proofs.YtpccbmechgkogaaGreatDoorW.PrintLast Go.Proofs.YtpccbmechgkogaaGreatDoorW.PrintMore Go.Proofs.YtpccbmechgkogaaGreatDoor.PureKit Go.Proofs.YtpccbmechgkogaaGreatDoor.BkSpec Go.Proofs.YtpccbmechgkogaaGreatDoor.Wk Go.Proofs.YtpccbmechgkogaaGreatDoor.Close Go.Proofs.YtpccbmechgkogaaGreatDoor.Open Go.Proofs.YtpccbmechgkogaaGreatDoor.BkOk Go.Proofs.YtpccbmechgkogaaGreatDoor.BkPut Go.Proofs.YtpccbmechgkogaaGreatDoor.PtBegin Go.Proofs.YtpccbmechgkogaaGreatDoor.PtAbort Go.Proofs.YtpccbmechgkogaaGreatDoor.BkUps Go.Proofs.YtpccbmechgkogaaGreatDoor.PtLack
def Done4 (now : Int) (w : World) (ok : Nat → Prop) (en : Ending) (w' : World) : Prop :=
 ∃ (b' : B) (v2 v3 : Value) (id : Int) (t : ByteArray) (er : Int), en = .returned (.tuple #[.agg #[.string b'.f0, .int .i64 b'.f1, v2, v3, .int .u64 b'.f4], .int .u64 id, .string t, .int .i64 er]) ∧ Sl w' (fun k => ok k ∨ w.heap.size ≤ k) b' v2 v3 ∧ Ok now b' ∧ Below w.heap.size w w'
structure Drawn (now : Int) (W : World) (ok : Nat → Prop) (b' : B) (v2 v3 : Value) (q : Nat) (w' : World) : Prop where
 sl : Sl w' (fun k => (ok k ∨ W.heap.size ≤ k) ∧ k ≠ q) b' v2 v3
 okb : Ok now b'
 z : w'.heap[q]? = some (.cells #[.string ⟨#[]⟩, .int .i64 0, .slice none 0 0, .slice none 0 0, .int .u64 0] tB)
 q0 : W.heap.size ≤ q
 bel : Below W.heap.size W w'
theorem drawn_call {now : Int} {W w7 : World} {ok : Nat → Prop} {b' : B} {v2 v3 : Value} (h : Sl w7 (fun k => ok k ∨ W.drew.heap.size ≤ k) b' v2 v3) (hb : Ok now b') (hB : Below W.heap.size W w7) (hk : ∀ k, ok k → k < W.heap.size) : Drawn now W ok b' v2 v3 w7.heap.size (w7.alloc (.cells #[.string ⟨#[]⟩, .int .i64 0, .slice none 0 0, .slice none 0 0, .int .u64 0] tB)) :=
 ⟨(h.bound.below (below_alloc (Below.refl _ _) _)).mono (fun k hk => ⟨hk.1, by have := hk.2; omega⟩), hb, blk_new w7 _, hB.size, below_alloc hB _⟩
theorem drawn_box {now : Int} {W w7 : World} {ok : Nat → Prop} {b' : B} {v2 v3 : Value} (h : Sl w7 (fun k => ok k ∨ (W.drew.alloc (.cells #[.string ⟨#[]⟩, .int .i64 0, .slice none 0 0, .slice none 0 0, .int .u64 0] tB)).heap.size ≤ k) b' v2 v3) (hb : Ok now b') (hB : Below (W.drew.alloc (.cells #[.string ⟨#[]⟩, .int .i64 0, .slice none 0 0, .slice none 0 0, .int .u64 0] tB)).heap.size (W.drew.alloc (.cells #[.string ⟨#[]⟩, .int .i64 0, .slice none 0 0, .slice none 0 0, .int .u64 0] tB)) w7) (hk : ∀ k, ok k → k < W.heap.size) : Drawn now W ok b' v2 v3 W.heap.size w7 := by
 have hs : (W.drew.alloc (.cells #[.string ⟨#[]⟩, .int .i64 0, .slice none 0 0, .slice none 0 0, .int .u64 0] tB)).heap.size = W.heap.size + 1 := Array.size_push _
 rw [hs] at h
 exact ⟨h.mono (fun k hk' => ⟨hk'.imp id (fun h => by omega), by rcases hk' with h | h; (have := hk k h; omega); omega⟩), hb, blk_below (blk_new W.drew _) hB, Nat.le_refl _, below_step (below_alloc (below_drew (Below.refl _ _)) _) hB⟩
theorem octP_nonneg (l : List P) : 0 ≤ octP l := by
 unfold octP
 induction l with
 | nil => simp
 | cons a l ih => simp only [List.map_cons, List.sum_cons]; omega
theorem octU_erase : ∀ (l : List U) (k : Nat), octU (l.eraseIdx k) ≤ octU l
 | [], k => by simp
 | a :: l, 0 => by
  have := octP_nonneg a.f2
  simp only [List.eraseIdx_cons_zero, octU, List.map_cons, List.sum_cons]
  omega
 | a :: l, k + 1 => by
  have := octU_erase l k
  simp only [octU] at this
  simp only [List.eraseIdx_cons_succ, octU, List.map_cons, List.sum_cons]
  omega
def Noted (w : World) (g : Nat) (ok : Nat → Prop) (b : B) (v2 v3 : Value) (e er : Int) (en : Ending) (w' : World) : Prop := en = .returned (.tuple #[]) ∧ At w' g ok b v2 v3 (upE e er) ∧ w.grownBy w' (some g)
set_option maxRecDepth 100000 in
set_option maxHeartbeats 1600000 in
theorem no_any (w : World) (g : Nat) (ok : Nat → Prop) (b : B) (v2 v3 : Value) (e : Int) (h : At w g ok b v2 v3 e) (er : Int) :
  Calls Tryz.prog 113 #[.pointer (some ⟨g, 0, none⟩), .bool (er != 0), .int .i64 er] w (Noted w g ok b v2 v3 e er) := by
 have H := Aside0.mk h
 have hz := fun j => blk_cell h.blk j
 have hf := fun j => blk_frozen h.blk j
 clear h
 by_cases hr : er = 0
 ·have d1 : (er != 0) = false := bne_eq_false_iff_eq.mpr hr
  have HE : Aside0 (upE e er = e) := ⟨by unfold upE; split <;> omega⟩
  rw [d1]
  clear hr d1
  go_enter Tryz.func113, Tryz.ntmps113
  go_wp2
  (first | go_end0 | ((try simp only [Exit.inBlock, Exit.then]); refine bodyPost_ret (results_none rfl _ _ _) rfl ?_))
  exact ⟨rfl, by rw [HE.out]; exact H.out, World.grownBy.refl _ _⟩
 ·have d1 : (er != 0) = true := bne_iff_ne.mpr hr
  rw [d1]
  clear d1
  by_cases he : e = 0
  ·subst he
   have HE : Aside0 (upE 0 er = er) := ⟨rfl⟩
   clear hr
   go_enter Tryz.func113, Tryz.ntmps113
   go_wp2
   (first | go_end0 | ((try simp only [Exit.inBlock, Exit.then]); refine bodyPost_ret (results_none rfl _ _ _) rfl ?_))
   exact ⟨rfl, by rw [HE.out]; exact H.out.setE er, grown_set w g 5 _⟩
  ·have d2 : (e == 0) = false := beq_eq_false_iff_ne.mpr he
   have HE : Aside0 (upE e er = e) := ⟨by unfold upE; rw [if_neg he]⟩
   clear hr he
   go_enter Tryz.func113, Tryz.ntmps113
   go_wp2
   (first | go_end0 | ((try simp only [Exit.inBlock, Exit.then]); refine bodyPost_ret (results_none rfl _ _ _) rfl ?_))
   exact ⟨rfl, by rw [HE.out]; exact H.out, World.grownBy.refl _ _⟩
set_option maxRecDepth 100000 in
set_option maxHeartbeats 12800000 in
theorem whole_any (now : Int) (w : World) (ok : Nat → Prop) (b : B) (v2 v3 : Value) (id : Int) (D : Option Addr) (d : Nat) (l : List I) (h : Sl w ok b v2 v3) (hb : Ok now b) (hl : Kd.C kI w D l.length l) (hd : l.length ≤ d) (hn : l.length ≤ 40) :
  Calls Tryz.prog 66 #[.agg #[.string b.f0, .int .i64 b.f1, v2, v3, .int .u64 b.f4], .int .u64 id, .slice D l.length d, .int .i64 now] w (Done4 now w ok) := by
 have huu := Tryz.underlying131
 have HPC := Aside0.mk (And.intro hl (And.intro hd hn))
 clear hl hd hn
 have HS := Aside0.mk h
 obtain ⟨⟨A2, c2, rfl, hc2, hF2⟩, ⟨A3, c3, rfl, hc3, hF3⟩⟩ := h
 have hu := Tryz.underlying40
 have hmf : ∀ (fn : Fn) (first cap : Array Value) (w : World), (Instr.makeFunc fn first cap).run Tryz.prog w = .ok (.func fn first cap) w := fun _ _ _ _ => rfl
 have HP := Aside0.mk hb
 clear hF2 hF3 hc2 hc3 hb
 go_enter Tryz.func66, Tryz.ntmps66
 go_wp2_with fail
 refine (open_any _ (fun k => ok k ∧ k < w.heap.size) b _ _ _ (HS.out.bound.below (below_alloc (below_alloc (Below.refl w.heap.size w) (.cells #[.string b.f0, .int .i64 b.f1, .slice A2 b.f2.length c2, .slice A3 b.f3.length c3, .int .u64 b.f4] tB)) (.cells #[.string ⟨#[]⟩, .int .i64 0, .slice none 0 0, .slice none 0 0, .int .u64 0] tB))) HP.out.bucket).mono ?_
 rintro en w1 ⟨g, rfl, hg0, hAt0, hb1⟩
 rw [blk2s] at hg0 hAt0
 have BX := Aside0.mk (Two.mk (blk_below (BkTurn.blk2a w _ _) hb1) (blk_below (blk_push w _ _) hb1))
 obtain ⟨e1, he1⟩ : ∃ e1, e1 = openE ⟨#[107]⟩ := ⟨_, rfl⟩
 rw [← he1] at hAt0
 have AT := Aside0.mk hAt0
 have HB := Aside0.mk (below_step (below_alloc (below_alloc (Below.refl w.heap.size w) (.cells #[.string b.f0, .int .i64 b.f1, .slice A2 b.f2.length c2, .slice A3 b.f3.length c3, .int .u64 b.f4] tB)) (.cells #[.string ⟨#[]⟩, .int .i64 0, .slice none 0 0, .slice none 0 0, .int .u64 0] tB)) hb1)
 have HG := Aside0.mk hg0
 have HSZ : Aside0 (w.heap.size + 1 < w1.heap.size) := ⟨by have := hb1.size; rw [blk2s] at this; omega⟩
 have hz := fun j => blk_cell hAt0.blk j
 clear hb1 hg0 hAt0 he1
 go_wp2_with fail
 refine (PtAbort.find_any w1 _ _ b.f3 id HP.out.pts AT.out.sl.r3).mono ?_
 rintro en w2 ⟨u, v, er, rfl, hV, hu1, hu2, hb2⟩
 obtain ⟨A5, c5, rfl⟩ := Kd.V_slice hV
 have HUP : Aside0 (upB u = true ∨ u = PtData.zU) := ⟨by
  by_cases h0 : er = 0
  ·exact .inl ((PtPure.parts_iff.1 HP.out.pts).2.1 u (hu1 h0))
  ·exact .inr (hu2 h0)⟩
 have HNE : Aside0 (∀ k, ((ok k ∧ k < w.heap.size) ∧ k < w.heap.size + 1 + 1) ∨ w1.heap.size ≤ k → k ≠ g) := ⟨by
  have h1 := HG.out
  have h2 := AT.out.lt
  rintro k (hk | hk)
  ·have := hk.2; omega
  ·omega⟩
 have hsz3 : (w2.alloc (.cells #[.int .u64 u.f0, .string u.f1, .slice A5 u.f2.length c5] tU)).heap.size = w2.heap.size + 1 := Array.size_push _
 have HQ5 : Aside0 (g < w2.heap.size ∧ w1.heap.size ≤ w2.heap.size) := ⟨Nat.lt_of_lt_of_le AT.out.lt hb2.size, hb2.size⟩
 obtain ⟨w3, hw3⟩ : ∃ w3, w3 = w2.alloc (.cells #[.int .u64 u.f0, .string u.f1, .slice A5 u.f2.length c5] tU) := ⟨_, rfl⟩
 have hB23 : Below w2.heap.size w2 w3 := by rw [hw3]; exact below_alloc (Below.refl _ _) _
 obtain ⟨q5, hq5⟩ : ∃ q5, q5 = w2.heap.size := ⟨_, rfl⟩
 have HBX5 : Aside0 (w3.heap[q5]? = some (.cells #[.int .u64 u.f0, .string u.f1, .slice A5 u.f2.length c5] tU)) := ⟨by rw [hw3, hq5]; exact blk_new w2 _⟩
 have HB3 := Aside0.mk (below_step (below_step HB.out hb2) hB23)
 have HG3 := Aside0.mk (grown_of_below HB3.out (some g))
 have BX3 := Aside0.mk ((BX.out.grown (grown_of_below (below_step hb2 hB23) (some g)) (by have := HG.out; omega)))
 have AT3 := Aside0.mk ((AT.out.below (below_step hb2 hB23)).mono (ok' := fun k => ((ok k ∧ k < w.heap.size) ∧ k < w.heap.size + 1 + 1) ∨ w1.heap.size ≤ k) (fun k hk => .inl hk) HNE.out)
 have HV3 := Aside0.mk (Kd.V_below (show Rd PtAbort.kP w2 _ (.slice A5 u.f2.length c5) u.f2 from hV) hB23)
 have HQG : Aside0 (q5 ≠ g ∧ w.heap.size + 1 < q5 ∧ w1.heap.size ≤ q5) := ⟨by have := HQ5.out; have := HSZ.out; omega⟩
 clear hV hu1 hu2 hb2 hz hB23 hsz3
 go_wp2_with fail
 rw [← hw3]
 rw [← hq5]
 clear hw3 hq5
 refine (no_any w3 g _ b _ _ e1 AT3.out er).mono ?_
 rintro en w4 ⟨rfl, hAt4, hg4⟩
 obtain ⟨e4, he4⟩ : ∃ e4, e4 = upE e1 er := ⟨_, rfl⟩
 rw [← he4] at hAt4
 have AT4 := Aside0.mk hAt4
 have BX4 := Aside0.mk (BX3.out.grown hg4 (by have := HG.out; omega))
 have HBX4 := Aside0.mk (grown_blk hg4 HBX5.out HQG.out.1)
 have HG4 := Aside0.mk (grown_then HG3.out hg4 (.inr rfl))
 have HV4 := Aside0.mk (Kd.V_grown HV3.out hg4 (fun k ho e => HNE.out k (.inl ho) (Option.some.inj e)))
 have hz := fun j => blk_cell HBX4.out j
 clear hAt4 hg4 he4
 go_wp2_with fail
 have hRd := HV4.out
 obtain ⟨A', c', e', hc5, hF5⟩ := hRd
 injection e' with eA _ ec
 subst eA
 subst ec
 refine (PtWhole.whole_any w4 u A5 c5 D d l HUP.out (Kd.F_now hF5) hc5 (Kd.C_below HPC.out.1 (below_of_grown HG4.out (by have := HG.out; omega))) HPC.out.2.1 HPC.out.2.2).mono ?_
 rintro en w5 ⟨s, t, er2, rfl, hb5⟩
 have AT5 := Aside0.mk (AT4.out.below hb5)
 have BX5 := Aside0.mk (BX4.out.grown (grown_of_below hb5 (some g)) (by have := HG.out; omega))
 have HBX5 := Aside0.mk (blk_below HBX4.out hb5)
 have HG5 := Aside0.mk (grown_then HG4.out (grown_of_below hb5 (some g)) (.inr rfl))
 clear hb5 hc5 hF5 hz
 go_wp2_with fail
 refine (no_any w5 g _ b _ _ e4 AT5.out er2).mono ?_
 rintro en w6 ⟨rfl, hAt6, hg6⟩
 obtain ⟨e6, he6⟩ : ∃ e6, e6 = upE e4 er2 := ⟨_, rfl⟩
 rw [← he6] at hAt6
 have ATx := Aside0.mk hAt6
 have BXx := Aside0.mk (BX5.out.grown hg6 (by have := HG.out; omega))
 have HBXx := Aside0.mk (grown_blk hg6 HBX5.out HQG.out.1)
 have HGx := Aside0.mk (grown_then HG5.out hg6 (.inr rfl))
 have hz := fun j => blk_cell hAt6.blk j
 clear hAt6 hg6 he6
 by_cases h0 : e6 = 0
 case' pos =>
  have d1 : (e6 == 0) = true := beq_iff_eq.mpr h0
  have HZ := Aside0.mk h0
  clear h0
  go_wp2_with fail
  refine (PtAbort.abort_any w6 _ _ b.f3 id HP.out.pts ATx.out.sl.r3).mono ?_
  rintro en w8 ⟨v, r, er3, rfl, hV, hR, hb8⟩
  obtain ⟨A4, c4, rfl⟩ := Kd.V_slice hV
  have HNE8 : Aside0 (∀ k, (((ok k ∧ k < w.heap.size) ∧ k < w.heap.size + 1 + 1) ∨ w1.heap.size ≤ k ∧ k ≠ g) ∨ w6.heap.size ≤ k → k ≠ g) := ⟨by
   have h1 := HG.out
   have h2 := ATx.out.lt
   rintro k ((hk | hk) | hk)
   ·have := hk.2; omega
   ·exact hk.2
   ·omega⟩
  have AT8 := Aside0.mk ((ATx.out.below hb8).mono (ok' := fun k => (((ok k ∧ k < w.heap.size) ∧ k < w.heap.size + 1 + 1) ∨ w1.heap.size ≤ k ∧ k ≠ g) ∨ w6.heap.size ≤ k) (fun k hk => .inl (hk.imp (fun h => h) (fun h => ⟨h, HNE.out k (.inr h)⟩))) HNE8.out)
  have HV := Aside0.mk (Kd.V_mono (show Rd kU w8 _ (.slice A4 r.length c4) r from hV) (fun k hk => show (((ok k ∧ k < w.heap.size) ∧ k < w.heap.size + 1 + 1) ∨ w1.heap.size ≤ k ∧ k ≠ g) ∨ w6.heap.size ≤ k from hk.imp (fun h => h.imp (fun h => h) (fun h => ⟨h, HNE.out k (.inr h)⟩)) (fun h => h)))
  have HR := Aside0.mk hR
  have BX8 := Aside0.mk (BXx.out.grown (grown_of_below hb8 (some g)) (by have := HG.out; omega))
  have HBX8 := Aside0.mk (blk_below HBXx.out hb8)
  have HG8 := Aside0.mk (grown_then HGx.out (grown_of_below hb8 (some g)) (.inr rfl))
  clear hV hR hb8 hz
  go_wp2_with fail
  refine (uploads_any w8 g _ b _ _ _ AT8.out (.slice A4 r.length c4) r er3 HV.out).mono ?_
  rintro en w9 ⟨rfl, hAt9, hg9⟩
  obtain ⟨e9, he9⟩ : ∃ e9, e9 = upE e6 er3 := ⟨_, rfl⟩
  rw [← he9] at hAt9
  have AT9 := Aside0.mk hAt9
  have BX9 := Aside0.mk (BX8.out.grown hg9 (by have := HG.out; omega))
  have HBX9 := Aside0.mk (grown_blk hg9 HBX8.out HQG.out.1)
  have HG9 := Aside0.mk (grown_then HG8.out hg9 (.inr rfl))
  have HOK : Aside0 (e9 = 0 → Ok now ⟨b.f0, b.f1, b.f2, r, b.f4⟩) := ⟨fun h0 => by
   have her : er3 = 0 := by rw [he9] at h0; unfold upE at h0; split at h0 <;> omega
   obtain ⟨k, hk, hrk⟩ := HR.out her
   have ho := octU_erase b.f3 k
   exact ok_ups HP.out (Int.le_refl _) HP.out.l (by rw [hrk]; exact PtPure.erase_ok HP.out.pts) (by rw [hrk]; have := HP.out.oct; omega) (fun u hu => by rw [hrk] at hu; exact HP.out.us u (List.mem_of_mem_eraseIdx hu))⟩
  obtain ⟨okr, ATR, HOKR⟩ : ∃ okr : Nat → Prop, Aside0 (At w9 g okr ⟨b.f0, b.f1, b.f2, r, b.f4⟩ (.slice A2 b.f2.length c2) (.slice A4 r.length c4) e9) ∧ Aside0 (∀ k, okr k → (ok k ∧ k < w.heap.size) ∨ w1.heap.size ≤ k) := ⟨_, AT9, ⟨by
   have h1 := HQG.out
   have h2 := HBXx.out
   have h3 := blk_lt h2
   rintro k ((hk | hk) | hk)
   ·exact .inl hk.1
   ·exact .inr hk.1
   ·exact .inr (by omega)⟩⟩
  have hz := fun j => blk_cell hAt9.blk j
  clear hAt9 hg9 he9 d1 AT9 HNE8
  have AT9 := ATR
  clear ATR
  by_cases hq : e9 = 0
  case' pos =>
   have d2 : (e9 != 0) = false := bne_eq_false_iff_eq.mpr hq
   subst hq
   have HS0 : Aside0 (w9.cell? ⟨g, 0, none⟩ = some (.string b.f0)) := ⟨(hz 0).trans rfl⟩
   have HS1 : Aside0 (w9.cell? ⟨g, 1, none⟩ = some (.int .i64 b.f1)) := ⟨(hz 1).trans rfl⟩
   have HS2 : Aside0 (w9.cell? ⟨g, 2, none⟩ = some (.slice A2 b.f2.length c2)) := ⟨(hz 2).trans rfl⟩
   have HS3 : Aside0 (w9.cell? ⟨g, 3, none⟩ = some (.slice A4 r.length c4)) := ⟨(hz 3).trans rfl⟩
   have HS4 : Aside0 (w9.cell? ⟨g, 4, none⟩ = some (.int .u64 b.f4)) := ⟨(hz 4).trans rfl⟩
   have HS5 : Aside0 (w9.cell? ⟨q5, 1, none⟩ = some (.string u.f1)) := ⟨(blk_cell HBX9.out 1).trans rfl⟩
   have HOK0 := Aside0.mk (HOK.out rfl)
   clear HOK
   go_wp2_with fail
   refine start_ (n := 17) (S := fun w' => w'.cell? ⟨g, 0, none⟩ = some (.string b.f0) ∧ w'.cell? ⟨g, 1, none⟩ = some (.int .i64 b.f1) ∧ w'.cell? ⟨g, 2, none⟩ = some (.slice A2 b.f2.length c2) ∧ w'.cell? ⟨g, 3, none⟩ = some (.slice A4 r.length c4) ∧ w'.cell? ⟨g, 4, none⟩ = some (.int .u64 b.f4) ∧ w'.cell? ⟨q5, 1, none⟩ = some (.string u.f1)) (ds := [14]) (bb 17 0) (by kernel_rfl) rfl rfl ⟨HS0.out, HS1.out, HS2.out, HS3.out, HS4.out, HS5.out⟩ (fun hHeld => ?_)
   refine pu 0 75 (h := pu 1 76 (h := pu 2 77 (h := pu 4 79 (h := pu 6 81 (h := pu 7 82 (h := ta 3 78 hHeld (h := ta 5 80 hHeld (h := ?_))))))))
   refine join_ (σ := B × Value × Value × Int × Int × Nat) 3 (bb 17 16383) (fun s => [(83, .tuple #[.agg #[.string s.1.f0, .int .i64 s.1.f1, s.2.1, s.2.2.1, .int .u64 s.1.f4], .int .u64 s.2.2.2.1, .int .i64 s.2.2.2.2.1]), (74, .tuple #[.agg #[.string s.1.f0, .int .i64 s.1.f1, s.2.1, s.2.2.1, .int .u64 s.1.f4], .int .u64 s.2.2.2.1, .int .i64 s.2.2.2.2.1]), (84, .agg #[.string s.1.f0, .int .i64 s.1.f1, s.2.1, s.2.2.1, .int .u64 s.1.f4]), (85, .int .u64 s.2.2.2.1), (86, .int .i64 s.2.2.2.2.1), (17, .pointer (some ⟨s.2.2.2.2.2, 0, none⟩))]) (fun s w' => Drawn now w9 (fun k => okr k ∧ k < w9.heap.size) s.1 s.2.1 s.2.2.1 s.2.2.2.2.2 w') ?_ ?_
   rotate_left
   ·intro hCont
    refine two_ (i := 8) (j := 13) (Ni := some 83) (Nj := some 17) (bb 17 511) (bb 17 8447) rfl rfl rfl rfl (by kernel_rfl) (by decide) (by decide) (fun K hK => ?_) (fun K hK => ?_)
    ·skip
     refine goes_ Tryz.func60 (by kernel_rfl) rfl #[.agg #[.string b.f0, .int .i64 b.f1, .slice A2 b.f2.length c2, .slice A4 r.length c4, .int .u64 b.f4], .string u.f1, .string s, .int .i64 now] (by rfl) rfl rfl (by simp only [List.map_toArray, List.map_cons, List.map_nil]; rfl) ?_
     refine (BkPut.put_any now w9.drew (fun k => okr k ∧ k < w9.heap.size) ⟨b.f0, b.f1, b.f2, r, b.f4⟩ _ _ u.f1 s (AT9.out.sl.bound.below (below_drew (Below.refl w9.heap.size w9))) HOK0.out).mono ?_
     rintro e w7 ⟨b7, v72, v73, id7, er7, rfl, hsl7, hok7, hb7⟩
     refine ⟨_, rfl, ?_⟩
     have HD7 := Aside0.mk (And.intro hsl7 hok7)
     have HB7 := Aside0.mk (below_step (below_drew (Below.refl w9.heap.size w9)) hb7)
     have HX7 := Aside0.mk hb7
     clear hsl7 hok7 hb7
     refine hK.out _ _ ⟨(pw_cell_below HB7.out HS0.out), (pw_cell_below HB7.out HS1.out), (pw_cell_below HB7.out HS2.out), (pw_cell_below HB7.out HS3.out), (pw_cell_below HB7.out HS4.out), (pw_cell_below HB7.out HS5.out)⟩ (fun hHeld => ?_)
     clear hK K
     refine nm (h := pu 9 74 (h := pu 10 84 (h := pu 11 85 (h := pu 12 86 (h := on_ 13 17 (h := fun K hK => ?_))))))
     refine value_ (w1 := ?_) (v := ?_) (by rfl) rfl ?_ ?_
     rotate_left 2
     ·go_simp
      constructor
      ·rfl
      ·rfl
     refine hK.out _ _ ⟨(pw_cell_below (below_alloc HB7.out (.cells #[.string ⟨#[]⟩, .int .i64 0, .slice none 0 0, .slice none 0 0, .int .u64 0] tB)) HS0.out), (pw_cell_below (below_alloc HB7.out (.cells #[.string ⟨#[]⟩, .int .i64 0, .slice none 0 0, .slice none 0 0, .int .u64 0] tB)) HS1.out), (pw_cell_below (below_alloc HB7.out (.cells #[.string ⟨#[]⟩, .int .i64 0, .slice none 0 0, .slice none 0 0, .int .u64 0] tB)) HS2.out), (pw_cell_below (below_alloc HB7.out (.cells #[.string ⟨#[]⟩, .int .i64 0, .slice none 0 0, .slice none 0 0, .int .u64 0] tB)) HS3.out), (pw_cell_below (below_alloc HB7.out (.cells #[.string ⟨#[]⟩, .int .i64 0, .slice none 0 0, .slice none 0 0, .int .u64 0] tB)) HS4.out), (pw_cell_below (below_alloc HB7.out (.cells #[.string ⟨#[]⟩, .int .i64 0, .slice none 0 0, .slice none 0 0, .int .u64 0] tB)) HS5.out)⟩ (fun hHeld => ?_)
     clear hK K
     refine nm (h := ?_)
     exact norm_ (by simp only [putAll, Act.put, List.setIfInBounds_toArray, List.set_cons_zero, List.set_cons_succ]) (hCont (b7, v72, v73, id7, er7, w7.heap.size) _ (drawn_call HD7.out.1 HD7.out.2 HB7.out (fun k hk => hk.2)))
    ·skip
     refine value_ (w1 := ?_) (v := ?_) (by rfl) rfl ?_ ?_
     rotate_left 2
     ·go_simp
      constructor
      ·rfl
      ·rfl
     refine hK.out _ _ ⟨(pw_cell_below (below_alloc (below_drew (Below.refl w9.heap.size w9)) (.cells #[.string ⟨#[]⟩, .int .i64 0, .slice none 0 0, .slice none 0 0, .int .u64 0] tB)) HS0.out), (pw_cell_below (below_alloc (below_drew (Below.refl w9.heap.size w9)) (.cells #[.string ⟨#[]⟩, .int .i64 0, .slice none 0 0, .slice none 0 0, .int .u64 0] tB)) HS1.out), (pw_cell_below (below_alloc (below_drew (Below.refl w9.heap.size w9)) (.cells #[.string ⟨#[]⟩, .int .i64 0, .slice none 0 0, .slice none 0 0, .int .u64 0] tB)) HS2.out), (pw_cell_below (below_alloc (below_drew (Below.refl w9.heap.size w9)) (.cells #[.string ⟨#[]⟩, .int .i64 0, .slice none 0 0, .slice none 0 0, .int .u64 0] tB)) HS3.out), (pw_cell_below (below_alloc (below_drew (Below.refl w9.heap.size w9)) (.cells #[.string ⟨#[]⟩, .int .i64 0, .slice none 0 0, .slice none 0 0, .int .u64 0] tB)) HS4.out), (pw_cell_below (below_alloc (below_drew (Below.refl w9.heap.size w9)) (.cells #[.string ⟨#[]⟩, .int .i64 0, .slice none 0 0, .slice none 0 0, .int .u64 0] tB)) HS5.out)⟩ (fun hHeld => ?_)
     clear hK K
     refine nm (h := on_ 8 83 (h := fun K hK => ?_))
     refine goes_ Tryz.func60 (by kernel_rfl) rfl #[.agg #[.string b.f0, .int .i64 b.f1, .slice A2 b.f2.length c2, .slice A4 r.length c4, .int .u64 b.f4], .string u.f1, .string s, .int .i64 now] (by rfl) rfl rfl (by simp only [List.map_toArray, List.map_cons, List.map_nil]; rfl) ?_
     refine (BkPut.put_any now (w9.drew.alloc (.cells #[.string ⟨#[]⟩, .int .i64 0, .slice none 0 0, .slice none 0 0, .int .u64 0] tB)) (fun k => okr k ∧ k < w9.heap.size) ⟨b.f0, b.f1, b.f2, r, b.f4⟩ _ _ u.f1 s (AT9.out.sl.bound.below (below_alloc (below_drew (Below.refl w9.heap.size w9)) (.cells #[.string ⟨#[]⟩, .int .i64 0, .slice none 0 0, .slice none 0 0, .int .u64 0] tB))) HOK0.out).mono ?_
     rintro e w7 ⟨b7, v72, v73, id7, er7, rfl, hsl7, hok7, hb7⟩
     refine ⟨_, rfl, ?_⟩
     have HD7 := Aside0.mk (And.intro hsl7 hok7)
     have HB7 := Aside0.mk (below_step (below_alloc (below_drew (Below.refl w9.heap.size w9)) (.cells #[.string ⟨#[]⟩, .int .i64 0, .slice none 0 0, .slice none 0 0, .int .u64 0] tB)) hb7)
     have HX7 := Aside0.mk hb7
     clear hsl7 hok7 hb7
     refine hK.out _ _ ⟨(pw_cell_below HB7.out HS0.out), (pw_cell_below HB7.out HS1.out), (pw_cell_below HB7.out HS2.out), (pw_cell_below HB7.out HS3.out), (pw_cell_below HB7.out HS4.out), (pw_cell_below HB7.out HS5.out)⟩ (fun hHeld => ?_)
     clear hK K
     refine nm (h := pu 9 74 (h := pu 10 84 (h := pu 11 85 (h := pu 12 86 (h := ?_)))))
     exact norm_ (by simp only [putAll, Act.put, List.setIfInBounds_toArray, List.set_cons_zero, List.set_cons_succ]) (hCont (b7, v72, v73, id7, er7, w9.heap.size) _ (drawn_box HD7.out.1 HD7.out.2 HX7.out (fun k hk => hk.2)))
   rintro ⟨b7, v72, v73, id7, er7, q7⟩ w7 hD
   obtain ⟨A7, d7, rfl⟩ := Kd.V_slice (show Rd kE w7 _ v72 b7.f2 from hD.sl.r2)
   obtain ⟨A8, d8, rfl⟩ := Kd.V_slice (show Rd kU w7 _ v73 b7.f3 from hD.sl.r3)
   have HD := Aside0.mk (show Drawn now w9 (fun k => okr k ∧ k < w9.heap.size) b7 (.slice A7 b7.f2.length d7) (.slice A8 b7.f3.length d8) q7 w7 from hD)
   have hHeld := And.intro (pw_cell_below HD.out.bel HS0.out) (And.intro (pw_cell_below HD.out.bel HS1.out) (And.intro (pw_cell_below HD.out.bel HS2.out) (And.intro (pw_cell_below HD.out.bel HS3.out) (And.intro (pw_cell_below HD.out.bel HS4.out) (pw_cell_below HD.out.bel HS5.out)))))
   have zq := fun j => blk_cell HD.out.z j
   have zf := fun j => blk_frozen HD.out.z j
   clear hD
   refine norm_ (a' := ?_) ?_ ?_
   rotate_left
   ·simp only [putAll, Act.put, List.setIfInBounds_toArray, List.set_cons_zero, List.set_cons_succ]
    rfl
   refine ln_ 14 (h := fun K hK => ?_)
   refine skip_ (w1 := ?_) (by rfl) rfl ?_ ?_
   rotate_left
   ·go_simp
    rfl
   refine hK.out _ _ ?_
   clear hK K
   refine pu 15 18 (h := pu 16 14 (h := dn (h := ?_)))
   have gQ := set5_grown w7 q7 (.string b7.f0) (.int .i64 b7.f1) (.slice A7 b7.f2.length d7) (.slice A8 b7.f3.length d8) (.int .u64 b7.f4)
   have bQ := set5_blk HD.out.z (.string b7.f0) (.int .i64 b7.f1) (.slice A7 b7.f2.length d7) (.slice A8 b7.f3.length d8) (.int .u64 b7.f4)
   clear zq zf hz
   (try clear hHeld)
   unfold set5 at gQ bQ
   generalize hWE : ((((w7.setCell ⟨q7, 0, none⟩ (.string b7.f0)).setCell ⟨q7, 1, none⟩ (.int .i64 b7.f1)).setCell ⟨q7, 2, none⟩ (.slice A7 b7.f2.length d7)).setCell ⟨q7, 3, none⟩ (.slice A8 b7.f3.length d8)).setCell ⟨q7, 4, none⟩ (.int .u64 b7.f4) = WQ at gQ bQ ⊢
   clear hWE
   have hq7 := HD.out.q0
   have hlt9 := blk_lt BX9.out.b
   have hG10 := grown_then HG9.out (grown_of_below HD.out.bel (some g)) (.inr rfl)
   have hB10 := below_of_grown hG10 (by have := HG.out; omega)
   have hB11 := hB10.grown gQ hB10.size (fun k e => by cases e; omega)
   have bA : WQ.heap[w.heap.size]? = some (.cells #[.string b.f0, .int .i64 b.f1, .slice A2 b.f2.length c2, .slice A3 b.f3.length c3, .int .u64 b.f4] tB) := grown_blk gQ (HD.out.bel.block _ (by omega) |>.trans BX9.out.a) (by omega)
   have bZ : WQ.heap[w.heap.size + 1]? = some (.cells #[.string ⟨#[]⟩, .int .i64 0, .slice none 0 0, .slice none 0 0, .int .u64 0] tB) := grown_blk gQ (HD.out.bel.block _ (by omega) |>.trans BX9.out.b) (by omega)
   have HB11 := Aside0.mk hB11
   have HZZ := Aside0.mk bZ
   have SLQ := Aside0.mk (HD.out.sl.grown gQ (fun k hk => hk.2))
   have HLT9 := Aside0.mk hlt9
   have hza := fun j => blk_cell bA j
   have hzz := fun j => blk_cell bZ j
   have hfz := fun j => blk_frozen bZ j
   have hzq := fun j => blk_cell bQ j
   clear hq7 hlt9 hG10 hB10 hB11 bA bZ bQ gQ
   by_cases her : er7 = 0
   ·have d3 : (er7 != 0) = false := bne_eq_false_iff_eq.mpr her
    clear her
    go_wp2
    have gS := set5_grown (WQ) (w.heap.size + 1) (.string b7.f0) (.int .i64 b7.f1) (.slice A7 b7.f2.length d7) (.slice A8 b7.f3.length d8) (.int .u64 b7.f4)
    have z := fun j => blk_cell (set5_blk (HZZ.out) (.string b7.f0) (.int .i64 b7.f1) (.slice A7 b7.f2.length d7) (.slice A8 b7.f3.length d8) (.int .u64 b7.f4)) j
    refine bodyPost_ret (v := .tuple #[.agg #[.string b7.f0, .int .i64 b7.f1, (.slice A7 b7.f2.length d7), (.slice A8 b7.f3.length d8), .int .u64 b7.f4], .int .u64 id7, .string t, .int .i64 0]) (by simp [results, Tryz.results66, go_sem, z]) rfl ?_
    have hBf := HB11.out.grown gS HB11.out.size (fun k e => by cases e; omega)
    have hs1 := HLT9.out
    have hs2 := HSZ.out
    refine ⟨b7, _, _, id7, t, 0, rfl, (SLQ.out.grown gS ?_).mono ?_, HD.out.okb, hBf⟩
    ·rintro k ⟨hk | hk, -⟩
     ·rcases HOKR.out k hk.1 with h | h <;> omega
     ·omega
    ·rintro k ⟨hk | hk, -⟩
     ·rcases HOKR.out k hk.1 with h | h
      ·exact .inl h.1
      ·exact .inr (by omega)
     ·exact .inr (by omega)
   ·have d3 : (er7 != 0) = true := bne_iff_ne.mpr her
    clear her
    go_wp2
    have gS := set5_grown (WQ) (w.heap.size + 1) (.string b.f0) (.int .i64 b.f1) (.slice A2 b.f2.length c2) (.slice A3 b.f3.length c3) (.int .u64 b.f4)
    have z := fun j => blk_cell (set5_blk (HZZ.out) (.string b.f0) (.int .i64 b.f1) (.slice A2 b.f2.length c2) (.slice A3 b.f3.length c3) (.int .u64 b.f4)) j
    refine bodyPost_ret (v := .tuple #[.agg #[.string b.f0, .int .i64 b.f1, (.slice A2 b.f2.length c2), (.slice A3 b.f3.length c3), .int .u64 b.f4], .int .u64 0, .string ⟨#[]⟩, .int .i64 er7]) (by simp [results, Tryz.results66, go_sem, z]) rfl ?_
    have hBf := HB11.out.grown gS HB11.out.size (fun k e => by cases e; omega)
    exact ⟨b, _, _, 0, ⟨#[]⟩, er7, rfl, (HS.out.below hBf).mono (fun k hk => .inl hk), HP.out, hBf⟩
  case' neg =>
   have d2 : (e9 != 0) = true := bne_iff_ne.mpr hq
   have HQ := Aside0.mk hq
   clear hq
   have hz0 := fun j => blk_cell BX9.out.a j
   have hz2 := fun j => blk_cell BX9.out.b j
   have hf2 := fun j => blk_frozen BX9.out.b j
   go_wp2_with fail
   go_region
   go_wp2
   have gS := set5_grown (w9) (w.heap.size + 1) (.string b.f0) (.int .i64 b.f1) (.slice A2 b.f2.length c2) (.slice A3 b.f3.length c3) (.int .u64 b.f4)
   have z := fun j => blk_cell (blk_drew (set5_blk (BX9.out.b) (.string b.f0) (.int .i64 b.f1) (.slice A2 b.f2.length c2) (.slice A3 b.f3.length c3) (.int .u64 b.f4))) j
   refine bodyPost_ret (v := .tuple #[.agg #[.string b.f0, .int .i64 b.f1, (.slice A2 b.f2.length c2), (.slice A3 b.f3.length c3), .int .u64 b.f4], .int .u64 0, .string ⟨#[]⟩, .int .i64 e9]) (by simp [results, Tryz.results66, go_sem, z]) rfl ?_
   have hB9 := below_of_grown HG9.out (by have := HG.out; omega)
   have hBf := below_drew (hB9.grown gS hB9.size (fun k e => by cases e; omega))
   exact ⟨b, _, _, 0, ⟨#[]⟩, e9, rfl, (HS.out.below hBf).mono (fun k hk => .inl hk), HP.out, hBf⟩
 case' neg =>
  have d1 : (e6 == 0) = false := beq_eq_false_iff_ne.mpr h0
  have d2 : (e6 != 0) = true := bne_iff_ne.mpr h0
  clear h0
  have hz0 := fun j => blk_cell BXx.out.a j
  have hz2 := fun j => blk_cell BXx.out.b j
  have hf2 := fun j => blk_frozen BXx.out.b j
  go_wp2_with fail
  go_region
  go_wp2
  have gS := set5_grown (w6) (w.heap.size + 1) (.string b.f0) (.int .i64 b.f1) (.slice A2 b.f2.length c2) (.slice A3 b.f3.length c3) (.int .u64 b.f4)
  have z := fun j => blk_cell (blk_drew (set5_blk (BXx.out.b) (.string b.f0) (.int .i64 b.f1) (.slice A2 b.f2.length c2) (.slice A3 b.f3.length c3) (.int .u64 b.f4))) j
  refine bodyPost_ret (v := .tuple #[.agg #[.string b.f0, .int .i64 b.f1, (.slice A2 b.f2.length c2), (.slice A3 b.f3.length c3), .int .u64 b.f4], .int .u64 0, .string ⟨#[]⟩, .int .i64 e6]) (by simp [results, Tryz.results66, go_sem, z]) rfl ?_
  have hB9 := below_of_grown HGx.out (by have := HG.out; omega)
  have hBf := below_drew (hB9.grown gS hB9.size (fun k e => by cases e; omega))
  exact ⟨b, _, _, 0, ⟨#[]⟩, e6, rfl, (HS.out.below hBf).mono (fun k hk => .inl hk), HP.out, hBf⟩
end Go.Proofs.YtpccbmechgkogaaGreatDoor.BkWhole
