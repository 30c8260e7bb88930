/-
  Lemmas: BkPart, ClkRem.
-/
import Derived.BigRegion
import Derived.Test.YtpccbmechgkogaaGreatDoorProg
import Derived.Test.YtpccbmechgkogaaGreatDoorV0
import Derived.Test.YtpccbmechgkogaaGreatDoorZ01
import Derived.Test.YtpccbmechgkogaaGreatDoorZ02
import Derived.Test.YtpccbmechgkogaaGreatDoorZ04
import Derived.Test.YtpccbmechgkogaaGreatDoorZ05
import Derived.Test.YtpccbmechgkogaaGreatDoorZ06
import Derived.Test.YtpccbmechgkogaaGreatDoorZ07
import Derived.Test.YtpccbmechgkogaaGreatDoorZ08
import Derived.Test.YtpccbmechgkogaaGreatDoorZ11
import Derived.Test.YtpccbmechgkogaaGreatDoorZ12
import Derived.Test.YtpccbmechgkogaaGreatDoorZ13
import Derived.Test.YtpccbmechgkogaaGreatDoorZ16
import Derived.Test.YtpccbmechgkogaaGreatDoorZ17
import Derived.Test.YtpccbmechgkogaaGreatDoorZ18
import Derived.Test.YtpccbmechgkogaaGreatDoorZ19
import Derived.Test.YtpccbmechgkogaaGreatDoorZ20
import Derived.Test.YtpccbmechgkogaaGreatDoorZ21
import Derived.Test.YtpccbmechgkogaaGreatDoorZ22
import Derived.Test.YtpccbmechgkogaaGreatDoorZ23
import Derived.Test.YtpccbmechgkogaaGreatDoorZ27
import Derived.Test.YtpccbmechgkogaaGreatDoorZ29
import Derived.Test.YtpccbmechgkogaaGreatDoorZ30
import Derived.Test.YtpccbmechgkogaaGreatDoorZ34
import Derived.Test.YtpccbmechgkogaaGreatDoorZ35
set_option linter.unusedVariables false
set_option linter.unusedSimpArgs false
namespace Go.Proofs.YtpccbmechgkogaaGreatDoor.BkPart
open Go.RowKit Go.Proofs.YtpccbmechgkogaaGreatDoor.P Go.Proofs.YtpccbmechgkogaaGreatDoorW.PrintWords Go.Proofs.YtpccbmechgkogaaGreatDoorW.PrintLast Go.Proofs.YtpccbmechgkogaaGreatDoorW.PrintMore Go.Proofs.YtpccbmechgkogaaGreatDoor.PureKit Go.Proofs.YtpccbmechgkogaaGreatDoor.BkSpec Go.Proofs.YtpccbmechgkogaaGreatDoor.Wk Go.Proofs.YtpccbmechgkogaaGreatDoor.Close Go.Proofs.YtpccbmechgkogaaGreatDoor.Open Go.Proofs.YtpccbmechgkogaaGreatDoor.BkOk Go.Proofs.YtpccbmechgkogaaGreatDoor.BkPut Go.Proofs.YtpccbmechgkogaaGreatDoor.PtBegin Go.Proofs.YtpccbmechgkogaaGreatDoor.PtAbort Go.Proofs.YtpccbmechgkogaaGreatDoor.PtLay Go.Proofs.YtpccbmechgkogaaGreatDoor.BkUps Go.Proofs.YtpccbmechgkogaaGreatDoor.PSrch
def DoneT (now : Int) (w : World) (ok : Nat → Prop) (en : Ending) (w' : World) : Prop :=
 ∃ (b' : B) (v2 v3 : Value) (t er : Int), en = .returned (.tuple #[.agg #[.string b'.f0, .int .i64 b'.f1, v2, v3, .int .u64 b'.f4], .int .u32 t, .int .i64 er]) ∧ Sl w' (fun k => ok k ∨ w.heap.size ≤ k) b' v2 v3 ∧ Ok now b' ∧ Below w.heap.size w w' ∧ (0 ≤ t ∧ t < 4294967296)
theorem blk3s (w : World) (o1 o2 o3 : Obj) : (((w.alloc o1).alloc o2).alloc o3).heap.size = w.heap.size + 1 + 1 + 1 := by simp
structure Three (w : World) (i : Nat) (b0 x0 z0 : Obj) : Prop where
 a : w.heap[i]? = some b0
 x : w.heap[i + 1]? = some x0
 b : w.heap[i + 1 + 1]? = some z0
theorem Three.grown {w w1 : World} {i g : Nat} {b0 x0 z0 : Obj} (h : Three w i b0 x0 z0) (hg : w.grownBy w1 (some g)) (h0 : i + 1 + 1 < g) : Three w1 i b0 x0 z0 := ⟨grown_blk hg h.a (by omega), grown_blk hg h.x (by omega), grown_blk hg h.b (by omega)⟩
set_option maxRecDepth 100000 in
set_option maxHeartbeats 6400000 in
theorem lay_any (now : Int) (w : World) (ok : Nat → Prop) (b : B) (v2 v3 : Value) (id : Int) (x : P) (h : Sl w ok b v2 v3) (hb : Ok now b) :
  Calls Tryz.prog 64 #[.agg #[.string b.f0, .int .i64 b.f1, v2, v3, .int .u64 b.f4], .int .u64 id, .agg #[.int .i64 x.f0, .string x.f1]] w (DoneT now w ok) := by
 have hup := Tryz.underlying119
 have HS := Aside0.mk h
 obtain ⟨⟨A2, c2, rfl, hc2, hF2⟩, ⟨A3, c3, rfl, hc3, hF3⟩⟩ := h
 have hu := Tryz.underlying40
 have hmf : ∀ (fn : Fn) (first cap : Array Value) (w : World), (Instr.makeFunc fn first cap).run Tryz.prog w = .ok (.func fn first cap) w := fun _ _ _ _ => rfl
 have HP := Aside0.mk hb
 clear hF2 hF3 hc2 hc3 hb
 go_enter Tryz.func64, Tryz.ntmps64
 go_wp2_with fail
 refine (open_any _ (fun k => ok k ∧ k < w.heap.size) b _ _ _ (HS.out.bound.below (below_alloc (below_alloc (below_alloc (Below.refl w.heap.size w) (.cells #[.string b.f0, .int .i64 b.f1, .slice A2 b.f2.length c2, .slice A3 b.f3.length c3, .int .u64 b.f4] tB)) (.cells #[.int .i64 x.f0, .string x.f1] tP)) (.cells #[.string ⟨#[]⟩, .int .i64 0, .slice none 0 0, .slice none 0 0, .int .u64 0] tB))) HP.out.bucket).mono ?_
 rintro en w1 ⟨g, rfl, hg0, hAt0, hb1⟩
 rw [blk3s] at hg0 hAt0
 have hgl := hAt0.lt
 have BX := Aside0.mk (Three.mk (blk_below (blk3a w _ _ _) hb1) (blk_below (blk3b w _ _ _) hb1) (blk_below (blk3c w _ _ _) hb1))
 obtain ⟨e1, he1⟩ : ∃ e1, e1 = openE ⟨#[107]⟩ := ⟨_, rfl⟩
 rw [← he1] at hAt0
 have AT := Aside0.mk hAt0
 have HB := Aside0.mk (below_step (below_alloc (below_alloc (below_alloc (Below.refl w.heap.size w) (.cells #[.string b.f0, .int .i64 b.f1, .slice A2 b.f2.length c2, .slice A3 b.f3.length c3, .int .u64 b.f4] tB)) (.cells #[.int .i64 x.f0, .string x.f1] tP)) (.cells #[.string ⟨#[]⟩, .int .i64 0, .slice none 0 0, .slice none 0 0, .int .u64 0] tB)) hb1)
 have HG := Aside0.mk hg0
 have HSZ : Aside0 (w.heap.size + 1 + 1 < w1.heap.size) := ⟨by have := hb1.size; rw [blk3s] at this; omega⟩
 have hC3 : w1.cell? ⟨g, 3, none⟩ = some (.slice A3 b.f3.length c3) := (blk_cell hAt0.blk 3).trans rfl
 have HC3 := Aside0.mk hC3
 have HX0 : Aside0 (w1.cell? ⟨w.heap.size + 1, 0, none⟩ = some (.int .i64 x.f0)) := ⟨(blk_cell BX.out.x 0).trans rfl⟩
 have HX1 : Aside0 (w1.cell? ⟨w.heap.size + 1, 1, none⟩ = some (.string x.f1)) := ⟨(blk_cell BX.out.x 1).trans rfl⟩
 clear hb1 hgl hg0 hAt0 he1 hC3
 go_wp2_with fail
 refine start_ (n := 15) (S := fun w' => w'.cell? ⟨g, 3, none⟩ = some (.slice A3 b.f3.length c3) ∧ w'.cell? ⟨w.heap.size + 1, 0, none⟩ = some (.int .i64 x.f0) ∧ w'.cell? ⟨w.heap.size + 1, 1, none⟩ = some (.string x.f1)) (ds := []) (bb 15 0) (by kernel_rfl) rfl rfl ⟨HC3.out, HX0.out, HX1.out⟩ (fun hHeld => ?_)
 refine pu 0 17 (h := pu 1 18 (h := pu 2 19 (h := pu 3 20 (h := pu 5 22 (h := ta 4 21 hHeld (h := ta 6 23 hHeld (h := on_ 7 24 (h := fun K hK => ?_))))))))
 refine goes_ Tryz.func110 (by kernel_rfl) rfl #[.slice A3 b.f3.length c3, .int .u64 id, .agg #[.int .i64 x.f0, .string x.f1]] (by rfl) rfl rfl (by simp only [List.map_toArray, List.map_cons, List.map_nil]; rfl) ?_
 refine (PtLay.lay_any w1.drew _ _ b.f3 id x HP.out.pts (Kd.V_drew AT.out.sl.r3)).mono ?_
 rintro e w2 ⟨v, r, t, er, rfl, hV, hR, ht, hb2⟩
 obtain ⟨A4, c4, rfl⟩ := Kd.V_slice hV
 refine ⟨_, rfl, ?_⟩
 have HV := Aside0.mk (show Rd kU w2 (fun k => ((ok k ∧ k < w.heap.size) ∧ k < w.heap.size + 1 + 1 + 1) ∨ w1.heap.size ≤ k) (.slice A4 r.length c4) r from hV)
 have HR := Aside0.mk hR
 have HT := Aside0.mk ht
 have HB2 := Aside0.mk (below_step (below_drew (Below.refl w1.heap.size w1)) hb2)
 clear hV hR hb2
 refine hK.out _ _ ⟨(pw_cell_below HB2.out HC3.out), (pw_cell_below HB2.out HX0.out), (pw_cell_below HB2.out HX1.out)⟩ (fun hHeld => ?_)
 clear hK K
 refine nm (h := pu 8 16 (h := pu 9 25 (h := pu 10 26 (h := pu 11 27 (h := pu 12 10 (h := pu 13 11 (h := pu 14 12 (h := dn (h := ?_)))))))))
 have HNE : Aside0 (∀ k, ((ok k ∧ k < w.heap.size) ∧ k < w.heap.size + 1 + 1 + 1) ∨ w1.heap.size ≤ k → k ≠ g) := ⟨by
  have h1 := HG.out
  have h2 := AT.out.lt
  rintro k (hk | hk)
  ·have := hk.2; omega
  ·omega⟩
 have AT2 := Aside0.mk ((AT.out.below HB2.out).mono (ok' := fun k => ((ok k ∧ k < w.heap.size) ∧ k < w.heap.size + 1 + 1 + 1) ∨ w1.heap.size ≤ k) (fun k hk => .inl hk) HNE.out)
 clear hHeld
 go_wp2_with fail
 refine (uploads_any w2 g _ b _ _ _ AT2.out (.slice A4 r.length c4) r er HV.out).mono ?_
 rintro en w5 ⟨rfl, hAt5, hg5⟩
 have BX5 := Aside0.mk ((BX.out.grown (grown_of_below HB2.out (some g)) (by have := HG.out; omega)).grown hg5 (by have := HG.out; omega))
 have HG5 := Aside0.mk (grown_then (grown_then (grown_of_below HB.out (some g)) (grown_of_below HB2.out (some g)) (.inr rfl)) hg5 (.inr rfl))
 obtain ⟨e5, he5⟩ : ∃ e5, e5 = upE e1 er := ⟨_, rfl⟩
 rw [← he5] at hAt5
 have AT5 := Aside0.mk hAt5
 have HF : Aside0 (e5 = 0 → partsB r = true ∧ ∀ u ∈ r, u.f0 ≤ b.f4) := ⟨fun h0 => by
  have her : er = 0 := by rw [he5] at h0; unfold upE at h0; split at h0 <;> omega
  obtain ⟨hr, hl⟩ := HR.out her
  refine ⟨hr, fun u hu => ?_⟩
  obtain ⟨u', hu', e⟩ := hl u hu
  rw [e]
  exact HP.out.us u' hu'⟩
 have hz0 := fun j => blk_cell BX5.out.a j
 clear hAt5 hg5 he5
 go_wp2_with fail
 refine (close_any w5 g _ ⟨b.f0, b.f1, b.f2, r, b.f4⟩ _ _ _ AT5.out (fun h0 => ⟨HP.out.idx, (HF.out h0).1⟩) b.f0 b.f1 b.f4 A2 A3 _ _ c2 c3).mono ?_
 rintro en w6 ⟨he, hg6⟩
 have BX6 := Aside0.mk (BX5.out.grown hg6 (by have := HG.out; omega))
 have HG6 := Aside0.mk (grown_then HG5.out hg6 (.inr rfl))
 have SL6 := Aside0.mk (AT5.out.sl.grown hg6 AT5.out.ne)
 have HSW : Aside0 (w.heap.size + 1 + 1 < w6.heap.size) := ⟨by have := blk_lt BX6.out.b; exact this⟩
 clear hg6 hz0
 have hz0 := fun (o : Obj) j => blk_cell (blk_alloc BX6.out.a o) j
 have hz2 := fun (o : Obj) j => blk_cell (blk_alloc BX6.out.b o) j
 have hf2 := fun (o : Obj) j => blk_frozen (blk_alloc BX6.out.b o) j
 by_cases hc : closeE ⟨b.f0, b.f1, b.f2, r, b.f4⟩ e5 = 0
 case' pos =>
  rw [if_pos hc, hc] at he
  subst he
  have HC0 := Aside0.mk hc
  clear hc
  go_wp2
  have gS := set5_grown (w6.alloc (.cells #[.string b.f0, .int .i64 b.f1, .slice A2 b.f2.length c2, .slice A4 r.length c4, .int .u64 b.f4] tB)) (w.heap.size + 1 + 1) (.string b.f0) (.int .i64 b.f1) (.slice A2 b.f2.length c2) (.slice A4 r.length c4) (.int .u64 b.f4)
  have z := fun j => blk_cell (set5_blk (blk_alloc BX6.out.b (.cells #[.string b.f0, .int .i64 b.f1, .slice A2 b.f2.length c2, .slice A4 r.length c4, .int .u64 b.f4] tB)) (.string b.f0) (.int .i64 b.f1) (.slice A2 b.f2.length c2) (.slice A4 r.length c4) (.int .u64 b.f4)) j
  refine bodyPost_ret (v := .tuple #[.agg #[.string b.f0, .int .i64 b.f1, (.slice A2 b.f2.length c2), (.slice A4 r.length c4), .int .u64 b.f4], .int .u32 t, .int .i64 0]) (by simp [results, Tryz.results64, go_sem, z]) rfl ?_
  have hB6 := below_alloc (below_of_grown HG6.out (by have := HG.out; omega)) (.cells #[.string b.f0, .int .i64 b.f1, .slice A2 b.f2.length c2, .slice A4 r.length c4, .int .u64 b.f4] tB)
  have hBf := hB6.grown gS hB6.size (fun k e => by cases e; omega)
  obtain ⟨h0, ho⟩ := close_zero HC0.out
  obtain ⟨f2, f3⟩ := HF.out h0
  have hs1 := HSZ.out
  refine ⟨⟨b.f0, b.f1, b.f2, r, b.f4⟩, _, _, t, 0, rfl, ((SL6.out.below (below_alloc (Below.refl _ _) _)).grown gS ?_).mono ?_, ok_ups HP.out (Int.le_refl _) HP.out.l f2 ho f3, hBf, HT.out⟩
  ·rintro k (hk | hk)
   ·have := hk.1.2; omega
   ·omega
  ·rintro k (hk | hk)
   ·exact .inl hk.1.1
   ·exact .inr (by omega)
 case' neg =>
  rw [if_neg hc] at he
  subst he
  have d2 : (closeE ⟨b.f0, b.f1, b.f2, r, b.f4⟩ e5 != 0) = true := bne_iff_ne.mpr hc
  have HC0 := Aside0.mk hc
  clear hc
  generalize hq : closeE ⟨b.f0, b.f1, b.f2, r, b.f4⟩ e5 = q at d2 HC0
  clear hq
  go_wp2
  have gS := set5_grown (w6.alloc (.cells #[.string b.f0, .int .i64 b.f1, .slice A2 b.f2.length c2, .slice A3 b.f3.length c3, .int .u64 b.f4] tB)) (w.heap.size + 1 + 1) (.string b.f0) (.int .i64 b.f1) (.slice A2 b.f2.length c2) (.slice A3 b.f3.length c3) (.int .u64 b.f4)
  have z := fun j => blk_cell (set5_blk (blk_alloc BX6.out.b (.cells #[.string b.f0, .int .i64 b.f1, .slice A2 b.f2.length c2, .slice A3 b.f3.length c3, .int .u64 b.f4] tB)) (.string b.f0) (.int .i64 b.f1) (.slice A2 b.f2.length c2) (.slice A3 b.f3.length c3) (.int .u64 b.f4)) j
  refine bodyPost_ret (v := .tuple #[.agg #[.string b.f0, .int .i64 b.f1, (.slice A2 b.f2.length c2), (.slice A3 b.f3.length c3), .int .u64 b.f4], .int .u32 0, .int .i64 q]) (by simp [results, Tryz.results64, go_sem, z]) rfl ?_
  have hB6 := below_alloc (below_of_grown HG6.out (by have := HG.out; omega)) (.cells #[.string b.f0, .int .i64 b.f1, .slice A2 b.f2.length c2, .slice A3 b.f3.length c3, .int .u64 b.f4] tB)
  have hBf := hB6.grown gS hB6.size (fun k e => by cases e; omega)
  exact ⟨b, _, _, 0, q, rfl, (HS.out.below hBf).mono (fun k hk => .inl hk), HP.out, hBf, by decide⟩
end Go.Proofs.YtpccbmechgkogaaGreatDoor.BkPart
namespace Go.Proofs.YtpccbmechgkogaaGreatDoor.ClkRem
open Go.RowKit Go.Proofs.YtpccbmechgkogaaGreatDoor.P Go.Proofs.YtpccbmechgkogaaGreatDoorW.PrintWords Go.Proofs.YtpccbmechgkogaaGreatDoorW.PrintLast Go.Proofs.YtpccbmechgkogaaGreatDoorW.PrintMore Go.Proofs.YtpccbmechgkogaaGreatDoor.PureKit Go.Proofs.YtpccbmechgkogaaGreatDoor.BkSpec Go.Proofs.YtpccbmechgkogaaGreatDoor.Wk Go.Proofs.YtpccbmechgkogaaGreatDoor.Close Go.Proofs.YtpccbmechgkogaaGreatDoor.BkOk Go.Proofs.YtpccbmechgkogaaGreatDoor.DpChk Go.Proofs.YtpccbmechgkogaaGreatDoor.DpFind Go.Proofs.YtpccbmechgkogaaGreatDoor.BkUps Go.Proofs.YtpccbmechgkogaaGreatDoor.PtLack Go.Proofs.YtpccbmechgkogaaGreatDoor.Clk Go.Proofs.YtpccbmechgkogaaGreatDoor.ClkTick Go.Proofs.YtpccbmechgkogaaGreatDoor.ClkShut
abbrev tP1 : Nat := 69
theorem less_irrefl : ∀ s : List UInt8, Op.bytesLess s s = false
 | [] => rfl
 | a :: s => by
  have := less_irrefl s
  simp [Op.bytesLess, this]
theorem dep_uniq {now : Int} {l : List B} (h : DepOk now l) {i j : Nat} (hi : i < l.length) (hj : j < l.length) (he : l[i].f0 = l[j].f0) : i = j := by
 have hr := List.pairwise_iff_getElem.1 h.rise
 rcases Nat.lt_trichotomy i j with hij | hij | hij
 ·have := hr i j hi hj hij
  rw [he, less_irrefl] at this
  cases this
 ·exact hij
 ·have := hr j i hj hi hij
  rw [he, less_irrefl] at this
  cases this
theorem dep_erase {now : Int} {l : List B} (h : DepOk now l) (k : Nat) : DepOk now (l.eraseIdx k) :=
 ⟨h.n0, h.n1, Nat.le_trans (List.length_eraseIdx_le l k) h.len, fun b hb => h.ok b (List.mem_of_mem_eraseIdx hb), h.rise.sublist (List.eraseIdx_sublist l k)⟩
set_option maxRecDepth 100000 in
set_option maxHeartbeats 1600000 in
theorem removeC (s : ByteArray) (x : B) (A2 : Option Addr) (c2 : Nat) (A3 : Option Addr) (c3 : Nat) (g b0 : Nat) (cs : Array Value) (w : World) (h0 : w.heap[b0]? = some (.cells #[.pointer (some ⟨g, 0, none⟩)] tP1 (0, 0))) (h1 : w.heap[g]? = some (.cells cs tC (0, 0))) (h2 : cs[1]? = some (.string s)) :
  Calls Tryz.prog 56 #[.agg #[.string x.f0, .int .i64 x.f1, .slice A2 x.f2.length c2, .slice A3 x.f3.length c3, .int .u64 x.f4], .pointer (some ⟨b0, 0, none⟩)] w fun e w' => e = .returned (.bool (DpLate.named s x)) ∧ Below w.heap.size w w' := by
 unfold DpLate.named
 have hu := Tryz.underlying40
 have hz0 := fun (o : Obj) j => blk_cell (blk_alloc h0 o) j
 have hz1 : ∀ (o : Obj), (w.alloc o).cell? ⟨g, 1, none⟩ = some (.string s) := fun o => (blk_cell (blk_alloc h1 o) 1).trans h2
 have hza := fun j => blk_cell (blk_new w (.cells #[.string x.f0, .int .i64 x.f1, .slice A2 x.f2.length c2, .slice A3 x.f3.length c3, .int .u64 x.f4] 40)) j
 have HB := Aside0.mk (below_alloc (Below.refl w.heap.size w) (.cells #[.string x.f0, .int .i64 x.f1, .slice A2 x.f2.length c2, .slice A3 x.f3.length c3, .int .u64 x.f4] 40))
 clear h0 h1 h2
 go_enter Tryz.func56, Tryz.ntmps56
 go_wp2_with fail
 go_region
 go_wp2
 go_ret
 exact ⟨rfl, below_drew HB.out⟩
set_option maxRecDepth 100000 in
set_option maxHeartbeats 6400000 in
theorem remove_any (w : World) (g : Nat) (q : Q) (vp : Value) (now : Int) (vl : Value) (l : List B) (b : B) (v2 v3 : Value) (ti : Int) (tt : ByteArray) (h : CAt w g q vp now vl l b v2 v3 ti tt 0) (hd : DepOk now l) :
  Calls Tryz.prog 17 #[.pointer (some ⟨g, 0, none⟩)] w (Alls w g vp) := by
 have hmf : ∀ (fn : Fn) (first cap : Array Value) (w : World), (Instr.makeFunc fn first cap).run Tryz.prog w = .ok (.func fn first cap) w := fun _ _ _ _ => rfl
 have hup : Tryz.prog.underlying tP1 = _ := Tryz.underlying69
 have HD := Aside0.mk hd
 have hba := below_alloc (Below.refl w.heap.size w) (.cells #[.pointer (some ⟨g, 0, none⟩)] tP1)
 have K0 := blk_new w (.cells #[.pointer (some ⟨g, 0, none⟩)] tP1)
 have hlt := h.lt
 obtain ⟨AL, cl, rfl⟩ := Kd.V_slice h.rl
 obtain ⟨vl, hvl⟩ : ∃ vl, vl = Value.slice AL l.length cl := ⟨_, rfl⟩
 rw [← hvl] at h
 have HVL := Aside0.mk hvl
 clear hvl
 obtain ⟨w1, hw1⟩ : ∃ w1, w1 = w.alloc (.cells #[.pointer (some ⟨g, 0, none⟩)] tP1) := ⟨_, rfl⟩
 rw [← hw1] at hba K0
 have HC1 := Aside0.mk (h.below hba)
 have HG1 := Aside0.mk (grown_of_below hba (some g))
 have K1 := Aside0.mk K0
 have HNE : Aside0 (w.heap.size ≠ g) := ⟨by omega⟩
 have HSB : Aside0 (w1.cell? ⟨w.heap.size, 0, none⟩ = some (.pointer (some ⟨g, 0, none⟩))) := ⟨(blk_cell K0 0).trans rfl⟩
 have HS1 : Aside0 (w1.cell? ⟨g, 1, none⟩ = some (.string q.f1)) := ⟨(blk_cell HC1.out.blk 1).trans rfl⟩
 clear h hd hba K0 hlt
 go_enter Tryz.func17, Tryz.ntmps17
 go_wp2_with fail
 rw [← hw1]
 clear hw1
 refine start_ (n := 7) (S := fun w' => w'.cell? ⟨w.heap.size, 0, none⟩ = some (.pointer (some ⟨g, 0, none⟩)) ∧ w'.cell? ⟨g, 1, none⟩ = some (.string q.f1)) (ds := [6]) (bb 7 0) (by kernel_rfl) rfl rfl ⟨HSB.out, HS1.out⟩ (fun hHeld => ?_)
 refine ta 0 2 hHeld (h := ta 1 3 hHeld (h := pu 2 4 (h := pu 3 5 (h := pu 4 6 (h := ta 5 7 hHeld (h := la_ 6 8 (h := fun K hK => ?_)))))))
 refine goes_ Tryz.func29 (by kernel_rfl) rfl #[.pointer (some ⟨g, 0, none⟩), .string q.f1] (by rfl) rfl rfl (by simp only [List.map_toArray, List.map_cons, List.map_nil]; rfl) ?_
 refine (open_any w1.drew g q vp now vl l b v2 v3 ti tt 0 (CAt.drew HC1.out) HD.out q.f1).mono ?_
 rintro e3 w2 ⟨b2, u2, u3, er2, ⟨rfl, hC2, hg2⟩, hx1, hx2⟩
 refine ⟨_, rfl, ?_⟩
 have HC2 := Aside0.mk hC2
 have HG2 := Aside0.mk (grown_then (grown_drew HG1.out) hg2 (.inr rfl))
 have HX := Aside0.mk (And.intro hx1 hx2)
 have HB0 := Aside0.mk (grown_blk hg2 (blk_drew K1.out) HNE.out)
 clear hC2 hg2 hx1 hx2
 refine hK.out _ _ ?_
 clear hK K
 refine nm (h := dn (h := ?_))
 have hz := fun j => blk_cell HC2.out.blk j
 have hz0 := fun j => blk_cell HB0.out j
 by_cases he : er2 = 0
 case neg =>
  have d1 : (er2 == 0) = false := beq_eq_false_iff_ne.mpr he
  have HE := Aside0.mk he
  have hue : upE 0 er2 = er2 := rfl
  clear he
  go_wp2
  (first | go_end0 | ((try simp only [Exit.inBlock, Exit.then]); refine bodyPost_ret (results_none rfl _ _ _) rfl ?_))
  exact ⟨q, now, vl, l, b2, u2, u3, ti, tt, er2, ⟨rfl, HC2.out, HG2.out⟩, fun h => absurd h HE.out⟩
 subst he
 obtain ⟨hmem, hnm⟩ := HX.out.1 rfl
 obtain ⟨k, hk, rfl⟩ := List.getElem_of_mem hmem
 have HKL := Aside0.mk hk
 have HUN : Aside0 (DpLate.named q.f1 l[k] = true ∧ ∀ j (h : j < l.length), j ≠ k → DpLate.named q.f1 l[j] = false) := ⟨named_iff.2 hnm, fun j hj hjk => by
  rw [Bool.eq_false_iff]
  intro hc
  exact hjk (dep_uniq HD.out hj hk ((named_iff.1 hc).trans hnm.symm))⟩
 clear hmem hnm HX
 have hCE := HC2.out
 generalize l[k] = b2 at hCE hz
 clear HC2
 have HC2 := Aside0.mk hCE
 obtain ⟨A2, c2, rfl⟩ := Kd.V_slice hCE.sl.r2
 obtain ⟨A3, c3, rfl⟩ := Kd.V_slice hCE.sl.r3
 clear hCE
 go_wp2_with fail
 refine (BkTurn.empty_any w2 b2.f0 b2.f1 b2.f4 A2 A3 _ _ c2 c3).mono ?_
 rintro en w4 ⟨r, rfl, hb4⟩
 have HC4 := Aside0.mk (HC2.out.below hb4)
 have HG4 := Aside0.mk (grown_then HG2.out (grown_of_below hb4 (some g)) (.inr rfl))
 have HB4 := Aside0.mk (blk_below HB0.out hb4)
 clear hz hz0 hb4
 have hz := fun j => blk_cell HC4.out.blk j
 have hz0 := fun j => blk_cell HB4.out j
 cases r with
 | false =>
  go_wp2_with fail
  refine (no_any w4 g q vp now vl l b2 _ _ ti tt _ HC4.out 8).mono ?_
  rintro en w5 ⟨rfl, hC5, hg5⟩
  have HC5 := Aside0.mk (show CAt w5 g q vp now vl l b2 _ _ ti tt 8 from hC5)
  have HG5 := Aside0.mk (grown_then HG4.out hg5 (.inr rfl))
  have HB5 := Aside0.mk (grown_blk hg5 HB4.out HNE.out)
  clear hC5 hg5 hz hz0
  have hz := fun j => blk_cell HC5.out.blk j
  have hz0 := fun j => blk_cell HB5.out j
  go_wp2
  (first | go_end0 | ((try simp only [Exit.inBlock, Exit.then]); refine bodyPost_ret (results_none rfl _ _ _) rfl ?_))
  exact ⟨q, now, vl, l, b2, _, _, ti, tt, 8, ⟨rfl, HC5.out, HG5.out⟩, fun h => absurd h (by decide)⟩
 | true =>
  have hvl := HVL.out
  subst hvl
  have hF := Kd.V_bound HC4.out.rl
  obtain ⟨_, _, e0, hcl, hFl⟩ := hF
  injection e0 with e0a _ e0c
  subst e0a
  subst e0c
  have HFl := Aside0.mk (Kd.F_drew hFl)
  have HS5a : Aside0 (w4.cell? ⟨w.heap.size, 0, none⟩ = some (.pointer (some ⟨g, 0, none⟩))) := ⟨(hz0 0).trans rfl⟩
  have HS5b : Aside0 (w4.cell? ⟨g, 10, none⟩ = some (.slice AL l.length cl)) := ⟨(hz 10).trans rfl⟩
  have CA := Aside0.mk (fun W (hW : Below w4.heap.size w4 W) => And.intro (blk_below HB4.out hW) (blk_below HC4.out.blk hW))
  clear hFl hcl HVL
  go_wp2_with fail
  refine start_ (n := 13) (S := fun w' => w'.cell? ⟨w.heap.size, 0, none⟩ = some (.pointer (some ⟨g, 0, none⟩)) ∧ w'.cell? ⟨g, 10, none⟩ = some (.slice AL l.length cl)) (ds := [12]) (bb 13 0) (by kernel_rfl) rfl rfl ⟨HS5a.out, HS5b.out⟩ (fun hHeld => ?_)
  refine pu 7 38 (h := ta 0 31 hHeld (h := ta 1 32 hHeld (h := pu 2 33 (h := pu 3 34 (h := pu 4 35 (h := ta 5 36 hHeld (h := on_ 6 37 (h := fun K hK => ?_))))))))
  refine goes_ Tryz.func53 (by kernel_rfl) rfl #[.slice AL l.length cl] (by rfl) rfl rfl (by simp only [List.map_toArray, List.map_cons, List.map_nil]; rfl) ?_
  refine (ClB.clone_any w4.drew (fun k => okg g k ∧ k < w4.heap.size) (fun k hk => hk.2) AL cl l HFl.out (by have := HD.out.len; omega)).mono ?_
  rintro e5 w5 ⟨v5, rfl, hN5, hb5⟩
  obtain ⟨A5, c5, rfl⟩ := Kd.N_slice hN5
  refine ⟨_, rfl, ?_⟩
  have HN5 := Aside0.mk hN5
  have HB5 := Aside0.mk (below_step (below_drew (Below.refl w4.heap.size w4)) hb5)
  clear hN5 hb5
  refine hK.out _ _ ⟨(pw_cell_below HB5.out HS5a.out), (pw_cell_below HB5.out HS5b.out)⟩ (fun hHeld => ?_)
  clear hK K
  refine nm (h := on_ 8 39 (h := fun K hK => ?_))
  refine goes_ Tryz.func55 (by kernel_rfl) rfl #[.slice A5 l.length c5, .func (.func 56) #[] #[.pointer (some ⟨w.heap.size, 0, none⟩)]] (by rfl) rfl rfl (by simp only [List.map_toArray, List.map_cons, List.map_nil]; rfl) ?_
  refine (BDel.delete_any w5 w4.heap.size _ (.slice A5 l.length c5) l k HKL.out (by have := HD.out.len; omega) HN5.out HB5.out.size 56 #[.pointer (some ⟨w.heap.size, 0, none⟩)] (DpLate.named q.f1) (fun _ _ => by rfl) HUN.out.1 HUN.out.2 (fun W x A2 c2 A3 c3 hW => removeC q.f1 x A2 c2 A3 c3 g w.heap.size _ W (CA.out W (HB5.out.trans hW)).1 (CA.out W (HB5.out.trans hW)).2 rfl)).mono ?_
  rintro e6 w6 ⟨v6, rfl, hR6, hb6⟩
  obtain ⟨A6, c6, rfl⟩ := Kd.V_slice (show Rd kB w6 _ v6 (l.eraseIdx k) from hR6)
  generalize hps : l.eraseIdx k = ps at hR6
  refine ⟨_, rfl, ?_⟩
  have HPS := Aside0.mk hps
  have HR6 := Aside0.mk (show Rd kB w6 _ (.slice A6 ps.length c6) ps from hR6)
  have HB6 := Aside0.mk (show Below w4.heap.size w4 w6 from HB5.out.trans hb6)
  have HC6 := Aside0.mk (HC4.out.below HB6.out)
  have hz6 := fun j => blk_cell HC6.out.blk j
  have hf6 := fun j => blk_frozen HC6.out.blk j
  clear hR6 hb6 hps
  refine hK.out _ _ ⟨(pw_cell_below HB6.out HS5a.out), (pw_cell_below HB6.out HS5b.out)⟩ (fun hHeld => ?_)
  clear hK K
  refine nm (h := pu 9 40 (h := pu 10 41 (h := pu 11 42 (h := ln_ 12 (h := fun K hK => ?_)))))
  refine skip_ (w1 := ?_) (by rfl) rfl ?_ ?_
  rotate_left
  ·go_simp
   rfl
  refine hK.out _ _ ?_
  clear hK K
  refine dn (h := ?_)
  (try clear hHeld)
  have hlt4 := HC4.out.lt
  have HCF := Aside0.mk (CAt.setL HC6.out (Kd.V_mono HR6.out (ok' := okg g) (fun q hq => by
   rcases hq with h | h
   ·exact h.1
   ·have h2 : w4.heap.size ≤ q := h
    exact ⟨by omega, by omega, by omega⟩)))
  (first | go_end0 | ((try simp only [Exit.inBlock, Exit.then]); refine bodyPost_ret (results_none rfl _ _ _) rfl ?_))
  exact ⟨q, now, .slice A6 ps.length c6, ps, b2, _, _, ti, tt, 0, ⟨rfl, HCF.out, grown_then (grown_then HG4.out (grown_of_below HB6.out (some g)) (.inr rfl)) (grown_set w6 g 10 _) (.inr rfl)⟩, fun _ => by rw [← HPS.out]; exact dep_erase HD.out k⟩
end Go.Proofs.YtpccbmechgkogaaGreatDoor.ClkRem
