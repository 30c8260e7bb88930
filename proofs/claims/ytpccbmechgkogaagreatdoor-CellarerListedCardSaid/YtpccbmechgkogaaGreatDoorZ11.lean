/-
  Lemmas: BkLay, ChOrd, BkOk, VClone.
-/
import Derived.Test.YtpccbmechgkogaaGreatDoorProg
import Derived.Lib.SliceRun
import Derived.Outline
import Derived.Test.YtpccbmechgkogaaGreatDoorV0
import Derived.Test.YtpccbmechgkogaaGreatDoorZ00
import Derived.Test.YtpccbmechgkogaaGreatDoorZ01
import Derived.Test.YtpccbmechgkogaaGreatDoorZ02
import Derived.Test.YtpccbmechgkogaaGreatDoorZ03
import Derived.Test.YtpccbmechgkogaaGreatDoorZ04
import Derived.Test.YtpccbmechgkogaaGreatDoorZ05
import Derived.Test.YtpccbmechgkogaaGreatDoorZ07
import Derived.Test.YtpccbmechgkogaaGreatDoorZ08
import Derived.Test.YtpccbmechgkogaaGreatDoorZ10
set_option linter.unusedVariables false
set_option linter.unusedSimpArgs false
namespace Go.Proofs.YtpccbmechgkogaaGreatDoor.BkLay
open Go.RowKit Go.Proofs.YtpccbmechgkogaaGreatDoor.P Go.Proofs.YtpccbmechgkogaaGreatDoorW.PrintWords Go.Proofs.YtpccbmechgkogaaGreatDoor.PureKit Go.Proofs.YtpccbmechgkogaaGreatDoor.BkSpec Go.Proofs.YtpccbmechgkogaaGreatDoor.Wk Go.Proofs.YtpccbmechgkogaaGreatDoor.IdxPut Go.Proofs.YtpccbmechgkogaaGreatDoor.Open Go.Proofs.YtpccbmechgkogaaGreatDoor.Close Go.Proofs.YtpccbmechgkogaaGreatDoor.Vers
theorem inner_any (f : Nat) (lb : Array Value) (eg : ∀ args w, (callFunc f args).run Tryz.prog w = .ok (.enter f args) w) (R : List V → Int → Prop) (A : Option Addr) (n c gd gi : Nat) (id : Int) (W : World) (h1 : W.heap[gd]? = some (.cells #[.func (.func f) #[] lb] 172 (0, 0))) (h2 : W.heap[gi]? = some (.cells #[.int .u64 id] 26 (0, 0)))
  (hd : Calls Tryz.prog f (#[.slice A n c, .int .u64 id] ++ lb) W (Does R W)) :
  Calls Tryz.prog 139 #[.slice A n c, .pointer (some ⟨gd, 0, none⟩), .pointer (some ⟨gi, 0, none⟩)] W (Does R W) := by
 have hz1 := fun j => blk_cell h1 j
 have hz2 := fun j => blk_cell h2 j
 clear h1 h2
 go_enter Tryz.func139, Tryz.ntmps139
 go_wp2_with fail
 refine hd.mono ?_
 rintro en w1 ⟨v, r, er, rfl, hR, hRel, hb⟩
 have HE := Aside0.mk (And.intro hR (And.intro hRel hb))
 clear hR hRel hb hd
 go_wp2_with fail
 go_ret2
 exact ⟨v, r, er, rfl, HE.out.1, HE.out.2.1, HE.out.2.2⟩
theorem openE_zero {key : ByteArray} (h : openE key = 0) : Name.keyB key = true := by
 unfold openE at h
 split at h
 ·assumption
 ·cases h
def Lay (b : B) (key : ByteArray) (R : Int → List V → Int → Prop) (b' : B) (er : Int) : Prop :=
 (er ≠ 0 ∧ b' = b) ∨ (er = 0 ∧ ∃ (id n : Int) (r : List V), ((b.f1 = 1 ∧ id = b.f4 + 1 ∧ n = b.f4 + 1 ∧ b.f4 < 281474976710655) ∨ (b.f1 ≠ 1 ∧ id = 0 ∧ n = b.f4)) ∧ Name.keyB key = true ∧ R id r 0 ∧ (IdxSpec.put b.f2 key r).2 = 0 ∧
  b' = ⟨b.f0, b.f1, (IdxSpec.put b.f2 key r).1, b.f3, n⟩ ∧ octI b'.f2 + octU b'.f3 ≤ 20000)
def Laid (w : World) (ok : Nat → Prop) (b : B) (key : ByteArray) (R : Int → List V → Int → Prop) (en : Ending) (w' : World) : Prop :=
 ∃ (b' : B) (v2 v3 : Value) (id er : Int), en = .returned (.tuple #[.agg #[.string b'.f0, .int .i64 b'.f1, v2, v3, .int .u64 b'.f4], .int .u64 id, .int .i64 er]) ∧ Sl w' (fun k => ok k ∨ w.heap.size ≤ k) b' v2 v3 ∧ Lay b key R b' er ∧ Below w.heap.size w w'
abbrev tD : Nat := 172
structure Box (W : World) (s g3 : Nat) (c0 : Array Value) (d : Value) (id : Int) : Prop where
 b0 : W.heap[s]? = some (.cells c0 tB (0, 0))
 b1 : W.heap[s + 1]? = some (.cells #[d] tD (0, 0))
 b2 : W.heap[s + 1 + 1]? = some (.cells #[.string ⟨#[]⟩, .int .i64 0, .slice none 0 0, .slice none 0 0, .int .u64 0] tB (0, 0))
 b3 : W.heap[g3]? = some (.cells #[.int .u64 id] 26 (0, 0))
theorem Box.grown {W W' : World} {s g3 g : Nat} {c0 : Array Value} {d : Value} {id : Int} (h : Box W s g3 c0 d id) (hg : W.grownBy W' (some g)) (h1 : s + 1 + 1 < g) (h3 : g3 ≠ g) : Box W' s g3 c0 d id :=
 ⟨grown_blk hg h.b0 (by omega), grown_blk hg h.b1 (by omega), grown_blk hg h.b2 (by omega), grown_blk hg h.b3 h3⟩
set_option maxRecDepth 100000 in
set_option maxHeartbeats 6400000 in
theorem laid_any (w : World) (ok : Nat → Prop) (b : B) (v2 v3 : Value) (key : ByteArray) (h : Sl w ok b v2 v3) (hb : bucketB b = true) (h4 : 0 ≤ b.f4) (f : Nat) (lb : Array Value) (eg : ∀ args w, (callFunc f args).run Tryz.prog w = .ok (.enter f args) w) (R : Int → List V → Int → Prop) (hR : ∀ id r, (id = 0 ∨ id = b.f4 + 1) → R id r 0 → ChSpec.chainB r = true)
  (hd : ∀ (W : World) (A : Option Addr) (c : Nat) (id : Int), Below w.heap.size w W → Kd.C kV W A (getL b.f2 key).length (getL b.f2 key) → (getL b.f2 key).length ≤ c → (id = 0 ∨ id = b.f4 + 1) → Calls Tryz.prog f (#[.slice A (getL b.f2 key).length c, .int .u64 id] ++ lb) W (Does (R id) W)) :
  Calls Tryz.prog 97 #[.agg #[.string b.f0, .int .i64 b.f1, v2, v3, .int .u64 b.f4], .string key, .func (.func f) #[] lb] w (Laid w ok b key R) := by
 have HS := Aside0.mk h
 obtain ⟨⟨A2, c2, rfl, hc2, hF2⟩, ⟨A3, c3, rfl, hc3, hF3⟩⟩ := h
 have hu := Tryz.underlying40
 have hmf : ∀ (fn : Fn) (first cap : Array Value) (w : World), (Instr.makeFunc fn first cap).run Tryz.prog w = .ok (.func fn first cap) w := fun _ _ _ _ => rfl
 have HP := Aside0.mk hb
 have HD := Aside0.mk hd
 have HRC := Aside0.mk hR
 clear hR
 have h4l : b.f4 ≤ 281474976710655 := (of_decide_eq_true (BkChk.facts hb).l)
 clear hF2 hF3 hc2 hc3 hb hd
 go_enter Tryz.func97, Tryz.ntmps97
 go_wp2_with fail
 refine (open_any _ (fun k => ok k ∧ k < w.heap.size) b _ _ key (HS.out.bound.below (below_alloc (below_alloc (below_alloc (Below.refl _ _) _) _) _)) HP.out).mono ?_
 rintro en w1 ⟨g, rfl, hg0, hAt0, hb1⟩
 have hs3 : ∀ o1 o2 o3 : Obj, (((w.alloc o1).alloc o2).alloc o3).heap.size = w.heap.size + 1 + 1 + 1 := fun _ _ _ => by simp
 have hg : w.heap.size + 1 + 1 < g := by rw [hs3] at hg0; omega
 rw [hs3] at hAt0
 have hgl := hAt0.lt
 have BX := Aside0.mk (Box.mk (blk_alloc (blk_below (blk3a w _ _ _) hb1) (.cells #[.int .u64 0] 26)) (blk_alloc (blk_below (blk3b w _ _ _) hb1) _) (blk_alloc (blk_below (blk3c w _ _ _) hb1) _) (blk_new w1 (.cells #[.int .u64 0] 26)))
 have AT := Aside0.mk (hAt0.below (below_alloc (Below.refl _ _) (.cells #[.int .u64 0] 26)))
 have HB := Aside0.mk (below_alloc (below_step (below_alloc (below_alloc (below_alloc (Below.refl w.heap.size w) _) _) _) hb1) (.cells #[.int .u64 0] 26))
 have hsz1 : w.heap.size ≤ w1.heap.size := by have := (below_step (below_alloc (below_alloc (below_alloc (Below.refl w.heap.size w) _) _) _) hb1).size; exact this
 clear hb1 hAt0 hg0 hs3
 have hz0 := fun j => blk_cell BX.out.b0 j
 have HI := Aside0.mk (show IdxSpec.indexB b.f2 = true by have := HP.out; unfold bucketB at this; simp only [Bool.and_eq_true] at this; exact this.1.1.1.1.2)
 have HPt := Aside0.mk (show partsB b.f3 = true by have := HP.out; unfold bucketB at this; simp only [Bool.and_eq_true] at this; exact this.1.1.1.2)
 by_cases hOn : b.f1 = 1
 case' pos =>
  have d1 : (b.f1 == 1) = true := beq_iff_eq.mpr hOn
  have HOn := Aside0.mk hOn
  clear hOn
  go_wp2_with fail
  refine (next_any _ g _ b _ _ (openE key) AT.out h4 h4l).mono ?_
  rintro en w2 ⟨rfl, hAt2, hg2⟩
  have BX2 := BX.out.grown hg2 hg (by omega)
  have hf3 := fun j => blk_frozen BX2.b3 j
  have hz3 := fun j => blk_cell BX2.b3 j
  have gS := grown_set w2 w1.heap.size 0 (.int .u64 (b.f4 + 1))
  obtain ⟨id, hid⟩ : ∃ id, id = b.f4 + 1 := ⟨_, rfl⟩
  obtain ⟨n, hn⟩ : ∃ n, n = b.f4 + 1 := ⟨_, rfl⟩
  obtain ⟨e1, he1⟩ : ∃ e1, e1 = nextE b (openE key) := ⟨_, rfl⟩
  rw [← he1, ← hn] at hAt2
  rw [← hid] at gS
  have AT3 := Aside0.mk (show At (w2.setCell ⟨w1.heap.size, 0, none⟩ (.int .u64 id)) g _ ⟨b.f0, b.f1, b.f2, b.f3, n⟩ _ _ e1 from ⟨grown_blk gS hAt2.blk (by omega), hAt2.sl.grown gS (fun k hk => by have := hk.2; omega), hAt2.ne⟩)
  have BX3 := Aside0.mk (show Box (w2.setCell ⟨w1.heap.size, 0, none⟩ (.int .u64 id)) _ _ _ _ id from ⟨grown_blk gS BX2.b0 (by omega), grown_blk gS BX2.b1 (by omega), grown_blk gS BX2.b2 (by omega), blk_set BX2.b3 0 _⟩)
  have HG3 := Aside0.mk (grown_then (grown_then (grown_of_below HB.out (some g)) hg2 (.inr rfl)) gS (.inl hsz1))
  have HC : Aside0 ((id = 0 ∨ id = b.f4 + 1) ∧ (e1 = 0 → Name.keyB key = true ∧ ((b.f1 = 1 ∧ id = b.f4 + 1 ∧ n = b.f4 + 1 ∧ b.f4 < 281474976710655) ∨ (b.f1 ≠ 1 ∧ id = 0 ∧ n = b.f4)))) := ⟨.inr hid, fun h0 => by
   rw [he1] at h0
   unfold nextE at h0
   split at h0
   ·cases h0
   ·rename_i hx
    have h1 : openE key = 0 := h0
    refine ⟨openE_zero h1, .inl ⟨HOn.out, hid, hn, ?_⟩⟩
    have : ¬ b.f4 ≥ 281474976710655 := fun h => hx ⟨h, h1⟩
    omega⟩
  have HM : Aside0 (w1.heap.size < (w2.setCell ⟨w1.heap.size, 0, none⟩ (.int .u64 id)).heap.size) := ⟨by
   have h1 := hg2.size
   have h2 := gS.size
   have h3 : (w1.alloc (Obj.cells #[Value.int IntKind.u64 0] 26)).heap.size = w1.heap.size + 1 := Array.size_push _
   omega⟩
  clear hg2 BX2 gS hAt2 BX AT d1 hn he1
  have hid' := hid.symm
  clear hid
  go_wp2_with fail
 case' neg =>
  have d1 : (b.f1 == 1) = false := beq_eq_false_iff_ne.mpr hOn
  have HOn := Aside0.mk hOn
  clear hOn
  obtain ⟨id, hid⟩ : ∃ id : Int, id = 0 := ⟨_, rfl⟩
  obtain ⟨n, hn⟩ : ∃ n, n = b.f4 := ⟨_, rfl⟩
  obtain ⟨e1, he1⟩ : ∃ e1, e1 = openE key := ⟨_, rfl⟩
  have AT3 : Aside0 (At (w1.alloc (.cells #[.int .u64 0] 26)) g _ ⟨b.f0, b.f1, b.f2, b.f3, n⟩ _ _ e1) := ⟨by rw [hn, he1]; exact AT.out⟩
  have BX3 : Aside0 (Box (w1.alloc (.cells #[.int .u64 0] 26)) _ _ _ _ id) := ⟨by rw [hid]; exact BX.out⟩
  have HG3 := Aside0.mk (grown_of_below HB.out (some g))
  have HC : Aside0 ((id = 0 ∨ id = b.f4 + 1) ∧ (e1 = 0 → Name.keyB key = true ∧ ((b.f1 = 1 ∧ id = b.f4 + 1 ∧ n = b.f4 + 1 ∧ b.f4 < 281474976710655) ∨ (b.f1 ≠ 1 ∧ id = 0 ∧ n = b.f4)))) := ⟨.inl hid, fun h0 => ⟨openE_zero (he1.symm.trans h0), .inr ⟨HOn.out, hid, hn⟩⟩⟩
  have HM : Aside0 (w1.heap.size < (w1.alloc (Obj.cells #[Value.int IntKind.u64 0] 26)).heap.size) := ⟨by
   have h3 : (w1.alloc (Obj.cells #[Value.int IntKind.u64 0] 26)).heap.size = w1.heap.size + 1 := Array.size_push _
   omega⟩
  clear BX AT he1 hn hid
  go_wp2_with fail
 all_goals
  (try clear d1)
  clear HOn hz0
  refine (versions_any _ g _ ⟨b.f0, b.f1, b.f2, b.f3, n⟩ _ _ e1 AT3.out HI.out key (fun h => (HC.out.2 h).1) 139 #[.pointer (some ⟨w.heap.size + 1, 0, none⟩), .pointer (some ⟨w1.heap.size, 0, none⟩)] (fun _ _ => rfl) (R id) (fun r hr => HRC.out id r HC.out.1 hr) (fun W A c hW hC hc => inner_any f lb eg (R id) A _ c (w.heap.size + 1) w1.heap.size id W (blk_below BX3.out.b1 hW) (blk_below BX3.out.b3 hW) (HD.out W A c id (below_step (below_of_grown HG3.out (by omega)) hW) hC hc HC.out.1))).mono ?_
  rintro en w4 ⟨b', v2', e', rfl, hAt4, hTh, hg4⟩
  have BX4 := Aside0.mk (BX3.out.grown hg4 hg (by omega))
  have HG4 := Aside0.mk (grown_then HG3.out hg4 (.inr rfl))
  obtain ⟨A5, c5, rfl⟩ := Kd.V_slice hAt4.sl.r2
  have HB3 : Aside0 (b'.f3 = b.f3) := ⟨by
   unfold Then at hTh
   split at hTh
   ·obtain ⟨r, er, _, h⟩ := hTh
    split at h <;> rw [h.1]
   ·rw [hTh.1]⟩
  have HTH := Aside0.mk hTh
  have AT4 := Aside0.mk hAt4
  have hz0 := fun j => blk_cell BX4.out.b0 j
  clear hg4 AT3 BX3 HG3 hTh hAt4
  go_wp2_with fail
  refine (close_any w4 g _ b' _ _ e' AT4.out (fun h0 => by
   obtain ⟨_, r, _, _, _, hi⟩ := then_zero HTH.out h0
   exact ⟨hi, by rw [HB3.out]; exact HPt.out⟩) b.f0 b.f1 b.f4 A2 A3 _ _ c2 c3).mono ?_
  rintro en w5 ⟨he, hg5⟩
  have BX5 := Aside0.mk (BX4.out.grown hg5 hg (by omega))
  have HG5 := Aside0.mk (grown_then HG4.out hg5 (.inr rfl))
  have SL5 := Aside0.mk (AT4.out.sl.grown hg5 AT4.out.ne)
  clear hz0 BX4 HG4 AT4 hg5
  have hz0 := fun (o : Obj) j => blk_cell (blk_alloc BX5.out.b0 o) j
  have hz2 := fun (o : Obj) j => blk_cell (blk_alloc BX5.out.b2 o) j
  have hf2 := fun (o : Obj) j => blk_frozen (blk_alloc BX5.out.b2 o) j
  have hz3 := fun (o : Obj) j => blk_cell (blk_alloc BX5.out.b3 o) j
  by_cases hc : closeE b' e' = 0
  case' pos =>
   rw [if_pos hc, hc] at he
   subst he
   have HC0 := Aside0.mk hc
   clear hc
   go_wp2
   go_region
   go_wp2
   have gS := set5_grown (w5.alloc (.cells #[.string b'.f0, .int .i64 b'.f1, .slice A5 b'.f2.length c5, .slice A3 b.f3.length c3, .int .u64 b'.f4] tB)) (w.heap.size + 1 + 1) (.string b'.f0) (.int .i64 b'.f1) (.slice A5 b'.f2.length c5) (.slice A3 b.f3.length c3) (.int .u64 b'.f4)
   have z := fun j => blk_cell (blk_drew (set5_blk (blk_alloc BX5.out.b2 (.cells #[.string b'.f0, .int .i64 b'.f1, .slice A5 b'.f2.length c5, .slice A3 b.f3.length c3, .int .u64 b'.f4] tB)) (.string b'.f0) (.int .i64 b'.f1) (.slice A5 b'.f2.length c5) (.slice A3 b.f3.length c3) (.int .u64 b'.f4))) j
   refine bodyPost_ret (v := .tuple #[.agg #[.string b'.f0, .int .i64 b'.f1, .slice A5 b'.f2.length c5, .slice A3 b.f3.length c3, .int .u64 b'.f4], .int .u64 id, .int .i64 0]) (by simp [results, Tryz.results97, go_sem, z]) rfl ?_
   have hB5 := below_alloc (below_of_grown HG5.out (by omega)) (.cells #[.string b'.f0, .int .i64 b'.f1, .slice A5 b'.f2.length c5, .slice A3 b.f3.length c3, .int .u64 b'.f4] tB)
   refine ⟨b', _, _, id, 0, rfl, ?_, .inr ⟨rfl, ?_⟩, below_drew (hB5.grown gS hB5.size (fun k e => by cases e; omega))⟩
   ·refine ((((SL5.out.below (below_alloc (Below.refl _ _) _)).grown gS ?_).below (below_drew (Below.refl _ _))).mono ?_)
    ·rintro k (hk | hk)
     ·have := hk.1.2; omega
     ·have := HM.out
      omega
    ·rintro k (hk | hk)
     ·exact .inl hk.1.1
     ·exact .inr (by have := HM.out; omega)
   ·obtain ⟨h0, ho⟩ := close_zero HC0.out
    obtain ⟨h1, r, hr, hp, hb', _⟩ := then_zero HTH.out h0
    exact ⟨id, n, r, (HC.out.2 h1).2, (HC.out.2 h1).1, hr, hp, hb', ho⟩
  case' neg =>
   rw [if_neg hc] at he
   subst he
   have d2 : (closeE b' e' != 0) = true := bne_iff_ne.mpr hc
   have HC0 := Aside0.mk hc
   clear hc
   generalize hq : closeE b' e' = q at d2 HC0
   clear hq
   go_wp2
   have gS := set5_grown (w5.alloc (.cells #[.string b.f0, .int .i64 b.f1, .slice A2 b.f2.length c2, .slice A3 b.f3.length c3, .int .u64 b.f4] tB)) (w.heap.size + 1 + 1) (.string b.f0) (.int .i64 b.f1) (.slice A2 b.f2.length c2) (.slice A3 b.f3.length c3) (.int .u64 b.f4)
   have z := fun j => blk_cell (set5_blk (blk_alloc BX5.out.b2 (.cells #[.string b.f0, .int .i64 b.f1, .slice A2 b.f2.length c2, .slice A3 b.f3.length c3, .int .u64 b.f4] tB)) (.string b.f0) (.int .i64 b.f1) (.slice A2 b.f2.length c2) (.slice A3 b.f3.length c3) (.int .u64 b.f4)) j
   refine bodyPost_ret (v := .tuple #[.agg #[.string b.f0, .int .i64 b.f1, .slice A2 b.f2.length c2, .slice A3 b.f3.length c3, .int .u64 b.f4], .int .u64 0, .int .i64 q]) (by simp [results, Tryz.results97, go_sem, z]) rfl ?_
   have hB5 := below_alloc (below_of_grown HG5.out (by omega)) (.cells #[.string b.f0, .int .i64 b.f1, .slice A2 b.f2.length c2, .slice A3 b.f3.length c3, .int .u64 b.f4] tB)
   have hB6 := hB5.grown gS hB5.size (fun k e => by cases e; omega)
   exact ⟨b, _, _, 0, q, rfl, (HS.out.below hB6).mono (fun k hk => .inl hk), .inl ⟨HC0.out, rfl⟩, hB6⟩
end Go.Proofs.YtpccbmechgkogaaGreatDoor.BkLay
namespace Go.Proofs.YtpccbmechgkogaaGreatDoor.ChOrd
open Go.RowKit Go.Proofs.YtpccbmechgkogaaGreatDoor.P Go.Proofs.YtpccbmechgkogaaGreatDoorW.PrintWords Go.Proofs.YtpccbmechgkogaaGreatDoor.ChSpec
def Ord (u v : V) : Prop := v.f3 ≤ u.f3 ∧ clash v u = false
theorem good_pair : ∀ (l pre : List V), pre.Pairwise Ord → refGood pre l = true → (∀ v ∈ l, mayB v = true) ∧ (pre ++ l).Pairwise Ord
 | [], pre, hp, _ => ⟨fun v hv => by simp at hv, by simpa using hp⟩
 | v :: r, pre, hp, h => by
  simp only [refGood, Bool.and_eq_true, Bool.not_eq_true'] at h
  obtain ⟨⟨⟨h1, h2⟩, h3⟩, h4⟩ := h
  have hv : ∀ u ∈ pre, Ord u v := fun u hu => by
   refine ⟨?_, by rw [List.any_eq_false] at h3; simpa using h3 u hu⟩
   rcases snoc_cases pre with rfl | ⟨pre', z, rfl⟩
   ·simp at hu
   ·have hz : v.f3 ≤ z.f3 := by simpa [later] using h2
    rcases List.mem_append.1 hu with hu | hu
    ·have := (List.pairwise_append.1 hp).2.2 u hu z (by simp)
     have := this.1
     omega
    ·simp at hu
     rw [hu]
     exact hz
  have hp' : (pre ++ [v]).Pairwise Ord := List.pairwise_append.2 ⟨hp, by simp, fun u hu w hw => by simp at hw; rw [hw]; exact hv u hu⟩
  obtain ⟨h5, h6⟩ := good_pair r (pre ++ [v]) hp' h4
  refine ⟨fun w hw => ?_, by simpa using h6⟩
  rcases List.mem_cons.1 hw with rfl | hw
  ·exact h1
  ·exact h5 w hw
theorem pair_good : ∀ (l pre : List V), (∀ v ∈ l, mayB v = true) → (pre ++ l).Pairwise Ord → refGood pre l = true
 | [], _, _, _ => rfl
 | v :: r, pre, hm, hp => by
  have hp2 := List.pairwise_append.1 hp
  simp only [refGood, Bool.and_eq_true, Bool.not_eq_true']
  refine ⟨⟨⟨hm v (by simp), ?_⟩, ?_⟩, pair_good r (pre ++ [v]) (fun w hw => hm w (by simp [hw])) (by simpa using hp)⟩
  ·cases hl : pre.getLast? with
   | none => rfl
   | some u =>
    have := (hp2.2.2 u (List.mem_of_getLast? hl) v (by simp)).1
    simpa [later] using this
  ·rw [List.any_eq_false]
   intro u hu
   simpa using (hp2.2.2 u hu v (by simp)).2
theorem chain_iff {l : List V} (hw : ∀ v ∈ l, 0 ≤ v.f0) : chainB l = true ↔ l.length ≤ 20 ∧ (∀ v ∈ l, mayB v = true) ∧ l.Pairwise Ord := by
 rw [← chain_eq l hw]
 unfold refChain
 simp only [Bool.and_eq_true, decide_eq_true_eq]
 constructor
 ·rintro ⟨h1, h2⟩
  have := good_pair l [] (by simp) h1
  exact ⟨h2, this.1, by simpa using this.2⟩
 ·rintro ⟨h1, h2, h3⟩
  exact ⟨pair_good l [] h2 (by simpa using h3), h1⟩
theorem without_sub (l : List V) (id : Int) : (withoutL l id).Sublist l := List.filter_sublist
theorem without_mem {l : List V} {id : Int} {v : V} : v ∈ withoutL l id ↔ v ∈ l ∧ v.f0 ≠ id := by simp [withoutL]
theorem chain_sub {l m : List V} (hw : ∀ v ∈ l, 0 ≤ v.f0) (h : m.Sublist l) (hc : chainB l = true) : chainB m = true := by
 obtain ⟨h1, h2, h3⟩ := (chain_iff hw).1 hc
 exact (chain_iff (fun v hv => hw v (h.subset hv))).2 ⟨Nat.le_trans h.length_le h1, fun v hv => h2 v (h.subset hv), h3.sublist h⟩
theorem ids {l pre rest : List V} {v : V} (hc : l.Pairwise Ord) (h : l = pre ++ v :: rest) : ∀ u ∈ pre, u.f0 ≠ v.f0 := by
 intro u hu he
 subst h
 have := ((List.pairwise_append.1 hc).2.2 u hu v (by simp)).2
 simp only [clash, Bool.or_eq_false_iff, Bool.and_eq_false_iff, Bool.not_eq_false', decide_eq_false_iff_not, decide_eq_true_eq] at this
 omega
theorem find_self {l pre rest : List V} {v : V} (hc : l.Pairwise Ord) (h : l = pre ++ v :: rest) : l.find? (fun x => x.f0 == v.f0) = some v := by
 have hn := ids hc h
 subst h
 rw [List.find?_append, List.find?_eq_none.2 (fun u hu => by simpa using hn u hu)]
 simp
theorem chain_ahead {l : List V} {v : V} (hw : ∀ u ∈ l, 0 ≤ u.f0) (hv0 : 0 ≤ v.f0) (hc : chainB l = true) (hm : mayB v = true) (hel : elder l v = false) (h20 : l.length + 1 ≤ 20) (hid : ∀ u ∈ l, (u.f0 = 0 ∧ v.f0 ≠ 0) ∨ (u.f0 ≠ 0 ∧ v.f0 = 0) ∨ u.f0 < v.f0) : chainB (v :: l) = true := by
 obtain ⟨h1, h2, h3⟩ := (chain_iff hw).1 hc
 refine (chain_iff (fun u hu => ?_)).2 ⟨by simpa using h20, fun u hu => ?_, List.pairwise_cons.2 ⟨fun u hu => ⟨?_, ?_⟩, h3⟩⟩
 ·rcases List.mem_cons.1 hu with rfl | hu
  ·exact hv0
  ·exact hw u hu
 ·rcases List.mem_cons.1 hu with rfl | hu
  ·exact hm
  ·exact h2 u hu
 ·cases l with
  | nil => simp at hu
  | cons z zs =>
   have hz : z.f3 ≤ v.f3 := by simpa [elder] using hel
   rcases List.mem_cons.1 hu with rfl | hu
   ·exact hz
   ·have := ((List.pairwise_cons.1 h3).1 u hu).1
    omega
 ·have h4 := hid u hu
  have h5 := hw u hu
  simp only [clash, Bool.or_eq_false_iff, Bool.and_eq_false_iff, Bool.not_eq_false', decide_eq_false_iff_not, decide_eq_true_eq]
  omega
theorem put_good {l : List V} {s : Int} {x : V} (h : (putF l s x).2 = 0) : chainB l = true ∧ (s = 0 ∨ s = 1 ∨ s = 2) ∧ mayB x = true ∧ elder l x = false ∧ (layF l s x).2 = 0 ∧ (layF l s x).1.length ≤ 20 ∧ putF l s x = ((layF l s x).1, 0) := by
 unfold putF at h ⊢
 split
 ·rename_i hc
  rw [if_pos hc] at h
  split
  ·rename_i h2
   rw [if_pos h2] at h
   exact absurd h h2
  ·rename_i h2
   rw [if_neg h2] at h
   split
   ·rename_i h3
    rw [if_pos h3] at h
    exact absurd h (by decide)
   ·rename_i h3
    exact ⟨hc.1, hc.2.1, hc.2.2.1, hc.2.2.2, by simpa using h2, by omega, rfl⟩
 ·rename_i hc
  rw [if_neg hc] at h
  exact absurd h (by decide)
theorem put_ahead {l : List V} {x : V} (h : (putF l 1 x).2 = 0) : x.f0 ≠ 0 ∧ (∀ y ∈ l, y.f0 < x.f0) ∧ putF l 1 x = (x :: l, 0) := by
 obtain ⟨h1, h2, h3, h4, h5, h6, h7⟩ := put_good h
 rw [h7]
 rw [show layF l 1 x = aheadF l x from if_pos rfl] at h5 ⊢
 unfold aheadF at h5 ⊢
 by_cases h0 : x.f0 = 0
 ·rw [if_pos h0] at h5
  exact absurd h5 (by decide)
 ·rw [if_neg h0] at h5 ⊢
  by_cases ha : l.any (fun y => decide (y.f0 ≥ x.f0)) = true
  ·rw [if_pos ha] at h5
   exact absurd h5 (by decide)
  ·rw [if_neg ha]
   refine ⟨h0, fun y hy => ?_, rfl⟩
   rw [Bool.not_eq_true, List.any_eq_false] at ha
   have := ha y hy
   simp at this
   exact this
end Go.Proofs.YtpccbmechgkogaaGreatDoor.ChOrd
namespace Go.Proofs.YtpccbmechgkogaaGreatDoor.BkOk
open Go.RowKit Go.Proofs.YtpccbmechgkogaaGreatDoor.P Go.Proofs.YtpccbmechgkogaaGreatDoorW.PrintWords Go.Proofs.YtpccbmechgkogaaGreatDoor.PureKit Go.Proofs.YtpccbmechgkogaaGreatDoor.BkSpec Go.Proofs.YtpccbmechgkogaaGreatDoor.IdxPut
structure Ok (now : Int) (b : B) : Prop where
 name : NameW.bucketB b.f0 = true
 s0 : 0 ≤ b.f1
 s2 : b.f1 ≤ 2
 l0 : 0 ≤ b.f4
 l : b.f4 ≤ 281474976710655
 idx : IdxSpec.indexB b.f2 = true
 pts : partsB b.f3 = true
 oct : octI b.f2 + octU b.f3 ≤ 20000
 vs : ∀ x ∈ b.f2, ∀ v ∈ x.f1, 0 ≤ v.f0 ∧ v.f0 ≤ b.f4 ∧ (b.f1 = 0 → v.f0 = 0) ∧ v.f3 ≤ now
 us : ∀ u ∈ b.f3, u.f0 ≤ b.f4
theorem Ok.bucket {now : Int} {b : B} (h : Ok now b) : bucketB b = true := by
 unfold bucketB
 simp only [Bool.and_eq_true, decide_eq_true_eq, List.all_eq_true, Bool.not_eq_true']
 refine ⟨⟨⟨⟨⟨⟨⟨⟨h.name, h.s0⟩, h.s2⟩, h.l⟩, h.idx⟩, h.pts⟩, h.oct⟩, fun x hx => ?_⟩, ?_⟩
 ·rw [List.any_eq_false]
  intro v hv
  obtain ⟨h1, h2, h3, h4⟩ := h.vs x hx v hv
  unfold far
  have : ¬ v.f0 > b.f4 := by omega
  by_cases h0 : b.f1 = 0
  ·simp [this, h3 h0]
   omega
  ·simp [this, h0]
 ·rw [List.any_eq_false]
  intro u hu
  have := h.us u hu
  unfold farU
  simp
  omega
theorem Ok.late {now : Int} {b : B} (h : Ok now b) : DpLate.lateB now b = false := by
 unfold DpLate.lateB
 rw [List.any_eq_false]
 intro x hx
 unfold DpLate.lateE
 rw [Bool.not_eq_true, List.any_eq_false]
 intro v hv
 have := (h.vs x hx v hv).2.2.2
 unfold DpLate.after
 simp
 omega
theorem Ok.later {now now' : Int} {b : B} (h : Ok now b) (hn : now ≤ now') : Ok now' b := { h with vs := fun x hx v hv => by obtain ⟨h1, h2, h3, h4⟩ := h.vs x hx v hv; exact ⟨h1, h2, h3, by omega⟩ }
theorem Ok.got {now : Int} {b : B} (h : Ok now b) (key : ByteArray) : ∀ v ∈ getL b.f2 key, 0 ≤ v.f0 ∧ v.f0 ≤ b.f4 ∧ (b.f1 = 0 → v.f0 = 0) ∧ v.f3 ≤ now := by
 rcases getL_cases b.f2 key with ⟨x, hx, _, e⟩ | ⟨_, e⟩
 ·rw [e]; exact h.vs x hx
 ·rw [e]; intro v hv; simp at hv
theorem Ok.chain {now : Int} {b : B} (h : Ok now b) (key : ByteArray) : ChSpec.chainB (getL b.f2 key) = true := by
 rcases getL_cases b.f2 key with ⟨x, hx, _, e⟩ | ⟨_, e⟩
 ·rw [e]
  have := ((IdxLaws.index_iff b.f2).1 h.idx).2.1 x hx
  simp only [IdxLaws.okE, Bool.and_eq_true] at this
  exact this.2
 ·rw [e]; rfl
theorem Ok.put {now : Int} {b : B} (h : Ok now b) (key : ByteArray) (r : List V) (n : Int) (hn : b.f4 ≤ n) (hn2 : n ≤ 281474976710655) (hp : (IdxSpec.put b.f2 key r).2 = 0) (ho : octI (IdxSpec.put b.f2 key r).1 + octU b.f3 ≤ 20000)
  (hr : ∀ v ∈ r, 0 ≤ v.f0 ∧ v.f0 ≤ n ∧ (b.f1 = 0 → v.f0 = 0) ∧ v.f3 ≤ now) : Ok now ⟨b.f0, b.f1, (IdxSpec.put b.f2 key r).1, b.f3, n⟩ := by
 obtain ⟨_, _, _, _, h5⟩ := Get.put_ok hp
 obtain ⟨hi, hrise, _⟩ := Get.index_putL hp
 rw [h5] at ho ⊢
 refine ⟨h.name, h.s0, h.s2, ?_, hn2, hi, h.pts, ho, ?_, fun u hu => Int.le_trans (h.us u hu) hn⟩
 ·have := h.l0
  show 0 ≤ n
  omega
 ·intro x hx v hv
  rcases (putL_mem hrise).1 hx with hx | hx | hx
  ·obtain ⟨h1, h2, h3, h4⟩ := h.vs x hx.1 v hv
   exact ⟨h1, Int.le_trans h2 hn, h3, h4⟩
  ·obtain ⟨rfl, _⟩ := mem_new hx
   exact hr v hv
  ·obtain ⟨h1, h2, h3, h4⟩ := h.vs x hx.1 v hv
   exact ⟨h1, Int.le_trans h2 hn, h3, h4⟩
theorem put_mem {l r : List V} {s : Int} {x : V} (h : ChSpec.putF l s x = (r, 0)) : ∀ v ∈ r, v ∈ l ∨ (v.f3 = x.f3 ∧ if s = 1 then v.f0 = x.f0 else v.f0 = 0) := by
 have h2 : (ChSpec.putF l s x).2 = 0 := by rw [h]
 obtain ⟨_, _, _, _, h5, _, h7⟩ := ChOrd.put_good h2
 rw [h] at h7
 have hr : r = (ChSpec.layF l s x).1 := congrArg Prod.fst h7
 unfold ChSpec.layF at hr h5
 by_cases hs : s = 1
 ·rw [if_pos hs] at hr h5
  unfold ChSpec.aheadF at hr h5
  split at hr
  ·rename_i h0; rw [if_pos h0] at h5; cases h5
  ·rename_i h0
   rw [if_neg h0] at h5
   split at hr
   ·rename_i h1; rw [if_pos h1] at h5; cases h5
   ·intro v hv
    rw [hr] at hv
    rcases List.mem_cons.1 hv with rfl | hv
    ·exact .inr ⟨rfl, by rw [if_pos hs]⟩
    ·exact .inl hv
 ·rw [if_neg hs] at hr
  intro v hv
  rw [hr] at hv
  rcases List.mem_cons.1 hv with rfl | hv
  ·exact .inr ⟨rfl, by rw [if_neg hs]⟩
  ·exact .inl (ChOrd.without_mem.1 hv).1
theorem drop_mem {l r : List V} {id : Int} (h : ChSpec.dropF l id = (r, 0)) : ∀ v ∈ r, v ∈ l := by
 unfold ChSpec.dropF at h
 split at h
 ·split at h
  ·intro v hv
   simp only [Prod.mk.injEq, and_true] at h
   rw [← h] at hv
   exact (ChOrd.without_mem.1 hv).1
  ·simp at h
 ·simp at h
theorem del_mem {l r : List V} {s id t : Int} (h : ChSpec.delF l s id t = (r, 0)) : ∀ v ∈ r, v ∈ l ∨ (v.f3 = t ∧ s ≠ 0 ∧ if s = 1 then v.f0 = id else v.f0 = 0) := by
 unfold ChSpec.delF at h
 split at h
 ·exact fun v hv => .inl (drop_mem h v hv)
 ·rename_i h0
  intro v hv
  rcases put_mem h v hv with h1 | ⟨h1, h2⟩
  ·exact .inl h1
  ·refine .inr ⟨h1, h0, ?_⟩
   by_cases hs : s = 1
   ·rw [if_pos hs] at h2 ⊢
    rw [h2]
    show (if s = 2 then 0 else id) = id
    rw [if_neg (by omega)]
   ·rw [if_neg hs] at h2 ⊢
    exact h2
end Go.Proofs.YtpccbmechgkogaaGreatDoor.BkOk
namespace Go.Proofs.YtpccbmechgkogaaGreatDoor.VClone
open Go.RowKit Go.Proofs.YtpccbmechgkogaaGreatDoor.P Go.Proofs.YtpccbmechgkogaaGreatDoorW.PrintWords
def Post (w : World) (l : List S63) (e : Ending) (w' : World) : Prop := ∃ v0_ : Value, e = .returned v0_ ∧ Kd.R k63 63 w' w.heap.size (fun _ => True) v0_ l ∧ Below w.heap.size w w'
set_option maxRecDepth 100000 in
set_option maxHeartbeats 1600000 in
theorem clone_any (A : Option Addr) (c : Nat) (l : List S63) (w : World) (hr : Kd.C k63 w A l.length l) (hl : l.length < 3518437208883) :
  Calls Tryz.prog 178 #[.slice A l.length c] w (Post w l) := by
 have qT : ∀ (w : World) (a : Option Addr) (n c n' c' : Nat), (binOp .eql 97 (.slice a n c) (.slice none n' c')).run Tryz.prog w = .ok (.bool a.isNone) w := fun w a n c n' c' => Lib.run_eql_slice_nil w _ _ a n c n' c' Tryz.underlying97
 cases A with
 | none =>
  have h0 : l = [] := by
   rcases l with _ | ⟨x, r⟩
   ·rfl
   ·obtain ⟨ad, h, _⟩ := hr.2.2 (by simp)
    cases h
  subst h0
  clear hr hl
  go_enter Tryz.func178, Tryz.ntmps178
  go_wp2
  go_ret
  exact ⟨_, rfl, Kd.R_nil _ _ _ _ _, Below.refl _ _⟩
 | some ad =>
  have HR := Aside0.mk hr
  clear hr
  have hu := Tryz.underlying63
  go_enter Tryz.func178, Tryz.ntmps178
  have HL := Aside0.mk hl
  clear hl
  go_wp2_with (first
   | ((with_reducible refine gate_dst (N := 5) rfl ?_); refine Kd.R_lit (w0 := w) k63 w.heap.size 63 ?hg (N := 5) ?hd (xs := []) (inner := []) (ok := fun _ => True) (okp := fun _ => False) ?hr ?hp (fun _ h => h.elim) trivial (Below.refl _ _) (Nat.le_refl _) (by simp) ?_; (case hd => rfl); (case hg => rfl); (case hr => first | (go_simp; done) | (go_simp; rfl)); (case hp => exact Reps.none _ _); intro v1 w1 ho hb hg hat; have HO := Aside0.mk ho; have HB := Aside0.mk hb; clear ho hb hg hat)
   | ((with_reducible refine gate_builtin (b := .append) (xs := #[.tmp 5, .tmp 6]) rfl ?_); at_builtin; refine Kd.R_append_rows k63 (w0 := w) w.heap.size rfl (.tmp 5) (.tmp 6) 97 63 (.agg #[(.int .u64 0), (.string ⟨#[]⟩), (.bool false), (.int .i64 0)]) 40 rfl Tryz.underlying97 info63 rfl (by decide) (by omega) v1 [] l _ _ _ (fun _ => True) (fun _ => False) rfl rfl ?aO ?aR (fun _ _ h => h) (fun _ h => h.elim) ?aF ?aB ?aS ?aL ?_; (case aR => exact Kd.C_below HR.out HB.out); (case aB => exact HB.out); (case aF => exact (fun _ _ => trivial)); (case aO => exact HO.out); (case aS => exact HB.out.size); (case aL => have := HL.out; simp; omega); intro v2 w2 ho hb hg hat; have HO2 := Aside0.mk ho; have HB2 := Aside0.mk hb; clear HO HB; clear ho hb hg hat))
  go_ret
  exact ⟨_, rfl, HO2.out, HB2.out⟩
end Go.Proofs.YtpccbmechgkogaaGreatDoor.VClone
