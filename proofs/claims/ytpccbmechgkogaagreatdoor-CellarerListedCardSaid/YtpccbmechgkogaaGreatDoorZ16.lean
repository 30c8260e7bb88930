/-
  Lemmas: ChAt, BkPut.
-/
import Derived.RegionTactic
import Derived.Test.YtpccbmechgkogaaGreatDoorProg
import Derived.Test.YtpccbmechgkogaaGreatDoorV0
import Derived.Test.YtpccbmechgkogaaGreatDoorZ00
import Derived.Test.YtpccbmechgkogaaGreatDoorZ01
import Derived.Test.YtpccbmechgkogaaGreatDoorZ02
import Derived.Test.YtpccbmechgkogaaGreatDoorZ04
import Derived.Test.YtpccbmechgkogaaGreatDoorZ05
import Derived.Test.YtpccbmechgkogaaGreatDoorZ06
import Derived.Test.YtpccbmechgkogaaGreatDoorZ07
import Derived.Test.YtpccbmechgkogaaGreatDoorZ08
import Derived.Test.YtpccbmechgkogaaGreatDoorZ10
import Derived.Test.YtpccbmechgkogaaGreatDoorZ11
import Derived.Test.YtpccbmechgkogaaGreatDoorZ13
import Derived.Test.YtpccbmechgkogaaGreatDoorZ15
set_option linter.unusedVariables false
set_option linter.unusedSimpArgs false
namespace Go.Proofs.YtpccbmechgkogaaGreatDoor.ChAt
open Go.RowKit Go.Proofs.YtpccbmechgkogaaGreatDoor.P Go.Proofs.YtpccbmechgkogaaGreatDoorW.PrintWords Go.Proofs.YtpccbmechgkogaaGreatDoor.PureKit Go.Proofs.YtpccbmechgkogaaGreatDoor.ChSpec Go.Proofs.YtpccbmechgkogaaGreatDoor.Wk
abbrev tV : Nat := 63
abbrev kV := k63
def aggV (v : V) : Value := .agg #[.int .u64 v.f0, .string v.f1, .bool v.f2, .int .i64 v.f3]
def One (p : V × Int) (w : World) (en : Ending) (w' : World) : Prop := en = .returned (.tuple #[aggV p.1, .int .i64 p.2]) ∧ Below w.heap.size w w'
abbrev set4 (w : World) (g : Nat) (x0 x1 x2 x3 : Value) : World := (((w.setCell ⟨g, 0, none⟩ x0).setCell ⟨g, 1, none⟩ x1).setCell ⟨g, 2, none⟩ x2).setCell ⟨g, 3, none⟩ x3
theorem set4_blk {w : World} {g t : Nat} {c0 c1 c2 c3 : Value} (h : w.heap[g]? = some (.cells #[c0, c1, c2, c3] t (0, 0))) (x0 x1 x2 x3 : Value) : (set4 w g x0 x1 x2 x3).heap[g]? = some (.cells #[x0, x1, x2, x3] t (0, 0)) := blk_set (blk_set (blk_set (blk_set h 0 _) 1 _) 2 _) 3 _
theorem set4_grown (w : World) (g : Nat) (x0 x1 x2 x3 : Value) : w.grownBy (set4 w g x0 x1 x2 x3) (some g) := (((grown_set w g 0 _).trans (grown_set _ g 1 _)).trans (grown_set _ g 2 _)).trans (grown_set _ g 3 _)
theorem ret_is {w w1 : World} (v : V) (e : Int) (BZ : w1.heap[w.heap.size]? = some (.cells #[.int .u64 0, .string ⟨#[]⟩, .bool false, .int .i64 0] tV (0, 0))) (HB : Below w.heap.size w w1) :
  (∀ j, (set4 w1 w.heap.size (.int .u64 v.f0) (.string v.f1) (.bool v.f2) (.int .i64 v.f3)).cell? ⟨w.heap.size, j, none⟩ = (#[.int .u64 v.f0, .string v.f1, .bool v.f2, .int .i64 v.f3] : Array Value)[j]?) ∧ Below w.heap.size w (set4 w1 w.heap.size (.int .u64 v.f0) (.string v.f1) (.bool v.f2) (.int .i64 v.f3)) :=
 ⟨fun j => blk_cell (set4_blk BZ _ _ _ _) j, HB.grown (set4_grown w1 _ _ _ _ _) HB.size (fun k e => by cases e; omega)⟩
set_option maxRecDepth 100000 in
set_option maxHeartbeats 3200000 in
theorem at_any (A : Option Addr) (c : Nat) (l : List V) (i : Int) (o : Option V) (w : World) (hr : Kd.C kV w A l.length l) (hc : chainB l = true) (hi : (i < 0 ∧ o = none) ∨ (0 ≤ i ∧ o = l[i.toNat]?)) :
  Calls Tryz.prog 44 #[.slice A l.length c, .int .i64 i] w (One (atF l o) w) := by
 have hu := Tryz.underlying63
 have HB0 := Aside0.mk (below_alloc (Below.refl w.heap.size w) (.cells #[.int .u64 0, .string ⟨#[]⟩, .bool false, .int .i64 0] tV))
 have C1 := ChkC.check_any A c l _ (Kd.C_below hr HB0.out) hc
 have HR := Aside0.mk (fun W (hW : Below w.heap.size w W) => Kd.C_below hr hW)
 have HN : Aside0 (atF l none = (zV, 4)) := ⟨if_pos hc⟩
 have HS : Aside0 (∀ v, atF l (some v) = (v, if v.f2 = true then 13 else 0)) := ⟨fun v => if_pos hc⟩
 have HI := Aside0.mk hi
 clear hr hc hi
 go_enter Tryz.func44, Tryz.ntmps44
 go_wp2_with fail
 refine C1.mono ?_
 rintro e w1 ⟨rfl, hb⟩
 have BZ := Aside0.mk (blk_below (blk_new w (.cells #[.int .u64 0, .string ⟨#[]⟩, .bool false, .int .i64 0] tV)) hb)
 have HB := Aside0.mk (below_step HB0.out hb)
 have hz := fun j => blk_cell BZ.out j
 have hf := fun j => blk_frozen BZ.out j
 clear hb C1 HB0
 have no : (h : o = none) → (i < 0 ∨ (0 ≤ i ∧ (l.length : Int) ≤ i)) := by
  rintro rfl
  rcases HI.out with ⟨h, _⟩ | ⟨h1, h2⟩
  ·exact .inl h
  ·exact .inr ⟨h1, by have := List.getElem?_eq_none_iff.1 h2.symm; omega⟩
 rcases o with _ | v
 ·obtain ⟨zq, zb⟩ := ret_is zV 4 BZ.out HB.out
  dsimp only [zV] at zq
  have ZB := Aside0.mk zb
  rcases no rfl with h | ⟨h0, h1⟩
  ·have d0 : decide (i < 0) = true := decide_eq_true h
   clear no h zb
   go_wp2
   refine bodyPost_ret (v := .tuple #[aggV zV, .int .i64 4]) (by simp [results, Tryz.results44, go_sem, zq, aggV, zV]) rfl ?_
   exact ⟨by rw [HN.out], ZB.out⟩
  ·have d0 : decide (i < 0) = false := decide_eq_false (by omega)
   have d1 : decide ((l.length : Int) ≤ i) = true := decide_eq_true h1
   clear no h0 h1 zb
   go_wp2
   refine bodyPost_ret (v := .tuple #[aggV zV, .int .i64 4]) (by simp [results, Tryz.results44, go_sem, zq, aggV, zV]) rfl ?_
   exact ⟨by rw [HN.out], ZB.out⟩
 ·obtain ⟨zq, zb⟩ := ret_is v 0 BZ.out HB.out
  have ZB := Aside0.mk zb
  obtain ⟨h0, h1⟩ : 0 ≤ i ∧ some v = l[i.toNat]? := by
   rcases HI.out with ⟨_, h⟩ | h
   ·cases h
   ·exact h
  obtain ⟨hn, hv⟩ := List.getElem?_eq_some_iff.1 h1.symm
  obtain ⟨n, rfl⟩ : ∃ n : Nat, i = n := ⟨i.toNat, by omega⟩
  rw [Int.toNat_natCast] at hn
  have d0 : decide ((n : Int) < 0) = false := decide_eq_false (by omega)
  have d1 : decide ((l.length : Int) ≤ (n : Int)) = false := decide_eq_false (by omega)
  obtain ⟨ad, hA, x0, x1, x2, x3⟩ := at_T63 (HR.out _ HB.out) (n : Int) (by omega) (by omega)
  have hmem : rd_T63 l (n : Int) = v := by rw [← hv]; exact BkSpec.rd_here _ l n hn
  rw [hmem, Int.toNat_natCast] at x0 x1 x2 x3
  cases hA
  have j1 : (n : Int) < (l.length : Int) := by omega
  clear no zb h1 hv hmem
  cases hm : v.f2 with
  | true =>
   rw [hm] at x2
   go_wp2
   rw [hm] at zq
   refine bodyPost_ret (v := .tuple #[aggV v, .int .i64 13]) (by simp [results, Tryz.results44, go_sem, zq, aggV, hm]) rfl ?_
   exact ⟨by rw [HS.out, hm]; rfl, by have := ZB.out; rwa [hm] at this⟩
  | false =>
   rw [hm] at x2
   go_wp2
   rw [hm] at zq
   refine bodyPost_ret (v := .tuple #[aggV v, .int .i64 0]) (by simp [results, Tryz.results44, go_sem, zq, aggV, hm]) rfl ?_
   exact ⟨by rw [HS.out, hm]; rfl, by have := ZB.out; rwa [hm] at this⟩
set_option maxRecDepth 100000 in
set_option maxHeartbeats 3200000 in
theorem get_any (A : Option Addr) (c : Nat) (l : List V) (w : World) (hr : Kd.C kV w A l.length l) (hc : chainB l = true) : Calls Tryz.prog 133 #[.slice A l.length c] w (One (getF l) w) := by
 have HB0 := Aside0.mk (below_alloc (Below.refl w.heap.size w) (.cells #[.int .u64 0, .string ⟨#[]⟩, .bool false, .int .i64 0] tV))
 have C1 := at_any A c l 0 l.head? _ (Kd.C_below hr HB0.out) hc (.inr ⟨by omega, by cases l <;> rfl⟩)
 have hu := Tryz.underlying63
 unfold getF
 generalize atF l l.head? = q at C1 ⊢
 obtain ⟨v, e⟩ := q
 unfold One aggV at C1
 clear hr hc
 go_enter Tryz.func133, Tryz.ntmps133
 go_wp2_with fail
 refine C1.mono ?_
 rintro e1 w1 ⟨rfl, hb⟩
 have BZ := Aside0.mk (blk_below (blk_new w (.cells #[.int .u64 0, .string ⟨#[]⟩, .bool false, .int .i64 0] tV)) hb)
 obtain ⟨zq, zb⟩ := ret_is v e BZ.out (below_step HB0.out hb)
 have ZB := Aside0.mk zb
 have hz := fun j => blk_cell BZ.out j
 have hf := fun j => blk_frozen BZ.out j
 clear hb C1 HB0 zb
 go_wp2
 refine bodyPost_ret (v := .tuple #[aggV v, .int .i64 e]) (by simp [results, Tryz.results133, go_sem, zq, aggV]) rfl ?_
 exact ⟨rfl, ZB.out⟩
theorem idx_find (p : V → Bool) : ∀ l : List V, (IdxV.idx p l < 0 ∧ l.find? p = none) ∨ (0 ≤ IdxV.idx p l ∧ l.find? p = l[(IdxV.idx p l).toNat]?) := fun l => by
 unfold IdxV.idx
 cases h : l.findIdx? p with
 | none =>
  refine .inl ⟨by simp, ?_⟩
  rw [List.findIdx?_eq_none_iff] at h
  rw [List.find?_eq_none]
  intro x hx
  simpa using h x hx
 | some i =>
  refine .inr ⟨by simp, ?_⟩
  obtain ⟨hi, hp, hn⟩ := List.findIdx?_eq_some_iff_getElem.1 h
  rw [Int.toNat_natCast, List.getElem?_eq_getElem hi, List.find?_eq_some_iff_getElem]
  exact ⟨hp, i, hi, rfl, fun j hj => by simpa using hn j hj⟩
set_option maxRecDepth 100000 in
set_option maxHeartbeats 3200000 in
theorem find_any (A : Option Addr) (c : Nat) (l : List V) (id : Int) (w : World) (hr : Kd.C kV w A l.length l) (hc : chainB l = true) : Calls Tryz.prog 14 #[.slice A l.length c, .int .u64 id] w (One (findF l id) w) := by
 have HB0 := Aside0.mk (below_alloc (Below.refl w.heap.size w) (.cells #[.int .u64 0, .string ⟨#[]⟩, .bool false, .int .i64 0] tV))
 have C0 := VerF.find_any A c l id _ (Kd.C_below hr HB0.out)
 have C1 := Aside0.mk (fun W (hW : Below w.heap.size w W) => at_any A c l (IdxV.idx (fun x => x.f0 == id) l) (l.find? fun x => x.f0 == id) W (Kd.C_below hr hW) hc (idx_find _ l))
 have hu := Tryz.underlying63
 unfold findF
 generalize atF l (l.find? fun x => x.f0 == id) = q at C1 ⊢
 obtain ⟨v, e⟩ := q
 unfold One aggV at C1
 clear hr hc
 go_enter Tryz.func14, Tryz.ntmps14
 go_wp2_with fail
 refine C0.mono ?_
 rintro e0 w0 ⟨rfl, hb⟩
 have BZ0 := Aside0.mk (blk_below (blk_new w (.cells #[.int .u64 0, .string ⟨#[]⟩, .bool false, .int .i64 0] tV)) hb)
 have HB1 := Aside0.mk (below_step HB0.out hb)
 clear hb C0
 go_wp2_with fail
 refine (C1.out _ HB1.out).mono ?_
 rintro e1 w1 ⟨rfl, hb⟩
 have BZ := Aside0.mk (blk_below BZ0.out hb)
 obtain ⟨zq, zb⟩ := ret_is v e BZ.out (below_step HB1.out hb)
 have ZB := Aside0.mk zb
 have hz := fun j => blk_cell BZ.out j
 have hf := fun j => blk_frozen BZ.out j
 clear hb C1 HB0 HB1 BZ0 zb
 go_wp2
 refine bodyPost_ret (v := .tuple #[aggV v, .int .i64 e]) (by simp [results, Tryz.results14, go_sem, zq, aggV]) rfl ?_
 exact ⟨rfl, ZB.out⟩
def Many (p : List V × Int) (w : World) (en : Ending) (w' : World) : Prop := ∃ v', en = .returned (.tuple #[v', .int .i64 p.2]) ∧ Kd.R kV tV w' w.heap.size (fun _ => True) v' p.1 ∧ Below w.heap.size w w'
set_option maxRecDepth 100000 in
theorem drop_any (A : Option Addr) (c : Nat) (l : List V) (id : Int) (w : World) (hr : Kd.C kV w A l.length l) (hc : chainB l = true) : Calls Tryz.prog 105 #[.slice A l.length c, .int .u64 id] w (Many (dropF l id) w) := by
 have C1 := ChkC.check_any A c l w hr hc
 have hl : l.length ≤ 20 := by unfold chainB at hc; simp only [Bool.and_eq_true, decide_eq_true_eq] at hc; exact hc.1.1
 have C2 := Aside0.mk (fun W (hW : Below w.heap.size w W) => VerF.find_any A c l id W (Kd.C_below hr hW))
 have C3 := Aside0.mk (fun W (hW : Below w.heap.size w W) => VWithout.without_any A c l id W (Kd.C_below hr hW) (by omega))
 have HQ : Aside0 (dropF l id = if 0 ≤ IdxV.idx (fun x => x.f0 == id) l then (withoutL l id, 0) else ([], 4)) := ⟨by unfold dropF; rw [if_pos hc, ← IdxV.idx_any]; simp⟩
 generalize dropF l id = q at HQ ⊢
 clear hr hc hl
 go_enter Tryz.func105, Tryz.ntmps105
 go_wp2_with fail
 refine C1.mono ?_
 rintro e w1 ⟨rfl, hb⟩
 have HB1 := Aside0.mk hb
 clear hb C1
 go_wp2_with fail
 refine (C2.out _ HB1.out).mono ?_
 rintro e w2 ⟨rfl, hb⟩
 have HB2 := Aside0.mk (below_step HB1.out hb)
 clear hb C2 HB1
 generalize IdxV.idx (fun x : V => x.f0 == id) l = i at HQ ⊢
 by_cases h : 0 ≤ i
 ·have d1 : decide (i < 0) = false := decide_eq_false (by omega)
  have HQ := Aside0.mk (HQ.out.trans (if_pos h))
  clear h
  go_wp2_with fail
  refine (C3.out _ HB2.out).mono ?_
  rintro e w3 ⟨v', rfl, hR, hb⟩
  have HB3 := Aside0.mk (below_step HB2.out hb)
  have HR := Aside0.mk (show Kd.R kV tV w3 w.heap.size (fun _ => True) v' (withoutL l id) from Kd.R_lower hR HB2.out.size)
  clear hR hb C3 HB2
  go_wp2
  go_ret2
  rw [HQ.out]
  exact ⟨v', rfl, HR.out, HB3.out⟩
 ·have d1 : decide (i < 0) = true := decide_eq_true (by omega)
  have HQ := Aside0.mk (HQ.out.trans (if_neg h))
  clear h C3
  go_wp2
  go_ret2
  rw [HQ.out]
  exact ⟨_, rfl, Kd.R_nil _ _ _ _ _, HB2.out⟩
set_option maxRecDepth 100000 in
theorem delete_any (A : Option Addr) (c : Nat) (l : List V) (s id t : Int) (w : World) (hr : Kd.C kV w A l.length l) (hlc : l.length ≤ c) (hc : chainB l = true) (hs : (Lit.int .i64 s).wf = true) (hi : s = 0 ∨ s = 1 ∨ s = 2) (he : ∀ id : Int, elder l ⟨id, ⟨#[]⟩, true, t⟩ = false) : Calls Tryz.prog 101 #[.slice A l.length c, .int .i64 s, .int .u64 id, .int .i64 t] w (Many (delF l s id t) w) := by
 have CD := drop_any A c l 0 w hr hc
 have CP := fun id => Aside0.mk (VPut.put_any A c l s ⟨id, ⟨#[]⟩, true, t⟩ w hr hlc hs hc hi (he id))
 have hu := Tryz.underlying63
 unfold VPut.Post at CP
 unfold Many at CD
 unfold delF
 clear hr hc hs hi he
 by_cases h0 : s = 0
 ·rw [if_pos h0]
  have d0 : (s == 0) = true := beq_iff_eq.2 h0
  clear h0 CP
  go_enter Tryz.func101, Tryz.ntmps101
  go_wp2_with fail
  refine CD.mono ?_
  rintro e w1 ⟨v', rfl, hR, hb⟩
  have H := Aside0.mk (And.intro hR hb)
  clear hR hb CD
  go_wp2
  go_ret2
  exact ⟨v', rfl, H.out⟩
 ·rw [if_neg h0]
  have d0 : (s == 0) = false := beq_eq_false_iff_ne.2 h0
  clear CD
  by_cases h2 : s = 2
  ·rw [if_pos h2]
   have d2 : (s == 2) = true := beq_iff_eq.2 h2
   clear h0 h2
   go_enter Tryz.func101, Tryz.ntmps101
   go_wp2_with fail
   refine (CP 0).out.mono ?_
   rintro e w1 ⟨v', rfl, hR, hb⟩
   have H := Aside0.mk (And.intro hR hb)
   clear hR hb CP
   go_wp2
   go_ret2
   exact ⟨v', rfl, H.out⟩
  ·rw [if_neg h2]
   have d2 : (s == 2) = false := beq_eq_false_iff_ne.2 h2
   clear h0 h2
   go_enter Tryz.func101, Tryz.ntmps101
   go_wp2_with fail
   refine (CP id).out.mono ?_
   rintro e w1 ⟨v', rfl, hR, hb⟩
   have H := Aside0.mk (And.intro hR hb)
   clear hR hb CP
   go_wp2
   go_ret2
   exact ⟨v', rfl, H.out⟩
end Go.Proofs.YtpccbmechgkogaaGreatDoor.ChAt
namespace Go.Proofs.YtpccbmechgkogaaGreatDoor.BkPut
open Go.RowKit Go.Proofs.YtpccbmechgkogaaGreatDoor.P Go.Proofs.YtpccbmechgkogaaGreatDoorW.PrintWords Go.Proofs.YtpccbmechgkogaaGreatDoor.PureKit Go.Proofs.YtpccbmechgkogaaGreatDoor.BkSpec Go.Proofs.YtpccbmechgkogaaGreatDoor.Wk Go.Proofs.YtpccbmechgkogaaGreatDoor.IdxPut Go.Proofs.YtpccbmechgkogaaGreatDoor.Open Go.Proofs.YtpccbmechgkogaaGreatDoor.Close Go.Proofs.YtpccbmechgkogaaGreatDoor.Vers Go.Proofs.YtpccbmechgkogaaGreatDoor.BkLay Go.Proofs.YtpccbmechgkogaaGreatDoor.BkOk
def Done3 (now : Int) (w : World) (ok : Nat → Prop) (en : Ending) (w' : World) : Prop :=
 ∃ (b' : B) (v2 v3 : Value) (id er : Int), en = .returned (.tuple #[.agg #[.string b'.f0, .int .i64 b'.f1, v2, v3, .int .u64 b'.f4], .int .u64 id, .int .i64 er]) ∧ Sl w' (fun k => ok k ∨ w.heap.size ≤ k) b' v2 v3 ∧ Ok now b' ∧ Below w.heap.size w w'
def Done2 (now : Int) (w : World) (ok : Nat → Prop) (en : Ending) (w' : World) : Prop :=
 ∃ (b' : B) (v2 v3 : Value) (er : Int), en = .returned (.tuple #[.agg #[.string b'.f0, .int .i64 b'.f1, v2, v3, .int .u64 b'.f4], .int .i64 er]) ∧ Sl w' (fun k => ok k ∨ w.heap.size ≤ k) b' v2 v3 ∧ Ok now b' ∧ Below w.heap.size w w'
theorem wf_state {now : Int} {b : B} (h : Ok now b) : (Lit.int .i64 b.f1).wf = true := WalkArith.wf_i64 (by have := h.s0; have := h.s2; omega)
theorem lay_ok {now : Int} {b b' : B} {key : ByteArray} {R : Int → List V → Int → Prop} {er : Int} (h : Ok now b) (hl : Lay b key R b' er) (hR : ∀ id r, R id r 0 → ∀ v ∈ r, v ∈ getL b.f2 key ∨ (v.f3 = now ∧ if b.f1 = 1 then v.f0 = id else v.f0 = 0)) : Ok now b' := by
 rcases hl with ⟨_, rfl⟩ | ⟨_, id, n, r, hc, _, hr, hp, rfl, ho⟩
 ·exact h
 ·have hn : b.f4 ≤ n ∧ n ≤ 281474976710655 := by
   have := h.l
   rcases hc with ⟨_, _, h3, h4⟩ | ⟨_, _, h3⟩ <;> omega
  refine h.put key r n hn.1 hn.2 hp ho (fun v hv => ?_)
  rcases hR id r hr v hv with h1 | ⟨h1, h2⟩
  ·obtain ⟨a1, a2, a3, a4⟩ := h.got key v h1
   exact ⟨a1, by omega, a3, a4⟩
  ·have := h.l0
   rcases hc with ⟨c1, c2, c3, _⟩ | ⟨c1, c2, c3⟩
   ·rw [if_pos c1] at h2
    exact ⟨by omega, by omega, fun h0 => by omega, by omega⟩
   ·rw [if_neg c1] at h2
    exact ⟨by omega, by omega, fun _ => h2, by omega⟩
theorem elder_no {l : List V} {x : V} (h : ∀ v ∈ l, v.f3 ≤ x.f3) : ChSpec.elder l x = false := by
 cases l with
 | nil => rfl
 | cons y r => exact decide_eq_false (by have := h y (by simp); omega)
theorem may_lay {now : Int} {b : B} (h : Ok now b) (key : ByteArray) : ChSpec.chainB (getL b.f2 key) = true ∧ (b.f1 = 0 ∨ b.f1 = 1 ∨ b.f1 = 2) ∧ ∀ v ∈ getL b.f2 key, v.f3 ≤ now :=
 ⟨h.chain key, by have := h.s0; have := h.s2; omega, fun v hv => (h.got key v hv).2.2.2⟩
theorem drop_chain {l r : List V} {id : Int} (hw : ∀ v ∈ l, 0 ≤ v.f0) (hc : ChSpec.chainB l = true) (h : ChSpec.dropF l id = (r, 0)) : ChSpec.chainB r = true := by
 unfold ChSpec.dropF at h
 rw [if_pos hc] at h
 split at h
 ·obtain ⟨rfl, _⟩ := Prod.mk.inj h
  exact ChOrd.chain_sub hw (ChOrd.without_sub l id) hc
 ·cases congrArg Prod.snd h
theorem put_chain {l r : List V} {s : Int} {x : V} (hw : ∀ v ∈ l, 0 ≤ v.f0) (hx : 0 ≤ x.f0) (hf : ∀ v ∈ l, v.f3 ≤ x.f3) (h : ChSpec.putF l s x = (r, 0)) : ChSpec.chainB r = true := by
 obtain ⟨h1, h2, h3, h4, h5, h6, h7⟩ := ChOrd.put_good (congrArg Prod.snd h)
 have h8 := congrArg Prod.fst (h7.symm.trans h)
 dsimp only at h8
 rw [← h8]
 by_cases hs : s = 1
 ·subst hs
  obtain ⟨g1, g2, g3⟩ := ChOrd.put_ahead (congrArg Prod.snd h)
  have e := congrArg Prod.fst (h7.symm.trans g3)
  dsimp only at e
  rw [e] at h6 ⊢
  exact ChOrd.chain_ahead hw hx h1 h3 (elder_no hf) (by simpa using h6) (fun u hu => .inr (.inr (g2 u hu)))
 ·have e : (ChSpec.layF l s x).1 = { x with f0 := 0 } :: ChSpec.withoutL l 0 := by unfold ChSpec.layF; rw [if_neg hs]; rfl
  rw [e] at h6 ⊢
  have hsub := ChOrd.without_sub l 0
  refine ChOrd.chain_ahead (fun u hu => hw u (hsub.subset hu)) (Int.le_refl _) (ChOrd.chain_sub hw hsub h1) ?_ (elder_no (fun v hv => hf v (hsub.subset hv))) (by simpa using h6) (fun u hu => .inr (.inl ⟨(ChOrd.without_mem.1 hu).2, rfl⟩))
  unfold ChSpec.mayB at h3 ⊢
  simp only [Bool.and_eq_true, decide_eq_true_eq] at h3 ⊢
  exact ⟨⟨⟨⟨by omega, h3.1.1.1.2⟩, h3.1.1.2⟩, h3.1.2⟩, h3.2⟩
def RP (b : B) (key data : ByteArray) (now id : Int) (r : List V) (er : Int) : Prop := ChSpec.putF (getL b.f2 key) b.f1 ⟨id, data, false, now⟩ = (r, er)
set_option maxRecDepth 100000 in
set_option maxHeartbeats 1600000 in
theorem put_fn (b : B) (v2 v3 : Value) (key data : ByteArray) (now id : Int) (A : Option Addr) (c : Nat) (g : Nat) (W : World) (hs : (Lit.int .i64 b.f1).wf = true) (h0 : W.heap[g]? = some (.cells #[.string b.f0, .int .i64 b.f1, v2, v3, .int .u64 b.f4] tB (0, 0))) (h1 : W.heap[g + 1]? = some (.cells #[.string data] 9 (0, 0))) (h2 : W.heap[g + 1 + 1]? = some (.cells #[.int .i64 now] 3 (0, 0)))
  (hC : Kd.C kV W A (getL b.f2 key).length (getL b.f2 key)) (hc : (getL b.f2 key).length ≤ c) (hk : ChSpec.chainB (getL b.f2 key) = true ∧ (b.f1 = 0 ∨ b.f1 = 1 ∨ b.f1 = 2) ∧ ∀ v ∈ getL b.f2 key, v.f3 ≤ now) :
  Calls Tryz.prog 98 #[.slice A (getL b.f2 key).length c, .int .u64 id, .pointer (some ⟨g, 0, none⟩), .pointer (some ⟨g + 1, 0, none⟩), .pointer (some ⟨g + 1 + 1, 0, none⟩)] W (Does (RP b key data now id) W) := by
 have hz0 := fun j => blk_cell h0 j
 have hz1 := fun j => blk_cell h1 j
 have hz2 := fun j => blk_cell h2 j
 obtain ⟨⟨r, er⟩, hr⟩ : ∃ p, ChSpec.putF (getL b.f2 key) b.f1 ⟨id, data, false, now⟩ = p := ⟨_, rfl⟩
 have CP := VPut.put_any A c (getL b.f2 key) b.f1 ⟨id, data, false, now⟩ W hC hc hs hk.1 hk.2.1 (elder_no (fun v hv => hk.2.2 v hv))
 unfold VPut.Post IdxV.ver at CP
 rw [hr] at CP
 have HR := Aside0.mk hr
 clear h0 h1 h2 hC hc hs hr hk
 go_enter Tryz.func98, Tryz.ntmps98
 go_wp2_with fail
 refine CP.mono ?_
 rintro en w1 ⟨v, rfl, hV, hb⟩
 have HE := Aside0.mk (And.intro hV hb)
 clear hV hb CP
 go_wp2_with fail
 go_ret2
 exact ⟨v, r, er, rfl, HE.out.1, HR.out, HE.out.2⟩
set_option maxRecDepth 100000 in
set_option maxHeartbeats 3200000 in
theorem put_any (now : Int) (w : World) (ok : Nat → Prop) (b : B) (v2 v3 : Value) (key data : ByteArray) (h : Sl w ok b v2 v3) (hb : Ok now b) :
  Calls Tryz.prog 60 #[.agg #[.string b.f0, .int .i64 b.f1, v2, v3, .int .u64 b.f4], .string key, .string data, .int .i64 now] w (Done3 now w ok) := by
 have HS := Aside0.mk h
 obtain ⟨⟨A2, c2, rfl, hc2, hF2⟩, ⟨A3, c3, rfl, hc3, hF3⟩⟩ := h
 have hu := Tryz.underlying40
 have hmf : ∀ (fn : Fn) (first cap : Array Value) (w : World), (Instr.makeFunc fn first cap).run Tryz.prog w = .ok (.func fn first cap) w := fun _ _ _ _ => rfl
 have HP := Aside0.mk hb
 clear hF2 hF3 hc2 hc3 hb
 go_enter Tryz.func60, Tryz.ntmps60
 go_wp2_with fail
 refine (laid_any ((((w.alloc (.cells #[.string b.f0, .int .i64 b.f1, .slice A2 b.f2.length c2, .slice A3 b.f3.length c3, .int .u64 b.f4] tB)).alloc (.cells #[.string data] 9)).alloc (.cells #[.int .i64 now] 3)).alloc (.cells #[.string ⟨#[]⟩, .int .i64 0, .slice none 0 0, .slice none 0 0, .int .u64 0] tB)) (fun k => ok k ∧ k < w.heap.size) b _ _ key (HS.out.bound.below (below_alloc (below_alloc (below_alloc (below_alloc (Below.refl w.heap.size w) (.cells #[.string b.f0, .int .i64 b.f1, .slice A2 b.f2.length c2, .slice A3 b.f3.length c3, .int .u64 b.f4] tB)) (.cells #[.string data] 9)) (.cells #[.int .i64 now] 3)) (.cells #[.string ⟨#[]⟩, .int .i64 0, .slice none 0 0, .slice none 0 0, .int .u64 0] tB))) HP.out.bucket HP.out.l0 98 #[.pointer (some ⟨w.heap.size, 0, none⟩), .pointer (some ⟨w.heap.size + 1, 0, none⟩), .pointer (some ⟨w.heap.size + 1 + 1, 0, none⟩)] (fun _ _ => rfl) (RP b key data now) (fun id r hid hr => put_chain (fun v hv => (HP.out.got key v hv).1) (by have := HP.out.l0; show 0 ≤ id; omega) (fun v hv => (HP.out.got key v hv).2.2.2) hr) (fun W A c id hW hC hc _ => put_fn b _ _ key data now id A c w.heap.size W (wf_state HP.out) (blk_below (blk_alloc (blk3a w _ _ _) _) hW) (blk_below (blk_alloc (blk3b w _ _ _) _) hW) (blk_below (blk_alloc (blk3c w _ _ _) _) hW) hC hc (may_lay HP.out key))).mono ?_
 rintro en w1 ⟨b', u2, u3, id, er, rfl, hSl, hLay, hb1⟩
 obtain ⟨B2, d2, rfl⟩ := Kd.V_slice hSl.r2
 obtain ⟨B3, d3, rfl⟩ := Kd.V_slice hSl.r3
 have BR := Aside0.mk (blk_below (blk4d w _ _ _ _) hb1)
 have hz := fun j => blk_cell BR.out j
 have hf := fun j => blk_frozen BR.out j
 have HB1 := Aside0.mk (below_step (below_alloc (below_alloc (below_alloc (below_alloc (Below.refl w.heap.size w) (.cells #[.string b.f0, .int .i64 b.f1, .slice A2 b.f2.length c2, .slice A3 b.f3.length c3, .int .u64 b.f4] tB)) (.cells #[.string data] 9)) (.cells #[.int .i64 now] 3)) (.cells #[.string ⟨#[]⟩, .int .i64 0, .slice none 0 0, .slice none 0 0, .int .u64 0] tB)) hb1)
 have HSL := Aside0.mk hSl
 have HLY := Aside0.mk hLay
 have hs : (((((w.alloc (.cells #[.string b.f0, .int .i64 b.f1, .slice A2 b.f2.length c2, .slice A3 b.f3.length c3, .int .u64 b.f4] tB)).alloc (.cells #[.string data] 9)).alloc (.cells #[.int .i64 now] 3)).alloc (.cells #[.string ⟨#[]⟩, .int .i64 0, .slice none 0 0, .slice none 0 0, .int .u64 0] tB))).heap.size = w.heap.size + 4 := by simp
 have HS4 := Aside0.mk hs
 clear hSl hLay hb1 hs
 go_wp2
 have gS := set5_grown w1 (w.heap.size + 1 + 1 + 1) (.string b'.f0) (.int .i64 b'.f1) (.slice B2 b'.f2.length d2) (.slice B3 b'.f3.length d3) (.int .u64 b'.f4)
 have z := fun j => blk_cell (set5_blk BR.out (.string b'.f0) (.int .i64 b'.f1) (.slice B2 b'.f2.length d2) (.slice B3 b'.f3.length d3) (.int .u64 b'.f4)) j
 refine bodyPost_ret (v := .tuple #[.agg #[.string b'.f0, .int .i64 b'.f1, .slice B2 b'.f2.length d2, .slice B3 b'.f3.length d3, .int .u64 b'.f4], .int .u64 id, .int .i64 er]) (by simp [results, Tryz.results60, go_sem, z]) rfl ?_
 refine ⟨b', _, _, id, er, rfl, (HSL.out.grown gS ?_).mono ?_, lay_ok HP.out HLY.out ?_, HB1.out.grown gS HB1.out.size (fun k e => by cases e; omega)⟩
 ·have h4 := HS4.out
  rintro k (hk | hk)
  ·have := hk.2; omega
  ·rw [h4] at hk; omega
 ·have h4 := HS4.out
  rintro k (hk | hk)
  ·exact .inl hk.1
  ·rw [h4] at hk; exact .inr (by omega)
 ·intro id r hr v hv
  exact put_mem hr v hv
end Go.Proofs.YtpccbmechgkogaaGreatDoor.BkPut
