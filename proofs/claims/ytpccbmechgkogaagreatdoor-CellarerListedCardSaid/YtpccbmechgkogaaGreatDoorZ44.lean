/-
  Lemmas: RefO, RefE.
-/
import Derived.LoopTactic
import Derived.BigRegion
import Derived.Test.YtpccbmechgkogaaGreatDoorProg
import Derived.BigQuiet
import Derived.Test.YtpccbmechgkogaaGreatDoorV0
import Derived.Test.YtpccbmechgkogaaGreatDoorZ00
import Derived.Test.YtpccbmechgkogaaGreatDoorZ01
import Derived.Test.YtpccbmechgkogaaGreatDoorZ02
import Derived.Test.YtpccbmechgkogaaGreatDoorZ03
import Derived.Test.YtpccbmechgkogaaGreatDoorZ07
import Derived.Test.YtpccbmechgkogaaGreatDoorZ11
import Derived.Test.YtpccbmechgkogaaGreatDoorZ41
import Derived.Test.YtpccbmechgkogaaGreatDoorZ43
set_option linter.unusedVariables false
set_option linter.unusedSimpArgs false
namespace Go.Proofs.YtpccbmechgkogaaGreatDoor.RefO
open Go.RowKit Go.Proofs.YtpccbmechgkogaaGreatDoor.P Go.Proofs.YtpccbmechgkogaaGreatDoorW.PrintWords Go.Proofs.YtpccbmechgkogaaGreatDoorW.PrintLast Go.Proofs.YtpccbmechgkogaaGreatDoorW.PrintMore Go.Proofs.YtpccbmechgkogaaGreatDoor.PureKit Go.Proofs.YtpccbmechgkogaaGreatDoor.BkSpec
def Same (a b : World) : Prop := a = b
theorem Same.c {α : Type} {k : Kd α} {a b : World} {A : Option Addr} {n : Nat} {xs : List α} (h : Same a b) (hc : Kd.C k b A n xs) : Kd.C k a A n xs := by
 unfold Same at h
 rw [h]
 exact hc
theorem sum_take {α : Type} (f : α → Int) (l : List α) (k : Nat) (h : k < l.length) : ((l.take (k + 1)).map f).sum = ((l.take k).map f).sum + f l[k] := by
 rw [List.take_succ_eq_append_getElem h]
 simp only [List.map_append, List.sum_append, List.map_cons, List.map_nil, List.sum_cons, List.sum_nil, Int.add_zero]
theorem sum_nn {α : Type} (f : α → Int) (hf : ∀ x, 0 ≤ f x) : ∀ l : List α, 0 ≤ (l.map f).sum
 | [] => by simp
 | x :: r => by
  have h1 := sum_nn f hf r
  have h2 := hf x
  simp only [List.map_cons, List.sum_cons]
  omega
theorem sum_le {α : Type} (f : α → Int) (hf : ∀ x, 0 ≤ f x) (l : List α) (k : Nat) : ((l.take k).map f).sum ≤ (l.map f).sum := by
 have h1 : (l.map f).sum = ((l.take k).map f).sum + ((l.drop k).map f).sum := by rw [← List.sum_append, ← List.map_append, List.take_append_drop]
 have h2 := sum_nn f hf (l.drop k)
 omega
theorem sum_le_at {α : Type} (f : α → Int) (hf : ∀ x, 0 ≤ f x) (l : List α) (k : Nat) (h : k < l.length) : ((l.take k).map f).sum + f l[k] ≤ (l.map f).sum := by
 have := sum_le f hf l (k + 1)
 rw [sum_take f l k h] at this
 exact this
theorem octV_nn (l : List V) : 0 ≤ octV l := sum_nn _ (fun v => by omega) l
theorem octP_nn (l : List P) : 0 ≤ octP l := sum_nn _ (fun v => by omega) l
theorem rd_here {α : Type} (z : α) (l : List α) (k : Nat) (h : k < l.length) : l.getD ((k : Int).toNat) z = l[k] := by rw [Int.toNat_natCast, List.getD_eq_getElem?_getD, List.getElem?_eq_getElem h]; rfl
set_option maxRecDepth 100000 in
set_option maxHeartbeats 3200000 in
theorem oct6 (A : Option Addr) (c : Nat) (l : List E) (w : World) (hr : Kd.C k79 w A l.length l) (hl : l.length ≤ 60) (hx : ∀ x ∈ l, x.f1.length ≤ 60) (ho : octI l ≤ 20000) :
  Calls Tryz.prog 127 #[.slice A l.length c] w fun e w' => e = .returned (.int .i64 (octI l)) ∧ w' = w := by
 have HR := Aside0.mk hr
 have HX := Aside0.mk hx
 have HO := Aside0.mk ho
 have HB := Aside0.mk (show Same w w from rfl)
 have hu := Tryz.underlying79
 have hu2 := Tryz.underlying63
 clear hr hx ho
 go_enter Tryz.func127, Tryz.ntmps127
 go_wp2
 go_loopw [3, 4] (fun n i wr => ∃ k : Nat, k ≤ l.length ∧ i = .int .i64 k ∧ n = .int .i64 (octI (l.take k)) ∧ Aside0 (Same wr w)) (fun _ i _ => l.length - (intOf i).toNat)
 case atStart => exact ⟨0, by omega, rfl, rfl, HB⟩
 case round =>
  clear HB
  obtain ⟨k, hk, rfl, rfl, HB⟩ := hrel
  by_cases hlt : k < l.length
  ·have hmem := HX.out _ (List.getElem_mem hlt)
   have hle := sum_le_at (fun x : E => octV x.f1) (fun x => octV_nn _) l k hlt
   have hnx := sum_take (fun x : E => octV x.f1) l k hlt
   have hn0 := sum_nn (fun x : E => octV x.f1) (fun x => octV_nn _) (l.take k)
   have ht := HO.out
   unfold octI at ht ⊢
   obtain ⟨q, hq⟩ : ∃ q, q = ((l.take k).map (fun x : E => octV x.f1)).sum := ⟨_, rfl⟩
   rw [← hq] at hle hn0 hnx ⊢
   have HNX := Aside0.mk hnx
   have HQ := Aside0.mk (show 0 ≤ q ∧ q + octV l[k].f1 ≤ 20000 from ⟨hn0, by omega⟩)
   have HM := Aside0.mk hmem
   have HL := Aside0.mk hlt
   have j0 : (0 : Int) ≤ (k : Int) := by omega
   have j1 : (k : Int) < (l.length : Int) := by omega
   have hw2 : IntKind.i64.wrap ((k : Int) + 1) = ((k + 1 : Nat) : Int) := by rw [IntKind.wrap_i64]; omega
   clear hq hle hnx hn0 ht hmem
   have HB1 := HB
   go_wp2
   go_loopw [3, 5] (fun n j wr => ∃ m : Nat, m ≤ (l[k]'HL.out).f1.length ∧ j = .int .i64 m ∧ n = .int .i64 (q + octV ((l[k]'HL.out).f1.take m)) ∧ Aside0 (Same wr w)) (fun _ j _ => (l[k]'HL.out).f1.length - (intOf j).toNat)
   case atStart => exact ⟨0, by omega, rfl, by simp [octV], HB1⟩
   case round =>
    clear HB HB1
    obtain ⟨m, hm, rfl, rfl, HB⟩ := hrel
    obtain ⟨ad, A1, c1, e0, h0, h1, hl1, hC⟩ := at_T79 (HB.out.c HR.out) (k : Int) (by omega) (by omega)
    subst e0
    have hx : rd_T79 l (k : Int) = l[k] := rd_here _ l k HL.out
    rw [hx] at h0 h1 hl1 hC
    rw [Int.toNat_natCast] at h0 h1
    obtain ⟨x, hxx⟩ : ∃ x, x = l[k] := ⟨_, rfl⟩
    have hm' : m ≤ x.f1.length := by rw [hxx]; exact hm
    have hmem : x.f1.length ≤ 60 := by rw [hxx]; exact HM.out
    have HQ' : Aside0 (0 ≤ q ∧ q + octV x.f1 ≤ 20000) := ⟨by rw [hxx]; exact HQ.out⟩
    simp only [← hxx] at h0 h1 hl1 hC ⊢
    have HXX := Aside0.mk hxx
    clear hx hm hxx
    by_cases hlt2 : m < x.f1.length
    ·obtain ⟨ad2, e1, _, y1, _, _⟩ := at_T63 (hC) (m : Int) (by omega) (by omega)
     subst e1
     have hy : rd_T63 x.f1 (m : Int) = x.f1[m] := rd_here _ x.f1 m hlt2
     rw [hy] at y1
     rw [Int.toNat_natCast] at y1
     have hle := sum_le_at (fun v : V => (v.f1.size : Int)) (fun v => by omega) x.f1 m hlt2
     have hn0 := sum_nn (fun v : V => (v.f1.size : Int)) (fun v => by omega) (x.f1.take m)
     have hnx := sum_take (fun v : V => (v.f1.size : Int)) x.f1 m hlt2
     have hb := HQ'.out
     unfold octV at hb ⊢
     obtain ⟨z, hz⟩ : ∃ z, z = ((x.f1.take m).map (fun v : V => (v.f1.size : Int))).sum := ⟨_, rfl⟩
     rw [← hz] at hle hn0 hnx ⊢
     have i0 : (0 : Int) ≤ (m : Int) := by omega
     have i1 : (m : Int) < (x.f1.length : Int) := by omega
     obtain ⟨u, hu0⟩ : ∃ u, u = x.f1[m].f1 := ⟨_, rfl⟩
     rw [← hu0] at y1 hle hnx
     have hw3 : IntKind.i64.wrap (q + z + (u.size : Int)) = q + z + (u.size : Int) := by rw [IntKind.wrap_i64]; omega
     have HNY := Aside0.mk hnx
     clear hb hy hle hn0 hnx hz hu0
     go_wp2
     exact ⟨⟨m + 1, by (try rw [← HXX.out]); omega, by go_num, by rw [HNY.out, Int.add_assoc], HB⟩, by (try rw [← HXX.out]); simp [intOf]; omega⟩
    ·have hm2 : m = x.f1.length := by omega
     have HT : Aside0 (((l.take (k + 1)).map (fun x : E => octV x.f1)).sum = q + octV (x.f1.take m)) := ⟨by rw [HNX.out, ← HXX.out, hm2, List.take_length]⟩
     have d2 : decide (m < x.f1.length) = false := decide_eq_false hlt2
     clear hm2 hlt2
     go_wp2
     exact ⟨⟨k + 1, by have := HL.out; omega, by go_num, by rw [← HT.out], HB⟩, by simp [intOf]; have := HL.out; omega⟩
  ·have hk2 : k = l.length := by omega
   subst hk2
   rw [List.take_length]
   go_wp2
   go_ret
   exact ⟨rfl, HB.out⟩
set_option maxRecDepth 100000 in
set_option maxHeartbeats 3200000 in
theorem oct8 (A : Option Addr) (c : Nat) (l : List U) (w : World) (hr : Kd.C k131 w A l.length l) (hl : l.length ≤ 60) (hx : ∀ x ∈ l, x.f2.length ≤ 60) (ho : octU l ≤ 20000) :
  Calls Tryz.prog 128 #[.slice A l.length c] w fun e w' => e = .returned (.int .i64 (octU l)) ∧ w' = w := by
 have HR := Aside0.mk hr
 have HX := Aside0.mk hx
 have HO := Aside0.mk ho
 have HB := Aside0.mk (show Same w w from rfl)
 have hu := Tryz.underlying131
 have hu2 := Tryz.underlying119
 clear hr hx ho
 go_enter Tryz.func128, Tryz.ntmps128
 go_wp2
 go_loopw [3, 4] (fun n i wr => ∃ k : Nat, k ≤ l.length ∧ i = .int .i64 k ∧ n = .int .i64 (octU (l.take k)) ∧ Aside0 (Same wr w)) (fun _ i _ => l.length - (intOf i).toNat)
 case atStart => exact ⟨0, by omega, rfl, rfl, HB⟩
 case round =>
  clear HB
  obtain ⟨k, hk, rfl, rfl, HB⟩ := hrel
  by_cases hlt : k < l.length
  ·have hmem := HX.out _ (List.getElem_mem hlt)
   have hle := sum_le_at (fun x : U => octP x.f2) (fun x => octP_nn _) l k hlt
   have hnx := sum_take (fun x : U => octP x.f2) l k hlt
   have hn0 := sum_nn (fun x : U => octP x.f2) (fun x => octP_nn _) (l.take k)
   have ht := HO.out
   unfold octU at ht ⊢
   obtain ⟨q, hq⟩ : ∃ q, q = ((l.take k).map (fun x : U => octP x.f2)).sum := ⟨_, rfl⟩
   rw [← hq] at hle hn0 hnx ⊢
   have HNX := Aside0.mk hnx
   have HQ := Aside0.mk (show 0 ≤ q ∧ q + octP l[k].f2 ≤ 20000 from ⟨hn0, by omega⟩)
   have HM := Aside0.mk hmem
   have HL := Aside0.mk hlt
   have j0 : (0 : Int) ≤ (k : Int) := by omega
   have j1 : (k : Int) < (l.length : Int) := by omega
   have hw2 : IntKind.i64.wrap ((k : Int) + 1) = ((k + 1 : Nat) : Int) := by rw [IntKind.wrap_i64]; omega
   clear hq hle hnx hn0 ht hmem
   have HB1 := HB
   go_wp2
   go_loopw [3, 5] (fun n j wr => ∃ m : Nat, m ≤ (l[k]'HL.out).f2.length ∧ j = .int .i64 m ∧ n = .int .i64 (q + octP ((l[k]'HL.out).f2.take m)) ∧ Aside0 (Same wr w)) (fun _ j _ => (l[k]'HL.out).f2.length - (intOf j).toNat)
   case atStart => exact ⟨0, by omega, rfl, by simp [octP], HB1⟩
   case round =>
    clear HB HB1
    obtain ⟨m, hm, rfl, rfl, HB⟩ := hrel
    obtain ⟨ad, A1, c1, e0, h0, h1, h2, hl1, hC⟩ := at_T131 (HB.out.c HR.out) (k : Int) (by omega) (by omega)
    subst e0
    have hx : rd_T131 l (k : Int) = l[k] := rd_here _ l k HL.out
    rw [hx] at h0 h1 h2 hl1 hC
    rw [Int.toNat_natCast] at h0 h1 h2
    obtain ⟨x, hxx⟩ : ∃ x, x = l[k] := ⟨_, rfl⟩
    have hm' : m ≤ x.f2.length := by rw [hxx]; exact hm
    have hmem : x.f2.length ≤ 60 := by rw [hxx]; exact HM.out
    have HQ' : Aside0 (0 ≤ q ∧ q + octP x.f2 ≤ 20000) := ⟨by rw [hxx]; exact HQ.out⟩
    simp only [← hxx] at h0 h1 h2 hl1 hC ⊢
    have HXX := Aside0.mk hxx
    clear hx hm hxx
    by_cases hlt2 : m < x.f2.length
    ·obtain ⟨ad2, e1, _, y1⟩ := at_T119 (hC) (m : Int) (by omega) (by omega)
     subst e1
     have hy : rd_T119 x.f2 (m : Int) = x.f2[m] := rd_here _ x.f2 m hlt2
     rw [hy] at y1
     rw [Int.toNat_natCast] at y1
     have hle := sum_le_at (fun v : P => (v.f1.size : Int)) (fun v => by omega) x.f2 m hlt2
     have hn0 := sum_nn (fun v : P => (v.f1.size : Int)) (fun v => by omega) (x.f2.take m)
     have hnx := sum_take (fun v : P => (v.f1.size : Int)) x.f2 m hlt2
     have hb := HQ'.out
     unfold octP at hb ⊢
     obtain ⟨z, hz⟩ : ∃ z, z = ((x.f2.take m).map (fun v : P => (v.f1.size : Int))).sum := ⟨_, rfl⟩
     rw [← hz] at hle hn0 hnx ⊢
     have i0 : (0 : Int) ≤ (m : Int) := by omega
     have i1 : (m : Int) < (x.f2.length : Int) := by omega
     obtain ⟨u, hu0⟩ : ∃ u, u = x.f2[m].f1 := ⟨_, rfl⟩
     rw [← hu0] at y1 hle hnx
     have hw3 : IntKind.i64.wrap (q + z + (u.size : Int)) = q + z + (u.size : Int) := by rw [IntKind.wrap_i64]; omega
     have HNY := Aside0.mk hnx
     clear hb hy hle hn0 hnx hz hu0
     go_wp2
     exact ⟨⟨m + 1, by (try rw [← HXX.out]); omega, by go_num, by rw [HNY.out, Int.add_assoc], HB⟩, by (try rw [← HXX.out]); simp [intOf]; omega⟩
    ·have hm2 : m = x.f2.length := by omega
     have HT : Aside0 (((l.take (k + 1)).map (fun x : U => octP x.f2)).sum = q + octP (x.f2.take m)) := ⟨by rw [HNX.out, ← HXX.out, hm2, List.take_length]⟩
     have d2 : decide (m < x.f2.length) = false := decide_eq_false hlt2
     clear hm2 hlt2
     go_wp2
     exact ⟨⟨k + 1, by have := HL.out; omega, by go_num, by rw [← HT.out], HB⟩, by simp [intOf]; have := HL.out; omega⟩
  ·have hk2 : k = l.length := by omega
   subst hk2
   rw [List.take_length]
   go_wp2
   go_ret
   exact ⟨rfl, HB.out⟩
end Go.Proofs.YtpccbmechgkogaaGreatDoor.RefO
namespace Go.Proofs.YtpccbmechgkogaaGreatDoor.RefE
open Go.RowKit Go.Proofs.YtpccbmechgkogaaGreatDoor.P Go.Proofs.YtpccbmechgkogaaGreatDoorW.PrintWords Go.Proofs.YtpccbmechgkogaaGreatDoorW.PrintLast Go.Proofs.YtpccbmechgkogaaGreatDoorW.PrintMore Go.Proofs.YtpccbmechgkogaaGreatDoor.PureKit Go.Proofs.YtpccbmechgkogaaGreatDoor.BkSpec Go.Proofs.YtpccbmechgkogaaGreatDoor.BkOk
structure Few (b : B) : Prop where
 l : b.f2.length ≤ 60
 u : b.f3.length ≤ 10
 xs : ∀ x ∈ b.f2, x.f1.length ≤ 60
 us : ∀ u ∈ b.f3, u.f2.length ≤ 60
 oi : octI b.f2 ≤ 20000
 ou : octU b.f3 ≤ 20000
 n0 : 0 ≤ octI b.f2 ∧ 0 ≤ octU b.f3
set_option maxRecDepth 100000 in
set_option maxHeartbeats 3200000 in
theorem oct9 (b : B) (A2 : Option Addr) (c2 : Nat) (A3 : Option Addr) (c3 : Nat) (w : World) (h : Few b) (hr2 : Kd.C k79 w A2 b.f2.length b.f2) (hr3 : Kd.C k131 w A3 b.f3.length b.f3) :
  Calls Tryz.prog 73 #[.agg #[.string b.f0, .int .i64 b.f1, .slice A2 b.f2.length c2, .slice A3 b.f3.length c3, .int .u64 b.f4]] w fun e w' => e = .returned (.int .i64 (octI b.f2 + octU b.f3)) ∧ Below w.heap.size w w' := by
 have hw : IntKind.i64.wrap (octI b.f2 + octU b.f3) = octI b.f2 + octU b.f3 := by have := h.oi; have := h.ou; have := h.n0; rw [IntKind.wrap_i64]; omega
 have C6 := Aside0.mk (fun (W : World) (hW : Below w.heap.size w W) => RefO.oct6 A2 c2 b.f2 W (Kd.C_below hr2 hW) h.l h.xs h.oi)
 have C8 := Aside0.mk (fun (W : World) (hW : Below w.heap.size w W) => RefO.oct8 A3 c3 b.f3 W (Kd.C_below hr3 hW) (by have := h.u; omega) h.us h.ou)
 have HB := Aside0.mk (below_alloc (Below.refl w.heap.size w) (.cells #[.string b.f0, .int .i64 b.f1, .slice A2 b.f2.length c2, .slice A3 b.f3.length c3, .int .u64 b.f4] 40))
 have hu := Tryz.underlying40
 clear h hr2 hr3
 go_enter Tryz.func73, Tryz.ntmps73
 go_wp2_with fail
 go_quiet (first | exact Calls.quiet_of_same (C6.out _ (by repeat (first | exact HB.out | apply below_drew | apply pw_below_drewN))) | exact Calls.quiet_of_same (C8.out _ (by repeat (first | exact HB.out | apply below_drew | apply pw_below_drewN))))
 go_wp2
 go_ret
 exact ⟨rfl, by repeat (first | exact HB.out | apply below_drew | apply pw_below_drewN)⟩
theorem few_of {now : Int} {b : B} (h : Ok now b) : Few b := by
 have hp := h.pts
 unfold partsB at hp
 simp only [Bool.and_eq_true, decide_eq_true_eq, List.all_eq_true] at hp
 obtain ⟨h1, h2, _⟩ := (IdxLaws.index_iff b.f2).1 h.idx
 have hi := RefO.sum_nn (fun x : E => octV x.f1) (fun x => RefO.octV_nn _) b.f2
 have hu := RefO.sum_nn (fun x : U => octP x.f2) (fun x => RefO.octP_nn _) b.f3
 have ho := h.oct
 refine ⟨h1, hp.1.1, fun x hx => ?_, fun u hu => ?_, ?_, ?_, hi, hu⟩
 ·have := h2 x hx
  simp only [IdxLaws.okE, ChSpec.chainB, Bool.and_eq_true, decide_eq_true_eq] at this
  have := this.2.1.1
  omega
 ·have := hp.1.2 u hu
  unfold upB at this
  simp only [Bool.and_eq_true, decide_eq_true_eq] at this
  have := this.1.1.2
  omega
 ·unfold octI at *; unfold octU at *; omega
 ·unfold octI at *; unfold octU at *; omega
theorem entries_of {now : Int} {b : B} (h : Ok now b) : (∀ x ∈ b.f2, Name.keyB x.f0 = true ∧ x.f1 ≠ [] ∧ x.f1.length ≤ 20 ∧ (∀ v ∈ x.f1, ChSpec.mayB v = true) ∧ x.f1.Pairwise ChOrd.Ord) ∧ BkSpec.Next (fun a b : E => Op.bytesLess a.f0.toList b.f0.toList = true) b.f2 := by
 obtain ⟨h1, h2, h3⟩ := (IdxLaws.index_iff b.f2).1 h.idx
 refine ⟨fun x hx => ?_, BkSpec.next_pair h3⟩
 have := h2 x hx
 simp only [IdxLaws.okE, Bool.and_eq_true, Bool.not_eq_true'] at this
 obtain ⟨h4, h5, h6⟩ := (ChOrd.chain_iff (fun v hv => (h.vs x hx v hv).1)).1 this.2
 exact ⟨this.1.1, by intro e; rw [e] at this; simp at this, h4, h5, h6⟩
theorem ups_of {now : Int} {b : B} (h : Ok now b) : b.f3.length ≤ 10 ∧ (∀ u ∈ b.f3, upB u = true) ∧ BkSpec.Next (fun a b : U => a.f0 < b.f0) b.f3 := by
 have hp := h.pts
 unfold partsB at hp
 simp only [Bool.and_eq_true, decide_eq_true_eq, List.all_eq_true] at hp
 exact ⟨hp.1.1, hp.1.2, BkSpec.next_rise (fun u : U => u.f0) hp.2⟩
set_option maxRecDepth 100000 in
set_option maxHeartbeats 6400000 in
theorem may9 (now : Int) (b : B) (A2 : Option Addr) (c2 : Nat) (A3 : Option Addr) (c3 : Nat) (w : World) (h : Ok now b) (hr2 : Kd.C k79 w A2 b.f2.length b.f2) (hr3 : Kd.C k131 w A3 b.f3.length b.f3) :
  Calls Tryz.prog 33 #[.agg #[.string b.f0, .int .i64 b.f1, .slice A2 b.f2.length c2, .slice A3 b.f3.length c3, .int .u64 b.f4]] w fun e w' => e = .returned (.bool true) ∧ Below w.heap.size w w' := by
 have hF := few_of h
 have C1 := Aside0.mk (fun (W : World) => RefB.bucket_ok b.f0 W h.name)
 have C6 := Aside0.mk (fun (W : World) (hW : Below w.heap.size w W) => RefD.may6 A2 c2 b.f2 W (Kd.C_below hr2 hW) hF.l (entries_of h).1 (entries_of h).2)
 have C8 := Aside0.mk (fun (W : World) (hW : Below w.heap.size w W) => RefD.may8 A3 c3 b.f3 W (Kd.C_below hr3 hW) (ups_of h).1 (ups_of h).2.1 (ups_of h).2.2)
 have C9 := Aside0.mk (fun (W : World) (hW : Below w.heap.size w W) => oct9 b A2 c2 A3 c3 W hF (Kd.C_below hr2 hW) (Kd.C_below hr3 hW))
 have HR2 := Aside0.mk (fun (W : World) (hW : Below w.heap.size w W) => Kd.C_below hr2 hW)
 have HR3 := Aside0.mk (fun (W : World) (hW : Below w.heap.size w W) => Kd.C_below hr3 hW)
 have HV := Aside0.mk h.vs
 have HU := Aside0.mk h.us
 have HF := Aside0.mk hF
 have hu := Tryz.underlying40
 have hue := Tryz.underlying79
 have huv := Tryz.underlying63
 have huu := Tryz.underlying131
 have BK := Aside0.mk (blk_new w (.cells #[.string b.f0, .int .i64 b.f1, .slice A2 b.f2.length c2, .slice A3 b.f3.length c3, .int .u64 b.f4] 40))
 have HB := Aside0.mk (below_alloc (Below.refl w.heap.size w) (.cells #[.string b.f0, .int .i64 b.f1, .slice A2 b.f2.length c2, .slice A3 b.f3.length c3, .int .u64 b.f4] 40))
 have d1 : decide (b.f1 < 0) = false := by rw [decide_eq_false_iff_not]; have := h.s0; omega
 have d2 : decide (b.f1 > 2) = false := by rw [decide_eq_false_iff_not]; have := h.s2; omega
 have d3 : decide (b.f4 > 281474976710655) = false := by rw [decide_eq_false_iff_not]; have := h.l; omega
 have d4 : decide (octI b.f2 + octU b.f3 > 20000) = false := by rw [decide_eq_false_iff_not]; have := h.oct; omega
 have hz := fun j => blk_cell BK.out j
 clear h hF hr2 hr3
 go_enter Tryz.func33, Tryz.ntmps33
 go_wp2_with fail
 refine (C1.out _).mono ?_
 rintro e w1 ⟨rfl, hb⟩
 have n0 := Aside0.mk (below_step HB.out hb)
 have n1 := Aside0.mk (blk_below BK.out hb)
 clear HB BK hb hz C1
 have HB := n0
 have BK := n1
 clear n0 n1
 have hz := fun j => blk_cell BK.out j
 go_wp2_with fail
 refine (C6.out _ HB.out).mono ?_
 rintro e w2 ⟨rfl, hb⟩
 have n0 := Aside0.mk (below_step HB.out hb)
 have n1 := Aside0.mk (blk_below BK.out hb)
 clear HB BK hb hz C6
 have HB := n0
 have BK := n1
 clear n0 n1
 have hz := fun j => blk_cell BK.out j
 go_wp2_with fail
 refine (C8.out _ HB.out).mono ?_
 rintro e w3 ⟨rfl, hb⟩
 have n0 := Aside0.mk (below_step HB.out hb)
 have n1 := Aside0.mk (blk_below BK.out hb)
 clear HB BK hb hz C8
 have HB := n0
 have BK := n1
 clear n0 n1
 have hz := fun j => blk_cell BK.out j
 go_wp2_with fail
 refine (C9.out _ HB.out).mono ?_
 rintro e w4 ⟨rfl, hb⟩
 have n0 := Aside0.mk (below_step HB.out hb)
 have n1 := Aside0.mk (blk_below BK.out hb)
 clear HB BK hb hz C9
 have HB := n0
 have BK := n1
 clear n0 n1
 have hz := fun j => blk_cell BK.out j
 go_wp2
 clear d1 d2 d3 d4 hz
 go_loopw [3] (fun v wr => ∃ k : Nat, v = .int .i64 k ∧ k ≤ b.f2.length ∧ Aside0 (wr.heap[w.heap.size]? = some (.cells #[.string b.f0, .int .i64 b.f1, .slice A2 b.f2.length c2, .slice A3 b.f3.length c3, .int .u64 b.f4] 40 (0, 0))) ∧ Aside0 (Below w.heap.size w wr)) (fun v _ => b.f2.length - (intOf v).toNat)
 case atStart => exact ⟨0, rfl, Nat.zero_le _, BK, HB⟩
 case round =>
  clear HB BK
  obtain ⟨k, rfl, hk, BK, HB⟩ := hrel
  have hz := fun j => blk_cell BK.out j
  by_cases hlt : k < b.f2.length
  ·have d4 : decide ((k : Int) < (b.f2.length : Int)) = true := by rw [decide_eq_true_iff]; omega
   have HL := Aside0.mk hlt
   have hw2 : IntKind.i64.wrap ((k : Int) + 1) = ((k + 1 : Nat) : Int) := by rw [IntKind.wrap_i64]; have := HF.out.l; omega
   have BK1 := BK
   have HB1 := HB
   have j0 : (0 : Int) ≤ (k : Int) := by omega
   have j1 : (k : Int) < (b.f2.length : Int) := by omega
   clear hlt hk
   go_wp2
   clear hz d4
   go_loopw [4] (fun v wr => ∃ m : Nat, v = .int .i64 m ∧ m ≤ (b.f2[k]'HL.out).f1.length ∧ Aside0 (wr.heap[w.heap.size]? = some (.cells #[.string b.f0, .int .i64 b.f1, .slice A2 b.f2.length c2, .slice A3 b.f3.length c3, .int .u64 b.f4] 40 (0, 0))) ∧ Aside0 (Below w.heap.size w wr)) (fun v _ => (b.f2[k]'HL.out).f1.length - (intOf v).toNat)
   case atStart => exact ⟨0, rfl, Nat.zero_le _, BK1, HB1⟩
   case round =>
    clear HB BK HB1 BK1
    obtain ⟨m, rfl, hm, BK, HB⟩ := hrel
    have hz := fun j => blk_cell BK.out j
    obtain ⟨ad, A1, c1, e0, h0, h1, hl1, hC⟩ := at_T79 (HR2.out _ HB.out) (k : Int) (by omega) (by omega)
    cases e0
    have hx : rd_T79 b.f2 (k : Int) = b.f2[k] := rd_here _ b.f2 k HL.out
    rw [hx] at h0 h1 hl1 hC
    rw [Int.toNat_natCast] at h0 h1
    have hvx := HV.out _ (List.getElem_mem HL.out)
    have h60 := HF.out.xs _ (List.getElem_mem HL.out)
    obtain ⟨x, hxx⟩ : ∃ x, x = b.f2[k] := ⟨_, rfl⟩
    simp only [← hxx] at h0 h1 hl1 hC hm hvx h60 ⊢
    have HXX := Aside0.mk hxx
    clear hx hxx
    by_cases hlt2 : m < x.f1.length
    ·obtain ⟨ad2, e1, y0, -, -, -⟩ := at_T63 hC (m : Int) (by omega) (by omega)
     cases e1
     have hy : rd_T63 x.f1 (m : Int) = x.f1[m] := rd_here _ x.f1 m hlt2
     rw [hy, Int.toNat_natCast] at y0
     have hv := hvx _ (List.getElem_mem hlt2)
     obtain ⟨y, hyy⟩ : ∃ y, y = x.f1[m].f0 := ⟨_, rfl⟩
     rw [← hyy] at y0 hv
     obtain ⟨v1, v2, v3, -⟩ := hv
     have d5 : decide (y > b.f4) = false := by rw [decide_eq_false_iff_not]; omega
     have i0 : (0 : Int) ≤ (m : Int) := by omega
     have i1 : (m : Int) < (x.f1.length : Int) := by omega
     have d6 : decide ((m : Int) < (x.f1.length : Int)) = true := by rw [decide_eq_true_iff]; omega
     have hw3 : IntKind.i64.wrap ((m : Int) + 1) = ((m + 1 : Nat) : Int) := by rw [IntKind.wrap_i64]; omega
     have HM := Aside0.mk hlt2
     clear hvx h60 hy hyy hlt2 hm
     by_cases s0 : b.f1 = 0
     ·have d7 : (b.f1 == 0) = true := by rw [beq_iff_eq]; exact s0
      have d8 : decide (y > 0) = false := by rw [decide_eq_false_iff_not]; have := v3 s0; omega
      clear s0 v1 v2 v3
      go_wp2
      exact ⟨⟨m + 1, by go_num, by (try rw [← HXX.out]); have := HM.out; omega, BK, HB⟩, by (try rw [← HXX.out]); simp [intOf]; have := HM.out; omega⟩
     ·have d7 : (b.f1 == 0) = false := by rw [beq_eq_false_iff_ne]; exact s0
      clear s0 v1 v2 v3
      go_wp2
      exact ⟨⟨m + 1, by go_num, by (try rw [← HXX.out]); have := HM.out; omega, BK, HB⟩, by (try rw [← HXX.out]); simp [intOf]; have := HM.out; omega⟩
    ·have d5 : decide ((m : Int) < (x.f1.length : Int)) = false := by rw [decide_eq_false_iff_not]; omega
     have d5' : decide (m < x.f1.length) = false := decide_eq_false hlt2
     clear hvx h60 hm hlt2
     go_wp2
     exact ⟨⟨k + 1, by go_num, by have := HL.out; omega, BK, HB⟩, by simp [intOf]; have := HL.out; omega⟩
  ·have hk2 : k = b.f2.length := by omega
   subst hk2
   clear hlt hk
   go_wp2
   clear hz
   go_loopw [6] (fun v wr => ∃ k : Nat, v = .int .i64 k ∧ k ≤ b.f3.length ∧ Aside0 (wr.heap[w.heap.size]? = some (.cells #[.string b.f0, .int .i64 b.f1, .slice A2 b.f2.length c2, .slice A3 b.f3.length c3, .int .u64 b.f4] 40 (0, 0))) ∧ Aside0 (Below w.heap.size w wr)) (fun v _ => b.f3.length - (intOf v).toNat)
   case atStart => exact ⟨0, rfl, Nat.zero_le _, BK, HB⟩
   case round =>
    clear HB BK
    obtain ⟨k, rfl, hk, BK, HB⟩ := hrel
    have hz := fun j => blk_cell BK.out j
    by_cases hlt : k < b.f3.length
    ·obtain ⟨ad, A1, c1, e0, h0, -⟩ := at_T131 (HR3.out _ HB.out) (k : Int) (by omega) (by omega)
     cases e0
     have hx : rd_T131 b.f3 (k : Int) = b.f3[k] := rd_here _ b.f3 k hlt
     rw [hx, Int.toNat_natCast] at h0
     have hv := HU.out _ (List.getElem_mem hlt)
     obtain ⟨y, hyy⟩ : ∃ y, y = b.f3[k].f0 := ⟨_, rfl⟩
     rw [← hyy] at h0 hv
     have d5 : decide (y > b.f4) = false := by rw [decide_eq_false_iff_not]; omega
     have HL := Aside0.mk hlt
     have i0 : (0 : Int) ≤ (k : Int) := by omega
     have i1 : (k : Int) < (b.f3.length : Int) := by omega
     have d6 : decide ((k : Int) < (b.f3.length : Int)) = true := by rw [decide_eq_true_iff]; omega
     have hw3 : IntKind.i64.wrap ((k : Int) + 1) = ((k + 1 : Nat) : Int) := by rw [IntKind.wrap_i64]; have := HF.out.u; omega
     clear hx hv hyy hlt hk
     go_wp2_with fail
     go_region
     go_wp2
     exact ⟨⟨k + 1, by go_num, by have := HL.out; omega, (by first | exact BK | exact ⟨blk_below BK.out (below_drew (Below.refl _ _))⟩), (by first | exact HB | exact ⟨below_drew HB.out⟩)⟩, by simp [intOf]; have := HL.out; omega⟩
    ·have hk2 : k = b.f3.length := by omega
     subst hk2
     go_wp2
     go_ret
     exact ⟨rfl, HB.out⟩
end Go.Proofs.YtpccbmechgkogaaGreatDoor.RefE
