/-
  Lemmas: Cnt, Wk.
-/
import Derived.LoopTactic
import Derived.Test.YtpccbmechgkogaaGreatDoorProg
import Derived.Outline
import Derived.Test.YtpccbmechgkogaaGreatDoorV0
import Derived.Test.YtpccbmechgkogaaGreatDoorZ00
import Derived.Test.YtpccbmechgkogaaGreatDoorZ01
import Derived.Test.YtpccbmechgkogaaGreatDoorZ02
import Derived.Test.YtpccbmechgkogaaGreatDoorZ03
set_option linter.unusedVariables false
set_option linter.unusedSimpArgs false
namespace Go.Proofs.YtpccbmechgkogaaGreatDoor.Cnt
open Go.RowKit Go.Proofs.YtpccbmechgkogaaGreatDoor.P Go.Proofs.YtpccbmechgkogaaGreatDoorW.PrintWords Go.Proofs.YtpccbmechgkogaaGreatDoor.PureKit Go.Proofs.YtpccbmechgkogaaGreatDoor.BkSpec
theorem sum_is {α : Type} (f : α → Int) (c : Int) : ∀ l : List α, (∀ x ∈ l, 0 ≤ f x ∧ f x ≤ c) → 0 ≤ (l.map f).sum ∧ (l.map f).sum ≤ c * l.length
 | [], _ => by simp
 | x :: r, h => by
  have h1 := sum_is f c r (fun y hy => h y (by simp [hy]))
  have h2 := h x (by simp)
  simp only [List.map_cons, List.sum_cons, List.length_cons, Int.natCast_add, Int.mul_add]
  omega
theorem sum_drop {α : Type} (f : α → Int) (l : List α) (k : Nat) (h : k < l.length) : ((l.drop k).map f).sum = f l[k] + ((l.drop (k + 1)).map f).sum := by
 rw [List.drop_eq_getElem_cons h, List.map_cons, List.sum_cons]
theorem sum_nn {α : Type} (f : α → Int) (hf : ∀ x, 0 ≤ f x) : ∀ l : List α, 0 ≤ (l.map f).sum
 | [] => by simp
 | x :: r => by
  have h1 := sum_nn f hf r
  have h2 := hf x
  simp only [List.map_cons, List.sum_cons]
  omega
theorem octV_nn (l : List V) : 0 ≤ octV l := sum_nn _ (fun v => by omega) l
theorem octP_nn (l : List P) : 0 ≤ octP l := sum_nn _ (fun v => by omega) l
def many (l : List E) : Int := (l.map fun x => (x.f1.length : Int)).sum
theorem octI_le {l : List E} (h : IdxSpec.indexB l = true) : octI l ≤ 2400000 ∧ many l ≤ 1200 := by
 obtain ⟨h1, h2, _⟩ := (IdxLaws.index_iff l).1 h
 have h3 : ∀ x ∈ l, x.f1.length ≤ 20 ∧ octV x.f1 ≤ 40000 := fun x hx => by
  have h3 := h2 x hx
  simp only [IdxLaws.okE, ChSpec.chainB, Bool.and_eq_true, decide_eq_true_eq, List.all_eq_true] at h3
  refine ⟨h3.2.1.1, ?_⟩
  have h4 := (sum_is (fun v : V => (v.f1.size : Int)) 2000 x.f1 (fun v hv => by
   have h4 := h3.2.1.2 v hv
   simp only [ChSpec.mayB, Bool.and_eq_true, decide_eq_true_eq] at h4
   omega)).2
  unfold octV
  omega
 have h4 := (sum_is (fun x : E => octV x.f1) 40000 l (fun x hx => ⟨octV_nn _, (h3 x hx).2⟩)).2
 have h5 := (sum_is (fun x : E => (x.f1.length : Int)) 20 l (fun x hx => ⟨by omega, by have := (h3 x hx).1; omega⟩)).2
 unfold octI many
 omega
theorem octU_le {l : List U} (h : partsB l = true) : octU l ≤ 600000 := by
 unfold partsB at h
 simp only [Bool.and_eq_true, decide_eq_true_eq, List.all_eq_true] at h
 have h4 := (sum_is (fun x : U => octP x.f2) 60000 l (fun x hx => by
  have h2 := h.1.2 x hx
  unfold upB at h2
  simp only [Bool.and_eq_true, decide_eq_true_eq, List.all_eq_true] at h2
  have h4 := (sum_is (fun v : P => (v.f1.size : Int)) 2000 x.f2 (fun v hv => by
   have h3 := h2.1.2 v hv
   unfold partB at h3
   simp only [Bool.and_eq_true, decide_eq_true_eq] at h3
   omega)).2
  have := h2.1.1.2
  have := octP_nn x.f2
  unfold octP at *
  omega)).2
 unfold octU
 omega
set_option maxRecDepth 100000 in
set_option maxHeartbeats 3200000 in
theorem octets_any (A : Option Addr) (c : Nat) (l : List U) (w : World) (hr : Kd.C k131 w A l.length l) (ho : octU l ≤ 10000000) :
  Calls Tryz.prog 162 #[.slice A l.length c] w fun e w' => e = .returned (.int .i64 (octU l)) ∧ Below w.heap.size w w' := by
 have hl : l.length ≤ 9223372036854775807 := hr.2.1
 have HR := Aside0.mk (fun W (hW : Below w.heap.size w W) => Kd.C_below hr hW)
 have HO := Aside0.mk ho
 have HB := Aside0.mk (Below.refl w.heap.size w)
 have hu := Tryz.underlying131
 have hu2 := Tryz.underlying119
 clear hr ho
 go_enter Tryz.func162, Tryz.ntmps162
 go_wp2
 go_loopw [3, 10] (fun n i wr => ∃ (k : Nat) (q : Int), k ≤ l.length ∧ i = .int .i64 k ∧ n = .int .i64 q ∧ Aside0 (0 ≤ q ∧ q + octU (l.drop k) = octU l) ∧ Aside0 (Below w.heap.size w wr)) (fun _ i _ => l.length - (intOf i).toNat)
 case atStart => exact ⟨0, 0, by omega, rfl, rfl, ⟨by omega, by simp⟩, HB⟩
 case round =>
  clear HB
  obtain ⟨k, q, hk, rfl, rfl, HQ, HB⟩ := hrel
  by_cases hlt : k < l.length
  ·obtain ⟨ad, A1, c1, e0, h0, h1, h2, hl1, hC⟩ := at_T131 (HR.out _ HB.out) (k : Int) (by omega) (by omega)
   subst e0
   have hx : rd_T131 l (k : Int) = l[k] := rd_here _ l k hlt
   rw [hx] at h0 h1 h2 hl1 hC
   rw [Int.toNat_natCast] at h0 h1 h2
   have hs := sum_drop (fun x : U => octP x.f2) l k hlt
   generalize l[k] = x at h0 h1 h2 hl1 hC hs
   have hq := HQ.out
   have HQ := Aside0.mk (show 0 ≤ q ∧ q + octP x.f2 + octU (l.drop (k + 1)) = octU l by unfold octU at *; omega)
   have HC := Aside0.mk (fun W (hW : Below wr.heap.size wr W) => Kd.C_below hC hW)
   have HL := Aside0.mk hlt
   have j0 : (0 : Int) ≤ (k : Int) := by omega
   have j1 : (k : Int) < (l.length : Int) := by omega
   have hw2 : IntKind.i64.wrap ((k : Int) + 1) = ((k + 1 : Nat) : Int) := by rw [IntKind.wrap_i64]; omega
   have hl2 : x.f2.length ≤ 9223372036854775807 := hC.2.1
   clear hx hs hq hC hlt hk
   go_wp2
   go_loopw [3, 17] (fun n j w2 => ∃ (m : Nat) (z : Int), m ≤ x.f2.length ∧ j = .int .i64 m ∧ n = .int .i64 z ∧ Aside0 (0 ≤ z ∧ z + octP (x.f2.drop m) + octU (l.drop (k + 1)) = octU l) ∧ Aside0 (Below wr.heap.size wr w2)) (fun _ j _ => x.f2.length - (intOf j).toNat)
   case atStart => exact ⟨0, q, by omega, rfl, rfl, HQ, ⟨below_alloc (Below.refl _ _) _⟩⟩
   case round =>
    rename World => w2
    obtain ⟨m, z, hm, rfl, rfl, HZ, HB2⟩ := hrel
    by_cases hlt2 : m < x.f2.length
    ·obtain ⟨ad2, e1, y0, y1⟩ := at_T119 (HC.out _ HB2.out) (m : Int) (by omega) (by omega)
     subst e1
     have hy : rd_T119 x.f2 (m : Int) = x.f2[m] := rd_here _ x.f2 m hlt2
     rw [hy] at y0 y1
     rw [Int.toNat_natCast] at y0 y1
     have hs := sum_drop (fun v : P => (v.f1.size : Int)) x.f2 m hlt2
     generalize x.f2[m] = v at y0 y1 hs
     have hz := HZ.out
     have h0 := octP_nn (x.f2.drop (m + 1))
     have h1 : 0 ≤ octU (l.drop (k + 1)) := sum_nn (fun x : U => octP x.f2) (fun x => octP_nn _) _
     have ht := HO.out
     have HZ := Aside0.mk (show 0 ≤ z + (v.f1.size : Int) ∧ z + (v.f1.size : Int) + octP (x.f2.drop (m + 1)) + octU (l.drop (k + 1)) = octU l by unfold octP octU at *; omega)
     have hw3 : IntKind.i64.wrap (z + (v.f1.size : Int)) = z + (v.f1.size : Int) := by rw [IntKind.wrap_i64]; have := HZ.out; omega
     have i0 : (0 : Int) ≤ (m : Int) := by omega
     have i1 : (m : Int) < (x.f2.length : Int) := by omega
     clear hy hs hz h0 h1 ht
     go_wp2
     exact ⟨⟨m + 1, _, by omega, by go_num, rfl, HZ, ⟨below_alloc HB2.out _⟩⟩, by simp [intOf]; omega⟩
    ·have hm2 : m = x.f2.length := by omega
     have HZ' : Aside0 (0 ≤ z ∧ z + octU (l.drop (k + 1)) = octU l) := ⟨by have := HZ.out; rw [hm2, List.drop_length] at this; simpa [octP] using this⟩
     have d2 : decide (m < x.f2.length) = false := decide_eq_false hlt2
     clear hm2 hlt2
     go_wp2
     exact ⟨⟨k + 1, z, by have := HL.out; omega, by go_num, rfl, HZ', ⟨below_step HB.out HB2.out⟩⟩, by simp [intOf]; have := HL.out; omega⟩
  ·have hk2 : k = l.length := by omega
   have hq : q = octU l := by have := HQ.out.2; rw [hk2, List.drop_length] at this; simpa [octU] using this
   subst hk2 hq
   go_wp2
   go_ret
   exact ⟨rfl, HB.out⟩
set_option maxRecDepth 100000 in
set_option maxHeartbeats 3200000 in
theorem count_any (A : Option Addr) (c : Nat) (l : List E) (w : World) (hr : Kd.C k79 w A l.length l) (ho : octI l ≤ 10000000) (ho2 : many l ≤ 10000000) :
  Calls Tryz.prog 10 #[.slice A l.length c] w fun e w' => e = .returned (.tuple #[.int .i64 (many l), .int .i64 (octI l)]) ∧ Below w.heap.size w w' := by
 have hl : l.length ≤ 9223372036854775807 := hr.2.1
 have HR := Aside0.mk (fun W (hW : Below w.heap.size w W) => Kd.C_below hr hW)
 have HO := Aside0.mk ho
 have HO2 := Aside0.mk ho2
 have HB := Aside0.mk (Below.refl w.heap.size w)
 have hu := Tryz.underlying79
 have hu2 := Tryz.underlying63
 clear hr ho ho2
 go_enter Tryz.func10, Tryz.ntmps10
 go_wp2
 go_loopw [4, 5, 12] (fun a n i wr => ∃ (k : Nat) (q : Int), k ≤ l.length ∧ i = .int .i64 k ∧ n = .int .i64 q ∧ (∃ p : Int, a = .int .i64 p ∧ Aside0 (0 ≤ p ∧ p + many (l.drop k) = many l)) ∧ Aside0 (0 ≤ q ∧ q + octI (l.drop k) = octI l) ∧ Aside0 (Below w.heap.size w wr)) (fun _ _ i _ => l.length - (intOf i).toNat)
 case atStart => exact ⟨0, 0, by omega, rfl, rfl, ⟨0, rfl, ⟨by omega, by simp⟩⟩, ⟨by omega, by simp⟩, HB⟩
 case round =>
  clear HB
  obtain ⟨k, q, hk, rfl, rfl, ⟨p, rfl, HP⟩, HQ, HB⟩ := hrel
  by_cases hlt : k < l.length
  ·obtain ⟨ad, A1, c1, e0, h0, h1, hl1, hC⟩ := at_T79 (HR.out _ HB.out) (k : Int) (by omega) (by omega)
   subst e0
   have hx : rd_T79 l (k : Int) = l[k] := rd_here _ l k hlt
   rw [hx] at h0 h1 hl1 hC
   rw [Int.toNat_natCast] at h0 h1
   have hs := sum_drop (fun x : E => octV x.f1) l k hlt
   have hs2 := sum_drop (fun x : E => (x.f1.length : Int)) l k hlt
   generalize l[k] = x at h0 h1 hl1 hC hs hs2
   have hq := HQ.out
   have HQ := Aside0.mk (show 0 ≤ q ∧ q + octV x.f1 + octI (l.drop (k + 1)) = octI l by unfold octI at *; omega)
   have HC := Aside0.mk (fun W (hW : Below wr.heap.size wr W) => Kd.C_below hC hW)
   have HL := Aside0.mk hlt
   have j0 : (0 : Int) ≤ (k : Int) := by omega
   have j1 : (k : Int) < (l.length : Int) := by omega
   have hw2 : IntKind.i64.wrap ((k : Int) + 1) = ((k + 1 : Nat) : Int) := by rw [IntKind.wrap_i64]; omega
   have hl2 : x.f1.length ≤ 9223372036854775807 := hC.2.1
   have h1n := sum_nn (fun x : E => (x.f1.length : Int)) (fun x => by omega) (l.drop (k + 1))
   have hp := HP.out
   have ht2 := HO2.out
   have HP := Aside0.mk (show 0 ≤ p + (x.f1.length : Int) ∧ p + (x.f1.length : Int) + many (l.drop (k + 1)) = many l by unfold many at *; omega)
   have hw3 : IntKind.i64.wrap (p + (x.f1.length : Int)) = p + (x.f1.length : Int) := by rw [IntKind.wrap_i64]; unfold many at *; omega
   clear h1n hp ht2 hs2
   clear hx hs hq hC hlt hk
   go_wp2
   go_loopw [5, 24] (fun n j w2 => ∃ (m : Nat) (z : Int), m ≤ x.f1.length ∧ j = .int .i64 m ∧ n = .int .i64 z ∧ Aside0 (0 ≤ z ∧ z + octV (x.f1.drop m) + octI (l.drop (k + 1)) = octI l) ∧ Aside0 (Below wr.heap.size wr w2)) (fun _ j _ => x.f1.length - (intOf j).toNat)
   case atStart => exact ⟨0, q, by omega, rfl, rfl, HQ, ⟨below_alloc (Below.refl _ _) _⟩⟩
   case round =>
    rename World => w2
    obtain ⟨m, z, hm, rfl, rfl, HZ, HB2⟩ := hrel
    by_cases hlt2 : m < x.f1.length
    ·obtain ⟨ad2, e1, y0, y1, y2, y3⟩ := at_T63 (HC.out _ HB2.out) (m : Int) (by omega) (by omega)
     subst e1
     have hy : rd_T63 x.f1 (m : Int) = x.f1[m] := rd_here _ x.f1 m hlt2
     rw [hy] at y0 y1 y2 y3
     rw [Int.toNat_natCast] at y0 y1 y2 y3
     have hs := sum_drop (fun v : V => (v.f1.size : Int)) x.f1 m hlt2
     generalize x.f1[m] = v at y0 y1 y2 y3 hs
     have hz := HZ.out
     have h0 := octV_nn (x.f1.drop (m + 1))
     have h1 : 0 ≤ octI (l.drop (k + 1)) := sum_nn (fun x : E => octV x.f1) (fun x => octV_nn _) _
     have ht := HO.out
     have HZ := Aside0.mk (show 0 ≤ z + (v.f1.size : Int) ∧ z + (v.f1.size : Int) + octV (x.f1.drop (m + 1)) + octI (l.drop (k + 1)) = octI l by unfold octV octI at *; omega)
     have hw3 : IntKind.i64.wrap (z + (v.f1.size : Int)) = z + (v.f1.size : Int) := by rw [IntKind.wrap_i64]; have := HZ.out; omega
     have i0 : (0 : Int) ≤ (m : Int) := by omega
     have i1 : (m : Int) < (x.f1.length : Int) := by omega
     clear hy hs hz h0 h1 ht
     go_wp2
     exact ⟨⟨m + 1, _, by omega, by go_num, rfl, HZ, ⟨below_alloc HB2.out _⟩⟩, by simp [intOf]; omega⟩
    ·have hm2 : m = x.f1.length := by omega
     have HZ' : Aside0 (0 ≤ z ∧ z + octI (l.drop (k + 1)) = octI l) := ⟨by have := HZ.out; rw [hm2, List.drop_length] at this; simpa [octV] using this⟩
     have d2 : decide (m < x.f1.length) = false := decide_eq_false hlt2
     clear hm2 hlt2
     go_wp2
     exact ⟨⟨k + 1, z, by have := HL.out; omega, by go_num, rfl, ⟨_, rfl, HP⟩, HZ', ⟨below_step HB.out HB2.out⟩⟩, by simp [intOf]; have := HL.out; omega⟩
  ·have hk2 : k = l.length := by omega
   have hq : q = octI l := by have := HQ.out.2; rw [hk2, List.drop_length] at this; simpa [octI] using this
   have hp : p = many l := by have := HP.out.2; rw [hk2, List.drop_length] at this; simpa [many] using this
   subst hp
   subst hk2 hq
   go_wp2
   go_ret2
   exact ⟨rfl, HB.out⟩
set_option maxRecDepth 100000 in
theorem bucket_any (b : B) (A2 : Option Addr) (c2 : Nat) (A3 : Option Addr) (c3 : Nat) (w : World) (h2 : IdxSpec.indexB b.f2 = true) (h3 : partsB b.f3 = true) (hr2 : Kd.C k79 w A2 b.f2.length b.f2) (hr3 : Kd.C k131 w A3 b.f3.length b.f3) :
  Calls Tryz.prog 116 #[.agg #[.string b.f0, .int .i64 b.f1, .slice A2 b.f2.length c2, .slice A3 b.f3.length c3, .int .u64 b.f4]] w fun e w' => e = .returned (.int .i64 (octI b.f2 + octU b.f3)) ∧ Below w.heap.size w w' := by
 have l2 := octI_le h2
 have l3 := octU_le h3
 have n2 := sum_nn (fun x : E => octV x.f1) (fun x => octV_nn _) b.f2
 have n3 := sum_nn (fun x : U => octP x.f2) (fun x => octP_nn _) b.f3
 have hw : IntKind.i64.wrap (octI b.f2 + octU b.f3) = octI b.f2 + octU b.f3 := by rw [IntKind.wrap_i64]; unfold octI octU at *; omega
 have C2 := Aside0.mk (fun W (hW : Below w.heap.size w W) => count_any A2 c2 b.f2 W (Kd.C_below hr2 hW) (by omega) (by omega))
 have C3 := Aside0.mk (fun W (hW : Below w.heap.size w W) => octets_any A3 c3 b.f3 W (Kd.C_below hr3 hW) (by omega))
 have BK := Aside0.mk (blk_new w (.cells #[.string b.f0, .int .i64 b.f1, .slice A2 b.f2.length c2, .slice A3 b.f3.length c3, .int .u64 b.f4] 40))
 have HB0 := Aside0.mk (below_alloc (Below.refl w.heap.size w) (.cells #[.string b.f0, .int .i64 b.f1, .slice A2 b.f2.length c2, .slice A3 b.f3.length c3, .int .u64 b.f4] 40))
 have hu := Tryz.underlying40
 clear l2 l3 n2 n3 hr2 hr3 h2 h3
 go_enter Tryz.func116, Tryz.ntmps116
 go_wp2_with fail
 refine (C2.out _ HB0.out).mono ?_
 rintro e w1 ⟨rfl, hb⟩
 have hz3 := (blk_cell (blk_below BK.out hb) 3).trans rfl
 have HB1 := Aside0.mk (below_step HB0.out hb)
 clear hb C2 BK HB0
 go_wp2_with fail
 refine (C3.out _ HB1.out).mono ?_
 rintro e w2 ⟨rfl, hb⟩
 have HB2 := Aside0.mk (below_step HB1.out hb)
 clear hb C3 hz3
 go_wp2
 go_ret
 exact ⟨rfl, HB2.out⟩
end Go.Proofs.YtpccbmechgkogaaGreatDoor.Cnt
namespace Go.Proofs.YtpccbmechgkogaaGreatDoor.Wk
open Go.RowKit Go.Proofs.YtpccbmechgkogaaGreatDoor.P Go.Proofs.YtpccbmechgkogaaGreatDoorW.PrintWords Go.Proofs.YtpccbmechgkogaaGreatDoor.PureKit Go.Proofs.YtpccbmechgkogaaGreatDoor.BkSpec
abbrev kE := k79
abbrev kU := k131
abbrev Rd {α : Type} (d : Kd α) (w : World) (ok : Nat → Prop) (v : Value) (xs : List α) : Prop := Kd.V d 0 w 0 ok v xs
structure Sl (w : World) (ok : Nat → Prop) (b : B) (v2 v3 : Value) : Prop where
 r2 : Rd kE w ok v2 b.f2
 r3 : Rd kU w ok v3 b.f3
theorem Sl.mono {w : World} {ok ok' : Nat → Prop} {b : B} {v2 v3 : Value} (h : Sl w ok b v2 v3) (hk : ∀ k, ok k → ok' k) : Sl w ok' b v2 v3 := ⟨Kd.V_mono h.r2 hk, Kd.V_mono h.r3 hk⟩
theorem Sl.below {w w1 : World} {ok : Nat → Prop} {b : B} {v2 v3 : Value} (h : Sl w ok b v2 v3) (hb : Below w.heap.size w w1) : Sl w1 ok b v2 v3 := ⟨Kd.V_below h.r2 hb, Kd.V_below h.r3 hb⟩
theorem Sl.bound {w : World} {ok : Nat → Prop} {b : B} {v2 v3 : Value} (h : Sl w ok b v2 v3) : Sl w (fun k => ok k ∧ k < w.heap.size) b v2 v3 := ⟨Kd.V_bound h.r2, Kd.V_bound h.r3⟩
theorem Sl.grown {w w1 : World} {ok : Nat → Prop} {b : B} {v2 v3 : Value} {g : Nat} (h : Sl w ok b v2 v3) (hg : w.grownBy w1 (some g)) (hk : ∀ k, ok k → k ≠ g) : Sl w1 ok b v2 v3 :=
 ⟨Kd.V_grown h.r2 hg (fun k ho e => hk k ho (Option.some.inj e)), Kd.V_grown h.r3 hg (fun k ho e => hk k ho (Option.some.inj e))⟩
theorem Sl.of {w : World} {ok : Nat → Prop} {b b' : B} {v2 v3 : Value} (h : Sl w ok b v2 v3) (h2 : b'.f2 = b.f2) (h3 : b'.f3 = b.f3) : Sl w ok b' v2 v3 := ⟨by rw [h2]; exact h.r2, by rw [h3]; exact h.r3⟩
theorem grown_set (w : World) (g j : Nat) (v : Value) : w.grownBy (w.setCell ⟨g, j, none⟩ v) (some g) :=
 ⟨rfl, rfl, rfl, by simp [World.setCell], fun i _ hne => Below.heap_setCell w ⟨g, j, none⟩ v i (fun e => hne (by rw [e]))⟩
structure At (w : World) (g : Nat) (ok : Nat → Prop) (b : B) (v2 v3 : Value) (e : Int) : Prop where
 blk : w.heap[g]? = some (.cells #[.string b.f0, .int .i64 b.f1, v2, v3, .int .u64 b.f4, .int .i64 e] 181 (0, 0))
 sl : Sl w ok b v2 v3
 ne : ∀ k, ok k → k ≠ g
theorem At.below {w w1 : World} {g : Nat} {ok : Nat → Prop} {b : B} {v2 v3 : Value} {e : Int} (h : At w g ok b v2 v3 e) (hb : Below w.heap.size w w1) : At w1 g ok b v2 v3 e := ⟨blk_below h.blk hb, h.sl.below hb, h.ne⟩
theorem At.lt {w : World} {g : Nat} {ok : Nat → Prop} {b : B} {v2 v3 : Value} {e : Int} (h : At w g ok b v2 v3 e) : g < w.heap.size := blk_lt h.blk
theorem blk_push (w : World) (o o' : Obj) : ((w.alloc o).alloc o').heap[w.heap.size + 1]? = some o' := by
 have := blk_new (w.alloc o) o'
 rwa [show (w.alloc o).heap.size = w.heap.size + 1 from Array.size_push _] at this
theorem blk3a (w : World) (o1 o2 o3 : Obj) : (((w.alloc o1).alloc o2).alloc o3).heap[w.heap.size]? = some o1 := blk_alloc (blk_alloc (blk_new w o1) o2) o3
theorem blk3b (w : World) (o1 o2 o3 : Obj) : (((w.alloc o1).alloc o2).alloc o3).heap[w.heap.size + 1]? = some o2 := blk_alloc (blk_push w o1 o2) o3
theorem blk3c (w : World) (o1 o2 o3 : Obj) : (((w.alloc o1).alloc o2).alloc o3).heap[w.heap.size + 1 + 1]? = some o3 := by
 have := blk_push (w.alloc o1) o2 o3
 rwa [show (w.alloc o1).heap.size = w.heap.size + 1 from Array.size_push _] at this
abbrev set5 (w : World) (g : Nat) (x0 x1 x2 x3 x4 : Value) : World := ((((w.setCell ⟨g, 0, none⟩ x0).setCell ⟨g, 1, none⟩ x1).setCell ⟨g, 2, none⟩ x2).setCell ⟨g, 3, none⟩ x3).setCell ⟨g, 4, none⟩ x4
theorem set5_blk {w : World} {g t : Nat} {c0 c1 c2 c3 c4 : Value} (h : w.heap[g]? = some (.cells #[c0, c1, c2, c3, c4] t (0, 0))) (x0 x1 x2 x3 x4 : Value) : (set5 w g x0 x1 x2 x3 x4).heap[g]? = some (.cells #[x0, x1, x2, x3, x4] t (0, 0)) :=
 blk_set (blk_set (blk_set (blk_set (blk_set h 0 _) 1 _) 2 _) 3 _) 4 _
theorem set5_grown (w : World) (g : Nat) (x0 x1 x2 x3 x4 : Value) : w.grownBy (set5 w g x0 x1 x2 x3 x4) (some g) := ((((grown_set w g 0 _).trans (grown_set _ g 1 _)).trans (grown_set _ g 2 _)).trans (grown_set _ g 3 _)).trans (grown_set _ g 4 _)
theorem grown_then {w w1 w2 : World} {g j : Nat} (h : w.grownBy w1 (some g)) (k : w1.grownBy w2 (some j)) (hj : w.heap.size ≤ j ∨ j = g) : w.grownBy w2 (some g) :=
 ⟨k.os.trans h.os, k.tape.trans h.tape, k.output.trans h.output, Nat.le_trans h.size k.size, fun i hi hne => (k.block i (Nat.lt_of_lt_of_le hi h.size) (fun e => by
  have := Option.some.inj e
  rcases hj with hj | hj
  ·omega
  ·exact hne (by rw [this, hj]))).trans (h.block i hi hne)⟩
theorem below_of_grown {w w1 : World} {g : Nat} (h : w.grownBy w1 (some g)) (hg : w.heap.size ≤ g) : Below w.heap.size w w1 := ⟨h.os, h.tape, h.output, h.size, fun k hk => h.block k hk (fun e => by have := Option.some.inj e; omega)⟩
theorem grown_blk {w w1 : World} {g i : Nat} {o : Obj} (hg : w.grownBy w1 (some g)) (h : w.heap[i]? = some o) (hne : i ≠ g) : w1.heap[i]? = some o := (hg.block i (blk_lt h) (fun e => hne (Option.some.inj e))).trans h
theorem grown_drew {w w1 : World} {r : Option Nat} (h : w.grownBy w1 r) : w.grownBy w1.drew r := ⟨h.os, h.tape, h.output, h.size, h.block⟩
theorem blk4d (w : World) (o1 o2 o3 o4 : Obj) : ((((w.alloc o1).alloc o2).alloc o3).alloc o4).heap[w.heap.size + 1 + 1 + 1]? = some o4 := by
 have := blk3c (w.alloc o1) o2 o3 o4
 rwa [show (w.alloc o1).heap.size = w.heap.size + 1 from Array.size_push _] at this
theorem Sl.set {w : World} {ok : Nat → Prop} {b : B} {v2 v3 : Value} {g : Nat} (h : Sl w ok b v2 v3) (hk : ∀ k, ok k → k ≠ g) (j : Nat) (v : Value) : Sl (w.setCell ⟨g, j, none⟩ v) ok b v2 v3 := h.grown (grown_set w g j v) hk
theorem At.setE {w : World} {g : Nat} {ok : Nat → Prop} {b : B} {v2 v3 : Value} {e : Int} (h : At w g ok b v2 v3 e) (e' : Int) : At (w.setCell ⟨g, 5, none⟩ (.int .i64 e')) g ok b v2 v3 e' := ⟨blk_set h.blk 5 _, h.sl.set h.ne 5 _, h.ne⟩
theorem At.setN {w : World} {g : Nat} {ok : Nat → Prop} {b : B} {v2 v3 : Value} {e : Int} (h : At w g ok b v2 v3 e) (n : Int) : At (w.setCell ⟨g, 4, none⟩ (.int .u64 n)) g ok ⟨b.f0, b.f1, b.f2, b.f3, n⟩ v2 v3 e := ⟨blk_set h.blk 4 _, (h.sl.set h.ne 4 _).of rfl rfl, h.ne⟩
theorem At.set2 {w : World} {g : Nat} {ok : Nat → Prop} {b : B} {v2 v3 : Value} {e : Int} (h : At w g ok b v2 v3 e) {v : Value} {l : List E} (hv : Rd kE w ok v l) : At (w.setCell ⟨g, 2, none⟩ v) g ok ⟨b.f0, b.f1, l, b.f3, b.f4⟩ v v3 e :=
 ⟨blk_set h.blk 2 _, ⟨Kd.V_grown hv (grown_set w g 2 v) (fun k ho q => h.ne k ho (Option.some.inj q)), (h.sl.set h.ne 2 v).r3⟩, h.ne⟩
theorem At.set3 {w : World} {g : Nat} {ok : Nat → Prop} {b : B} {v2 v3 : Value} {e : Int} (h : At w g ok b v2 v3 e) {v : Value} {l : List U} (hv : Rd kU w ok v l) : At (w.setCell ⟨g, 3, none⟩ v) g ok ⟨b.f0, b.f1, b.f2, l, b.f4⟩ v2 v e :=
 ⟨blk_set h.blk 3 _, ⟨(h.sl.set h.ne 3 v).r2, Kd.V_grown hv (grown_set w g 3 v) (fun k ho q => h.ne k ho (Option.some.inj q))⟩, h.ne⟩
theorem At.mono {w : World} {g : Nat} {ok ok' : Nat → Prop} {b : B} {v2 v3 : Value} {e : Int} (h : At w g ok b v2 v3 e) (hk : ∀ k, ok k → ok' k) (hn : ∀ k, ok' k → k ≠ g) : At w g ok' b v2 v3 e := ⟨h.blk, h.sl.mono hk, hn⟩
def nextE (b : B) (e : Int) : Int := if b.f4 ≥ 281474976710655 ∧ e = 0 then 6 else e
def Next (w : World) (g : Nat) (ok : Nat → Prop) (b : B) (v2 v3 : Value) (e : Int) (en : Ending) (w' : World) : Prop :=
 en = .returned (.int .u64 (b.f4 + 1)) ∧ At w' g ok ⟨b.f0, b.f1, b.f2, b.f3, b.f4 + 1⟩ v2 v3 (nextE b e) ∧ w.grownBy w' (some g)
set_option maxRecDepth 100000 in
set_option maxHeartbeats 1600000 in
theorem next_any (w : World) (g : Nat) (ok : Nat → Prop) (b : B) (v2 v3 : Value) (e : Int) (h : At w g ok b v2 v3 e) (h0 : 0 ≤ b.f4) (h1 : b.f4 ≤ 281474976710655) :
  Calls Tryz.prog 107 #[.pointer (some ⟨g, 0, none⟩)] w (Next w g ok b v2 v3 e) := by
 have H := Aside0.mk h
 have hz := fun j => blk_cell h.blk j
 have hf := fun j => blk_frozen h.blk j
 have hw : IntKind.u64.wrap (b.f4 + 1) = b.f4 + 1 := by rw [IntKind.wrap_u64]; omega
 clear h
 by_cases c1 : b.f4 ≥ 281474976710655
 ·have d1 : decide (b.f4 ≥ 281474976710655) = true := decide_eq_true c1
  by_cases c2 : e = 0
  ·have d2 : (e == 0) = true := beq_iff_eq.mpr c2
   have HE : Aside0 (nextE b e = 6) := ⟨by unfold nextE; rw [if_pos ⟨c1, c2⟩]⟩
   clear c2 c1
   go_enter Tryz.func107, Tryz.ntmps107
   go_wp2
   (first | go_end0 | ((try simp only [Exit.inBlock, Exit.then]); refine bodyPost_ret (results_none rfl _ _ _) rfl ?_))
   go_wp2
   go_ret
   exact ⟨rfl, by rw [HE.out]; exact (H.out.setE 6).setN _, (grown_set w g 5 _).trans (grown_set _ g 4 _)⟩
  ·have d2 : (e == 0) = false := beq_eq_false_iff_ne.mpr c2
   have HE : Aside0 (nextE b e = e) := ⟨by unfold nextE; rw [if_neg (fun h => c2 h.2)]⟩
   clear c2 c1
   go_enter Tryz.func107, Tryz.ntmps107
   go_wp2
   (first | go_end0 | ((try simp only [Exit.inBlock, Exit.then]); refine bodyPost_ret (results_none rfl _ _ _) rfl ?_))
   go_wp2
   go_ret
   exact ⟨rfl, by rw [HE.out]; exact H.out.setN _, grown_set w g 4 _⟩
 ·have d1 : decide (b.f4 ≥ 281474976710655) = false := decide_eq_false c1
  have HE : Aside0 (nextE b e = e) := ⟨by unfold nextE; rw [if_neg (fun h => c1 h.1)]⟩
  clear c1
  go_enter Tryz.func107, Tryz.ntmps107
  go_wp2
  (first | go_end0 | ((try simp only [Exit.inBlock, Exit.then]); refine bodyPost_ret (results_none rfl _ _ _) rfl ?_))
  go_wp2
  go_ret
  exact ⟨rfl, by rw [HE.out]; exact H.out.setN _, grown_set w g 4 _⟩
end Go.Proofs.YtpccbmechgkogaaGreatDoor.Wk
