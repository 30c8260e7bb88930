/-
  Lemmas: IxU, BkChk, IdxLaws.
-/
import Derived.LoopTactic
import Derived.Outline
import Derived.Test.YtpccbmechgkogaaGreatDoorProg
import Derived.Test.YtpccbmechgkogaaGreatDoorV0
import Derived.Test.YtpccbmechgkogaaGreatDoorZ00
import Derived.Test.YtpccbmechgkogaaGreatDoorZ01
import Derived.Test.YtpccbmechgkogaaGreatDoorZ02
set_option linter.unusedVariables false
set_option linter.unusedSimpArgs false
namespace Go.Proofs.YtpccbmechgkogaaGreatDoor.IxU
open Go.RowKit Go.Proofs.YtpccbmechgkogaaGreatDoor.P Go.Proofs.YtpccbmechgkogaaGreatDoorW.PrintWords Go.Proofs.YtpccbmechgkogaaGreatDoor.IdxG
abbrev T := S131
def Tells (g : Nat) (lb : Array Value) (p : T → Bool) (w : World) (l : List T) : Prop :=
 ∀ (W : World) (x : T) (A2 : Option Addr) (c2 : Nat), x ∈ l → Below w.heap.size w W → Kd.C k119 W A2 x.f2.length x.f2 → x.f2.length ≤ c2 →
  Calls Tryz.prog g (#[.agg #[.int .u64 x.f0, .string x.f1, .slice A2 x.f2.length c2]] ++ lb) W fun e w' => e = .returned (.bool (p x)) ∧ Below W.heap.size W w'
set_option maxRecDepth 100000 in
set_option maxHeartbeats 1600000 in
theorem index_any (g : Nat) (lb : Array Value) (eg : ∀ args w, (callFunc g args).run Tryz.prog w = .ok (.enter g args) w) (p : T → Bool) (A : Option Addr) (c : Nat) (l : List T) (w : World)
  (hr : Kd.C k131 w A l.length l) (hg : Tells g lb p w l) :
  Calls Tryz.prog 164 #[.slice A l.length c, .func (.func g) #[] lb] w (IdxPost w (idx p l)) := by
 have HR := Aside0.mk hr
 have HG := Aside0.mk hg
 have hm : l.length ≤ 9223372036854775807 := hr.2.1
 clear hr hg
 have hu := Tryz.underlying131
 go_enter Tryz.func164, Tryz.ntmps164
 go_wp2
 go_loopw [8] (fun i wr => ∃ k : Nat, k ≤ l.length ∧ i = .int .i64 k ∧ Aside0 (∀ j (h : j < l.length), j < k → p l[j] = false) ∧ Aside0 (Below w.heap.size w wr)) (fun i _ => l.length - (intOf i).toNat)
 case atStart => exact ⟨0, by omega, rfl, ⟨fun j _ h => absurd h (Nat.not_lt_zero _)⟩, ⟨Below.refl _ _⟩⟩
 case round =>
  obtain ⟨k, hk, rfl, HA, HB⟩ := hrel
  by_cases hlt : k < l.length
  ·obtain ⟨ad, A21, c21, e0, h0, h1, h2, hl2, hC2⟩ := at_T131 (Kd.C_below HR.out HB.out) (k : Int) (by omega) (by omega)
   have hx : rd_T131 l (k : Int) = l[k] := by unfold rd_T131; rw [Int.toNat_natCast, List.getD_eq_getElem?_getD, List.getElem?_eq_getElem hlt]; rfl
   rw [hx] at h0 h1 h2 hl2 hC2
   rw [Int.toNat_natCast] at h0 h1 h2
   cases e0
   have hcall := HG.out wr l[k] A21 c21 (List.getElem_mem hlt) HB.out hC2 hl2
   clear hl2 hC2
   have HX := Aside0.mk hx
   clear hx
   generalize hq : p l[k] = q at hcall
   have HQ := Aside0.mk hq
   clear hq
   cases q with
   | true =>
    go_wp2_with fail
    refine hcall.mono ?_
    rintro e w2 ⟨rfl, hb'⟩
    have HB2 := Aside0.mk hb'
    clear hb'
    go_wp2
    go_ret
    exact ⟨congrArg (fun z => Ending.returned (Value.int .i64 z)) (idx_hit p l k hlt HQ.out HA.out).symm, below_step HB.out HB2.out⟩
   | false =>
    go_wp2_with fail
    refine hcall.mono ?_
    rintro e w2 ⟨rfl, hb'⟩
    have HB2 := Aside0.mk hb'
    clear hb'
    go_wp2
    refine ⟨⟨k + 1, by omega, by go_num, ⟨fun j h hj => ?_⟩, ⟨below_step HB.out HB2.out⟩⟩, by simp [intOf]; omega⟩
    by_cases e : j = k
    ·subst e; exact HQ.out
    ·exact HA.out j h (by omega)
  ·have hk2 : k = l.length := by omega
   subst hk2
   go_wp2
   go_ret
   exact ⟨congrArg (fun z => Ending.returned (Value.int .i64 z)) (idx_miss p l (fun j h => HA.out j h h)).symm, HB.out⟩
set_option maxRecDepth 100000 in
set_option maxHeartbeats 1600000 in
theorem contains_any (g : Nat) (lb : Array Value) (eg : ∀ args w, (callFunc g args).run Tryz.prog w = .ok (.enter g args) w) (p : T → Bool) (A : Option Addr) (c : Nat) (l : List T) (w : World)
  (hr : Kd.C k131 w A l.length l) (hg : Tells g lb p w l) :
  Calls Tryz.prog 119 #[.slice A l.length c, .func (.func g) #[] lb] w fun e w' => e = .returned (.bool (l.any p)) ∧ Below w.heap.size w w' := by
 have C := index_any g lb eg p A c l w hr hg
 rw [← idx_any]
 clear hr hg eg
 go_enter Tryz.func119, Tryz.ntmps119
 go_wp2_with fail
 refine C.mono ?_
 rintro e w1 ⟨rfl, hb⟩
 have HB := Aside0.mk hb
 clear hb C
 go_wp2
 go_ret
 exact ⟨rfl, HB.out⟩
end Go.Proofs.YtpccbmechgkogaaGreatDoor.IxU
namespace Go.Proofs.YtpccbmechgkogaaGreatDoor.BkChk
open Go.RowKit Go.Proofs.YtpccbmechgkogaaGreatDoor.P Go.Proofs.YtpccbmechgkogaaGreatDoorW.PrintWords Go.Proofs.YtpccbmechgkogaaGreatDoorW.PrintLast Go.Proofs.YtpccbmechgkogaaGreatDoorW.PrintMore Go.Proofs.YtpccbmechgkogaaGreatDoor.PureKit Go.Proofs.YtpccbmechgkogaaGreatDoor.BkSpec
structure Facts (bk : B) : Prop where
 n : NameW.bucketB bk.f0 = true
 s0 : decide (bk.f1 ≥ 0) = true
 s2 : decide (bk.f1 ≤ 2) = true
 l : decide (bk.f4 ≤ 281474976710655) = true
 fa : ∀ x ∈ bk.f2, x.f1.any (far bk) = false
 fu : bk.f3.any (farU bk) = false
theorem facts {bk : B} (h : bucketB bk = true) : Facts bk := by
 unfold bucketB at h
 simp only [Bool.and_eq_true, decide_eq_true_eq, List.all_eq_true, Bool.not_eq_true'] at h
 obtain ⟨⟨⟨⟨⟨⟨⟨⟨h1, h2⟩, h3⟩, h4⟩, h5⟩, h6⟩, h7⟩, h8⟩, h9⟩ := h
 exact ⟨h1, decide_eq_true h2, decide_eq_true h3, decide_eq_true h4, h8, h9⟩
set_option maxRecDepth 100000 in
set_option maxHeartbeats 6400000 in
theorem check_ok (bk : B) (A2 : Option Addr) (c2 : Nat) (A3 : Option Addr) (c3 : Nat) (n : Int) (w : World) (hF : Facts bk) (hr2 : Kd.C k79 w A2 bk.f2.length bk.f2) (hr3 : Kd.C k131 w A3 bk.f3.length bk.f3)
  (hI : ∀ W, Below w.heap.size w W → Calls Tryz.prog 74 #[.slice A2 bk.f2.length c2] W fun e w' => e = .returned (.int .i64 0) ∧ Below W.heap.size W w')
  (hP : ∀ W, Below w.heap.size w W → Calls Tryz.prog 115 #[.slice A3 bk.f3.length c3] W fun e w' => e = .returned (.int .i64 0) ∧ Below W.heap.size W w')
  (hO : ∀ W, Below w.heap.size w W → Calls Tryz.prog 116 #[.agg #[.string bk.f0, .int .i64 bk.f1, .slice A2 bk.f2.length c2, .slice A3 bk.f3.length c3, .int .u64 bk.f4]] W fun e w' => e = .returned (.int .i64 n) ∧ Below W.heap.size W w')
  (hn : decide (n ≤ 20000) = true) :
  Calls Tryz.prog 67 #[.agg #[.string bk.f0, .int .i64 bk.f1, .slice A2 bk.f2.length c2, .slice A3 bk.f3.length c3, .int .u64 bk.f4]] w fun e w' => e = .returned (.int .i64 0) ∧ Below w.heap.size w w' := by
 have HI := Aside0.mk hI
 have HP := Aside0.mk hP
 have HOc := Aside0.mk hO
 have HR2 := Aside0.mk hr2
 have HR3 := Aside0.mk hr3
 have HFa := Aside0.mk hF.fa
 have HFu := Aside0.mk hF.fu
 have HN := Aside0.mk hF.n
 have s0 := hF.s0
 have s2 := hF.s2
 have sl := hF.l
 have HB := Aside0.mk (Below.refl w.heap.size w)
 clear hI hP hO hr2 hr3 hF
 have hu := Tryz.underlying40
 have hue := Tryz.underlying79
 have hmf : ∀ (fn : Fn) (first cap : Array Value) (w : World), (Instr.makeFunc fn first cap).run Tryz.prog w = .ok (.func fn first cap) w := fun _ _ _ _ => rfl
 have hl2 : bk.f2.length ≤ 9223372036854775807 := HR2.out.2.1
 go_enter Tryz.func67, Tryz.ntmps67
 go_upto_region 3 with (first
  | ((with_reducible refine gate_dst (N := 1) rfl ?_); (try (refine gate_guard (by rfl) ?_; dsimp only)); (refine box_event ?hg (N := 1) ?hd (cs := #[.string bk.f0, .int .i64 bk.f1, .slice A2 bk.f2.length c2, .slice A3 bk.f3.length c3, .int .u64 bk.f4]) (t := 40) ?hr ?_; (case hd => rfl); (case hg => rfl); (case hr => first | (go_simp; done) | (go_simp; rfl)); intro gb hg w1 hbox hb; have n0_ := Aside0.mk (below_step HB.out hb); have BK := Aside0.mk hbox; have GE := Aside0.mk ((by rw [hg]; exact (below_size HB.out)) : w.heap.size ≤ gb); clear HB; have HB := n0_; clear n0_ hb hbox hg; have hz0 := blk_cell BK.out 0; have hz1 := blk_cell BK.out 1; have hz2 := blk_cell BK.out 2; have hz3 := blk_cell BK.out 3; have hz4 := blk_cell BK.out 4; have hf0 := blk_frozen BK.out 0; have hf1 := blk_frozen BK.out 1; have hf2 := blk_frozen BK.out 2; have hf3 := blk_frozen BK.out 3; have hf4 := blk_frozen BK.out 4))
  | ((with_reducible refine gate_callee (f := 41) rfl ?_); (refine goesL_ (some 9) rfl rfl Tryz.func41 (by kernel_rfl) rfl #[.string bk.f0] rfl (by (try simp only [List.map_toArray, List.map_cons, List.map_nil]); first | done | rfl | (simp only [List.length_drop, List.length_take]; rfl)) ?_; refine (NameW.bucket_any bk.f0 _).mono ?_; rw [HN.out]; rintro e w2 ⟨rfl, hb⟩; refine ⟨_, rfl, ?_⟩; have n0_ := Aside0.mk (below_step HB.out hb); have n1_ := Aside0.mk (blk_below BK.out hb); clear HB BK hz0 hz1 hz2 hz3 hz4 hf0 hf1 hf2 hf3 hf4; have HB := n0_; have BK := n1_; clear n0_ n1_ hb; have hz0 := blk_cell BK.out 0; have hz1 := blk_cell BK.out 1; have hz2 := blk_cell BK.out 2; have hz3 := blk_cell BK.out 3; have hz4 := blk_cell BK.out 4; have hf0 := blk_frozen BK.out 0; have hf1 := blk_frozen BK.out 1; have hf2 := blk_frozen BK.out 2; have hf3 := blk_frozen BK.out 3; have hf4 := blk_frozen BK.out 4))
  | ((with_reducible refine gate_callee (f := 74) rfl ?_); (try (refine gate_guard (by rfl) ?_; dsimp only)); (refine goesL_ (some 29) rfl rfl Tryz.func74 (by kernel_rfl) rfl #[.slice A2 bk.f2.length c2] rfl (by (try simp only [List.map_toArray, List.map_cons, List.map_nil]); first | done | rfl | (simp only [List.length_drop, List.length_take]; rfl)) ?_; refine (HI.out _ HB.out).mono ?_; rintro e w2 ⟨rfl, hb⟩; refine ⟨_, rfl, ?_⟩; have n0_ := Aside0.mk (below_step HB.out hb); have n1_ := Aside0.mk (blk_below BK.out hb); clear HB BK hz0 hz1 hz2 hz3 hz4 hf0 hf1 hf2 hf3 hf4; have HB := n0_; have BK := n1_; clear n0_ n1_ hb; have hz0 := blk_cell BK.out 0; have hz1 := blk_cell BK.out 1; have hz2 := blk_cell BK.out 2; have hz3 := blk_cell BK.out 3; have hz4 := blk_cell BK.out 4; have hf0 := blk_frozen BK.out 0; have hf1 := blk_frozen BK.out 1; have hf2 := blk_frozen BK.out 2; have hf3 := blk_frozen BK.out 3; have hf4 := blk_frozen BK.out 4))
  | ((with_reducible refine gate_callee (f := 115) rfl ?_); (try (refine gate_guard (by rfl) ?_; dsimp only)); (refine goesL_ (some 35) rfl rfl Tryz.func115 (by kernel_rfl) rfl #[.slice A3 bk.f3.length c3] rfl (by (try simp only [List.map_toArray, List.map_cons, List.map_nil]); first | done | rfl | (simp only [List.length_drop, List.length_take]; rfl)) ?_; refine (HP.out _ HB.out).mono ?_; rintro e w2 ⟨rfl, hb⟩; refine ⟨_, rfl, ?_⟩; have n0_ := Aside0.mk (below_step HB.out hb); have n1_ := Aside0.mk (blk_below BK.out hb); clear HB BK hz0 hz1 hz2 hz3 hz4 hf0 hf1 hf2 hf3 hf4; have HB := n0_; have BK := n1_; clear n0_ n1_ hb; have hz0 := blk_cell BK.out 0; have hz1 := blk_cell BK.out 1; have hz2 := blk_cell BK.out 2; have hz3 := blk_cell BK.out 3; have hz4 := blk_cell BK.out 4; have hf0 := blk_frozen BK.out 0; have hf1 := blk_frozen BK.out 1; have hf2 := blk_frozen BK.out 2; have hf3 := blk_frozen BK.out 3; have hf4 := blk_frozen BK.out 4))
  | ((with_reducible refine gate_callee (f := 116) rfl ?_); (try (refine gate_guard (by rfl) ?_; dsimp only)); (refine goesL_ (some 40) rfl rfl Tryz.func116 (by kernel_rfl) rfl #[.agg #[.string bk.f0, .int .i64 bk.f1, .slice A2 bk.f2.length c2, .slice A3 bk.f3.length c3, .int .u64 bk.f4]] rfl (by (try simp only [List.map_toArray, List.map_cons, List.map_nil]); first | done | rfl | (simp only [List.length_drop, List.length_take]; rfl)) ?_; refine (HOc.out _ HB.out).mono ?_; rintro e w2 ⟨rfl, hb⟩; refine ⟨_, rfl, ?_⟩; have n0_ := Aside0.mk (below_step HB.out hb); have n1_ := Aside0.mk (blk_below BK.out hb); clear HB BK hz0 hz1 hz2 hz3 hz4 hf0 hf1 hf2 hf3 hf4; have HB := n0_; have BK := n1_; clear n0_ n1_ hb; have hz0 := blk_cell BK.out 0; have hz1 := blk_cell BK.out 1; have hz2 := blk_cell BK.out 2; have hz3 := blk_cell BK.out 3; have hz4 := blk_cell BK.out 4; have hf0 := blk_frozen BK.out 0; have hf1 := blk_frozen BK.out 1; have hf2 := blk_frozen BK.out 2; have hf3 := blk_frozen BK.out 3; have hf4 := blk_frozen BK.out 4)))
 go_wp2
 go_loopw [3, 46] (fun v3 i wr => v3 = .bool true ∧ ∃ k : Nat, k ≤ bk.f2.length ∧ i = .int .i64 k ∧ Aside0 (Below w.heap.size w wr) ∧ Aside0 (wr.heap[gb]? = some (.cells #[.string bk.f0, .int .i64 bk.f1, .slice A2 bk.f2.length c2, .slice A3 bk.f3.length c3, .int .u64 bk.f4] 40 (0, 0)))) (fun _ i _ => bk.f2.length - (intOf i).toNat)
 case atStart => exact ⟨rfl, 0, by omega, rfl, HB, BK⟩
 case round =>
  clear HB BK
  obtain ⟨rfl, k, hk, rfl, HB, BK⟩ := hrel
  by_cases hlt : k < bk.f2.length
  ·obtain ⟨ad, A1, c1, e0, h0, h1, hl1, hC1⟩ := at_T79 (Kd.C_below HR2.out HB.out) (k : Int) (by omega) (by omega)
   have hx : rd_T79 bk.f2 (k : Int) = bk.f2[k] := by unfold rd_T79; rw [Int.toNat_natCast, List.getD_eq_getElem?_getD, List.getElem?_eq_getElem hlt]; rfl
   rw [hx] at h0 h1 hl1 hC1
   rw [Int.toNat_natCast] at h0 h1
   cases e0
   have hfa := HFa.out _ (List.getElem_mem hlt)
   generalize bk.f2[k] = x at h0 h1 hl1 hC1 hfa
   clear hx
   have HC := Aside0.mk hC1
   have HF1 := Aside0.mk hfa
   clear hC1 hl1 hfa
   go_wp2_with (first
    | ((with_reducible refine gate_dst (N := 5) rfl ?_); (try (refine gate_guard (by rfl) ?_; dsimp only)); (refine box_event ?hg (N := 5) ?hd (cs := #[.string (⟨#[]⟩ : ByteArray), .slice none 0 0]) (t := 79) ?hr ?_; (case hd => rfl); (case hg => rfl); (case hr => first | (go_simp; done) | (go_simp; rfl)); intro ge hg wE hbox hb; have HW := Aside0.mk hb; have BE := Aside0.mk hbox; have GEe := Aside0.mk (Nat.le_of_eq hg.symm); clear hb hbox hg; have he0 := blk_cell BE.out 0; have he1 := blk_cell BE.out 1; have hg0 := blk_frozen BE.out 0; have hg1 := blk_frozen BE.out 1))
    | ((with_reducible refine gate_callee (f := 118) rfl ?_); (try (refine gate_guard (by rfl) ?_; dsimp only)); (refine goesL_ (some 56) rfl rfl Tryz.func118 (by kernel_rfl) rfl #[.slice A1 x.f1.length c1, .func (.func 117) #[] #[.pointer (some ⟨gb, 0, none⟩)]] rfl (by (try simp only [List.map_toArray, List.map_cons, List.map_nil]); first | done | rfl | (simp only [List.length_drop, List.length_take]; rfl)) ?_; have HW2 := below_set (j := 1) (v := .slice A1 x.f1.length c1) (below_set (j := 0) (v := .string x.f0) HW.out GEe.out) GEe.out; refine (IxV.contains_any 117 #[.pointer (some ⟨gb, 0, none⟩)] (fun args w => by rfl) (far bk) A1 c1 x.f1 _ (Kd.C_below HC.out HW2) (fun W2 v hv hB => BkFar.farC bk v gb W2 (blk_lt (blk_below (blk_below BK.out HW2) hB)) ((blk_cell (blk_below (blk_below BK.out HW2) hB) 1).trans rfl) ((blk_cell (blk_below (blk_below BK.out HW2) hB) 4).trans rfl))).mono ?_; rw [HF1.out]; rintro e w2 ⟨rfl, hb⟩; refine ⟨_, rfl, ?_⟩; have n0_ := Aside0.mk (below_step HW2 hb); clear HW HW2 BE he0 he1 hg0 hg1; have HW := n0_; clear n0_ hb)))
   exact ⟨⟨rfl, k + 1, by omega, by go_num, ⟨below_step HB.out HW.out⟩, ⟨blk_below BK.out HW.out⟩⟩, by simp [intOf]; omega⟩
  ·have hk2 : k = bk.f2.length := by omega
   subst hk2
   have hz3 := blk_cell BK.out 3
   have hf3 := blk_frozen BK.out 3
   go_wp2_with (first
    | ((with_reducible refine gate_callee (f := 119) rfl ?_); (try (refine gate_guard (by rfl) ?_; dsimp only)); (refine goesL_ (some 65) rfl rfl Tryz.func119 (by kernel_rfl) rfl #[.slice A3 bk.f3.length c3, .func (.func 120) #[] #[.pointer (some ⟨gb, 0, none⟩)]] rfl (by (try simp only [List.map_toArray, List.map_cons, List.map_nil]); first | done | rfl | (simp only [List.length_drop, List.length_take]; rfl)) ?_; refine (IxU.contains_any 120 #[.pointer (some ⟨gb, 0, none⟩)] (fun args w => by rfl) (farU bk) A3 c3 bk.f3 _ (Kd.C_below HR3.out HB.out) (fun W2 u A c hu hB _ _ => BkFar.farUC bk u A c gb W2 (blk_lt (blk_below BK.out hB)) ((blk_cell (blk_below BK.out hB) 4).trans rfl))).mono ?_; rw [HFu.out]; rintro e w2 ⟨rfl, hb⟩; refine ⟨_, rfl, ?_⟩; have n0_ := Aside0.mk (below_step HB.out hb); clear HB hz3 hf3; have HB := n0_; clear n0_ hb)))
   go_ret
   exact ⟨rfl, HB.out⟩
end Go.Proofs.YtpccbmechgkogaaGreatDoor.BkChk
namespace Go.Proofs.YtpccbmechgkogaaGreatDoor.IdxLaws
open Go.RowKit Go.Proofs.YtpccbmechgkogaaGreatDoor.P Go.Proofs.YtpccbmechgkogaaGreatDoorW.PrintWords Go.Proofs.YtpccbmechgkogaaGreatDoor.PureKit Go.Proofs.YtpccbmechgkogaaGreatDoor.IdxSpec
open Go.Proofs.YtpccbmechgkogaaGreatDoor.ChSpec (mayB chainB later good good_cons)
def okE (x : E) : Bool := Name.keyB x.f0 && !x.f1.isEmpty && chainB x.f1
abbrev Rise (l : List E) : Prop := l.Pairwise (fun a b => lt a.f0 b.f0 = true)
theorem rising_iff : ∀ (l : List E) (prev : Option E), rising prev l = true ↔ (∀ x ∈ l, okE x = true) ∧ Rise l ∧ (∀ u, prev = some u → ∀ x ∈ l, lt u.f0 x.f0 = true)
 | [], prev => by simp [rising]
 | x :: r, prev => by
  have ih := rising_iff r (some x)
  simp only [rising_cons, Bool.and_eq_true, ih]
  constructor
  ·rintro ⟨⟨⟨⟨h1, h2⟩, h3⟩, h4⟩, h5, h6, h7⟩
   refine ⟨fun y hy => ?_, List.pairwise_cons.2 ⟨h7 x rfl, h6⟩, fun u hu y hy => ?_⟩
   ·rcases List.mem_cons.1 hy with rfl | hy
    ·simp only [okE, Bool.and_eq_true]; exact ⟨⟨h1, h3⟩, h4⟩
    ·exact h5 y hy
   ·subst hu
    rcases List.mem_cons.1 hy with rfl | hy
    ·exact h2
    ·exact lt_trans h2 (h7 x rfl y hy)
  ·rintro ⟨h1, h2, h3⟩
   have hx := h1 x (by simp)
   simp only [okE, Bool.and_eq_true] at hx
   refine ⟨⟨⟨⟨hx.1.1, ?_⟩, hx.1.2⟩, hx.2⟩, fun y hy => h1 y (by simp [hy]), (List.pairwise_cons.1 h2).2, fun u hu y hy => ?_⟩
   ·cases prev with
    | none => rfl
    | some u => exact h3 u rfl x (by simp)
   ·injection hu with hu
    subst hu
    exact (List.pairwise_cons.1 h2).1 y hy
theorem index_iff (l : List E) : indexB l = true ↔ l.length ≤ 60 ∧ (∀ x ∈ l, okE x = true) ∧ Rise l := by
 simp only [indexB, Bool.and_eq_true, decide_eq_true_eq, rising_iff]
 simp
theorem filter_none {α : Type} {p : α → Bool} {l : List α} (h : ∀ x ∈ l, p x = false) : l.filter p = [] := List.filter_eq_nil_iff.2 (fun x hx => by simp [h x hx])
theorem filter_all {α : Type} {p : α → Bool} {l : List α} (h : ∀ x ∈ l, p x = true) : l.filter p = l := List.filter_eq_self.2 h
theorem idx_cons (p : E → Bool) (x : E) (r : List E) : IdxE.idx p (x :: r) ≥ 0 ↔ p x = true ∨ IdxE.idx p r ≥ 0 := by
 constructor
 ·intro h
  obtain ⟨y, hy, hp⟩ := idx_nonneg _ _ h
  rcases List.mem_cons.1 hy with rfl | hy
  ·exact .inl hp
  ·by_cases h' : IdxE.idx p r ≥ 0
   ·exact .inr h'
   ·rw [idx_neg _ _ h' y hy] at hp; cases hp
 ·intro h
  by_cases h' : IdxE.idx p (x :: r) ≥ 0
  ·exact h'
  ·have := idx_neg _ _ h'
   rcases h with h | h
   ·rw [this x (by simp)] at h; cases h
   ·obtain ⟨y, hy, hp⟩ := idx_nonneg _ _ h
    rw [this y (by simp [hy])] at hp; cases hp
theorem has_iff (key : ByteArray) (x : E) : IdxE.has key x = true ↔ x.f0.toList = key.toList := by simp [IdxE.has]
theorem not_less_of {u k y : ByteArray} (h1 : lt u k = false) (h2 : lt u y = true) : lt y k = false := by
 cases h : lt y k with
 | false => rfl
 | true => have := lt_trans h2 h; rw [h1] at this; cases this
theorem take_at : ∀ (l : List E) (key : ByteArray), Rise l → l.take (at_ l key) = l.filter fun x => lt x.f0 key
 | [], _, _ => by simp
 | x :: r, key, h => by
  obtain ⟨h1, h2⟩ := List.pairwise_cons.1 h
  cases hx : lt x.f0 key with
  | true =>
   have e : at_ (x :: r) key = at_ r key + 1 := by simp [at_, hx]
   rw [e, List.take_succ_cons, take_at r key h2, List.filter_cons_of_pos (by simp [hx])]
  | false =>
   have h0 : (x :: r).filter (fun x => lt x.f0 key) = [] := filter_none fun y hy => by
    rcases List.mem_cons.1 hy with rfl | hy
    ·exact hx
    ·exact not_less_of hx (h1 y hy)
   have e : at_ (x :: r) key = 0 := by simp [at_, h0]
   rw [e, h0]
   rfl
theorem drop_behind : ∀ (l : List E) (key : ByteArray), Rise l → l.drop (behind l key) = l.filter fun x => lt key x.f0
 | [], _, _ => by simp
 | x :: r, key, h => by
  obtain ⟨h1, h2⟩ := List.pairwise_cons.1 h
  cases hx : lt x.f0 key with
  | true =>
   have e : at_ (x :: r) key = at_ r key + 1 := by simp [at_, hx]
   have hp : ¬ IdxE.has key x = true := by
    intro hh
    rw [lt_congr (d := key) ((has_iff key x).1 hh) rfl, lt_irrefl] at hx
    cases hx
   have eb : behind (x :: r) key = behind r key + 1 := by
    unfold behind
    rw [e]
    by_cases hi : IdxE.idx (IdxE.has key) r ≥ 0
    ·rw [if_pos ((idx_cons _ _ _).2 (.inr hi)), if_pos hi]
    ·rw [if_neg (fun hc => ((idx_cons _ _ _).1 hc).elim hp hi), if_neg hi]
   rw [eb, List.drop_succ_cons, drop_behind r key h2, List.filter_cons_of_neg (by simp [lt_asymm hx])]
  | false =>
   have hr : ∀ y ∈ r, lt y.f0 key = false := fun y hy => not_less_of hx (h1 y hy)
   have e : at_ (x :: r) key = 0 := by
    unfold at_
    rw [filter_none (fun y hy => ?_)]
    ·rfl
    ·rcases List.mem_cons.1 hy with rfl | hy
     ·exact hx
     ·exact hr y hy
   by_cases hh : IdxE.has key x = true
   ·have hk := (has_iff key x).1 hh
    have eb : behind (x :: r) key = 1 := by unfold behind; rw [e, if_pos ((idx_cons _ _ _).2 (.inl hh))]
    rw [eb, List.drop_succ_cons, List.drop_zero, List.filter_cons_of_neg (by rw [lt_congr (a := key) (b := key) (d := key) rfl hk, lt_irrefl]; simp)]
    exact (filter_all fun y hy => by rw [lt_congr (a := key) (b := x.f0) hk.symm rfl]; exact h1 y hy).symm
   ·have hkx : lt key x.f0 = true := by
     cases hc : lt key x.f0 with
     | true => rfl
     | false => exact absurd ((has_iff key x).2 (lt_tri hx hc)) hh
    have hn : ∀ y ∈ r, ¬ IdxE.has key y = true := fun y hy hc => by
     have h3 := lt_trans hkx (h1 y hy)
     rw [lt_congr (a := key) (b := key) (d := key) rfl ((has_iff key y).1 hc), lt_irrefl] at h3
     cases h3
    have eb : behind (x :: r) key = 0 := by
     unfold behind
     rw [e, if_neg]
     intro hc
     rcases (idx_cons _ _ _).1 hc with hc | hc
     ·exact hh hc
     ·obtain ⟨y, hy, hp⟩ := idx_nonneg _ _ hc
      exact hn y hy hp
    rw [eb, List.drop_zero]
    exact (filter_all fun y hy => by
     rcases List.mem_cons.1 hy with rfl | hy
     ·exact hkx
     ·exact lt_trans hkx (h1 y hy)).symm
theorem putL_eq (l : List E) (key : ByteArray) (c : List V) (h : Rise l) : putL l key c = l.filter (fun x => lt x.f0 key) ++ new key c ++ l.filter (fun x => lt key x.f0) := by
 unfold putL
 rw [take_at l key h, drop_behind l key h]
end Go.Proofs.YtpccbmechgkogaaGreatDoor.IdxLaws
