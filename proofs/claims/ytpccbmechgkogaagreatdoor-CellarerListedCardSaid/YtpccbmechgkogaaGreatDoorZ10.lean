/-
  Lemmas: Put, Vers.
-/
import Derived.Deep.RegionLaw
import Derived.Outline
import Derived.Test.YtpccbmechgkogaaGreatDoorProg
import Derived.Test.YtpccbmechgkogaaGreatDoorV0
import Derived.Test.YtpccbmechgkogaaGreatDoorZ00
import Derived.Test.YtpccbmechgkogaaGreatDoorZ01
import Derived.Test.YtpccbmechgkogaaGreatDoorZ02
import Derived.Test.YtpccbmechgkogaaGreatDoorZ04
import Derived.Test.YtpccbmechgkogaaGreatDoorZ05
import Derived.Test.YtpccbmechgkogaaGreatDoorZ06
import Derived.Test.YtpccbmechgkogaaGreatDoorZ07
import Derived.Test.YtpccbmechgkogaaGreatDoorZ08
import Derived.Test.YtpccbmechgkogaaGreatDoorZ09
set_option linter.unusedVariables false
set_option linter.unusedSimpArgs false
namespace Go.Proofs.YtpccbmechgkogaaGreatDoor.Put
open Go.RowKit Go.Proofs.YtpccbmechgkogaaGreatDoor.P Go.Proofs.YtpccbmechgkogaaGreatDoorW.PrintWords Go.Proofs.YtpccbmechgkogaaGreatDoor.PureKit Go.Proofs.YtpccbmechgkogaaGreatDoor.IdxSpec
open Go.Proofs.YtpccbmechgkogaaGreatDoor.ChSpec (mayB chainB later good good_cons)
def putF (l : List E) (key : ByteArray) (c : List V) : Option (List E × Int) := some (put l key c)
def Post (P0_ : Nat → Prop) (w : World) (r1 : List E) (r2 : Int) (e : Ending) (w' : World) : Prop := ∃ v0_ : Value, e = .returned (.tuple #[v0_, .int .i64 r2]) ∧ Kd.V k79 79 w' w.heap.size (fun k_ => (P0_ k_ ∨ w.heap.size ≤ k_)) v0_ r1 ∧ Below w.heap.size w w'
set_option maxRecDepth 100000 in
set_option maxHeartbeats 3200000 in
theorem taken (P0_ : Nat → Prop) (A0 : Option Addr) (c0 : Nat) (l0 : List E) (a1 : ByteArray) (A2 : Option Addr) (c2 : Nat) (l2 : List V) (w : World)
  (hs0 : Kd.V k79 79 w w.heap.size (fun k_ => P0_ k_) (.slice A0 l0.length c0) l0) (hr2 : Kd.C k63 w A2 l2.length l2) (hc2 : l2.length ≤ c2) (hI : indexB l0 = true) (hK : Name.keyB a1 = true) (hC : chainB l2 = true)
  (b : Bool) (hb : b = decide (IdxE.idx (IdxE.has a1) l0 ≥ 0)) (i j : Nat) (hi : i = at_ l0 a1) (hj : (j : Int) = if b = true then (i : Int) + 1 else i) (hij : i ≤ j) (hjl : j ≤ l0.length) (q : Bool) (hq : q = decide (l2 = []))
  (b60 : Bool) (r1 : List E) (r2 : Int) (h60 : b60 = decide ((l0.take i ++ new a1 l2 ++ l0.drop j).length > 60)) (hr1 : r1 = if b60 = true then [] else l0.take i ++ new a1 l2 ++ l0.drop j) (hr2' : r2 = if b60 = true then 6 else 0) :
  Calls Tryz.prog 142 #[.slice A0 l0.length c0, .string a1, .slice A2 l2.length c2] w (Post P0_ w r1 r2) := by
 obtain ⟨_, hc0, hr0⟩ := Kd.V_reads' hs0
 have hl60 : l0.length ≤ 60 := by unfold indexB at hI; simp at hI; exact hI.1
 have hl20 : l2.length ≤ 20 := by unfold chainB at hC; simp at hC; exact hC.1.1
 have HR := Aside0.mk hr0
 have HR2 := Aside0.mk hr2
 have C1 := ChkI.check_any A0 c0 l0 w hr0 hI
 have CK := Aside0.mk (fun w1 : World => name_Key.calls a1 (Name.keyB a1) w1 rfl)
 rw [hK] at CK
 have C2 := Aside0.mk (fun w1 (hb : Below w.heap.size w w1) => ChkC.check_any A2 c2 l2 w1 (Kd.C_below HR2.out hb) hC)
 have C3 := Aside0.mk (fun w1 (hb : Below w.heap.size w w1) => IAt.at_any A0 c0 l0 a1 w1 (Kd.C_below HR.out hb) hl60)
 rw [← hi] at C3
 have C4 := Aside0.mk (fun w1 (hb : Below w.heap.size w w1) => IdxE.find_any A0 c0 l0 a1 w1 (Kd.C_below HR.out hb))
 have C5 := Aside0.mk (fun w1 (hb : Below w.heap.size w w1) => Clone.clone_any A2 c2 l2 w1 (Kd.C_below HR2.out hb) (by omega))
 have hlx : (l0.take i).length = i := by rw [List.length_take]; omega
 have hly : (l0.drop j).length = l0.length - j := List.length_drop
 have HX := Aside0.mk (fun w1 (hb : Below w.heap.size w w1) => Kd.F_below (Kd.F_take (m := i) (Kd.V_F hs0) (by omega)) hb)
 have HY := Aside0.mk (fun w1 (hb : Below w.heap.size w w1) => Kd.F_below (Kd.F_cut (m := j) (Kd.V_F hs0) hjl hc0) hb)
 have HLX := Aside0.mk hlx
 have HLY := Aside0.mk hly
 have HNL := Aside0.mk (show (new a1 l2).length ≤ 1 by unfold new; split <;> simp)
 have H60 := Aside0.mk h60
 have HR1 := Aside0.mk hr1
 have HR2' := Aside0.mk hr2'
 have hu := Tryz.underlying79
 clear hs0 hr0 hr2 hI hK hC HR HR2 hlx hly h60 hr1 hr2'
 generalize IdxE.idx (IdxE.has a1) l0 = x at hb C4
 have HI := Aside0.mk hi
 have HQ := Aside0.mk hq
 clear hi hq
 have hic : i ≤ c0 := by omega
 go_enter Tryz.func142, Tryz.ntmps142
 go_wp2_with fail
 refine C1.mono ?_
 rintro e w1 ⟨rfl, hb1⟩
 have HB := Aside0.mk hb1
 clear hb1 C1
 go_wp2_with fail
 refine (CK.out _).mono ?_
 rintro e w2 ⟨rfl, hb2⟩
 have HB2 := Aside0.mk (below_step HB.out hb2)
 clear hb2 CK HB
 go_wp2_with fail
 refine (C2.out _ HB2.out).mono ?_
 rintro e w3 ⟨rfl, hb3⟩
 have HB3 := Aside0.mk (below_step HB2.out hb3)
 clear hb3 C2 HB2
 go_wp2_with fail
 refine (C3.out _ HB3.out).mono ?_
 rintro e w4 ⟨rfl, hb4⟩
 have HB4 := Aside0.mk (below_step HB3.out hb4)
 clear hb4 C3 HB3
 go_wp2_with fail
 refine (C4.out _ HB4.out).mono ?_
 rintro e w5 ⟨rfl, hb5⟩
 have HB5 := Aside0.mk (below_step HB4.out hb5)
 clear hb5 C4 HB4
 cases b with
 | true =>
  have hd : decide (x ≥ 0) = true := hb.symm
  have hx : 0 ≤ x := of_decide_eq_true hd
  have hw : IntKind.i64.wrap ((i : Int) + 1) = (j : Int) := by rw [IntWalk.i64_in _ (by omega)]; simp at hj; omega
  clear hb hj
  cases q with
  | true =>
   have h0 : l2 = [] := by simpa using HQ.out.symm
   have HL0 := Aside0.mk h0
   have hz : l2.length = 0 := by rw [h0]; rfl
   have hz1 : decide (0 < l2.length) = false := decide_eq_false (by omega)
   have hz2 : decide ((l2.length : Int) > 0) = false := decide_eq_false (by omega)
   clear h0
   go_wp2_with fail
   go_region_law (refine View.V_append_step k79 rfl (.tmp 55) (.tmp 58) 37 79 (.agg #[(.string ⟨#[]⟩), (.slice none 0 0)]) 40 rfl Tryz.underlying37 info79 rfl (by decide) (by omega) A0 i (l0.take i) (l0.drop j) (if c0 = j then A0 else A0.map (·.add (j * 2))) (l0.length - j) (c0 - j) (fun k_ => P0_ k_) ?hs ?hx HLX.out.symm HLY.out.symm ?hX ?hY ?hL ?_; (case hs => first | (go_simp; done) | (go_simp; rfl)); (case hx => first | (go_simp; done) | (go_simp; rfl)); (case hX => exact HX.out _ (by repeat (first | exact HB5.out | apply pw_below_drewN | apply below_drew1))); (case hY => exact HY.out _ (by repeat (first | exact HB5.out | apply pw_below_drewN | apply below_drew1))); (case hL => rw [HLX.out, HLY.out]; omega); intro v9 w9 hv9 hb9)
   generalize (if c0 = j then A0 else A0.map (fun x => x.add (j * 2))) = B9
   have HB9 := Aside0.mk (below_step (by repeat (first | exact HB5.out | apply pw_below_drewN | apply below_drew1)) hb9)
   obtain ⟨A9, c9, rfl⟩ := Kd.V_slice hv9
   have HV9 := Aside0.mk (Kd.V_mono (ok' := fun k_ => P0_ k_ ∨ w.heap.size ≤ k_) hv9 (fun k_ hk => hk.imp id (fun h => by refine Nat.le_trans (below_size ?_) h; exact (by repeat (first | exact HB5.out | apply pw_below_drewN | apply below_drew1)))))
   clear hv9 hb9
   have H61 := H60.out
   rw [show (l0.take i ++ new a1 l2 ++ l0.drop j) = l0.take i ++ l0.drop j by rw [HL0.out]; simp [new]] at H61
   obtain ⟨n9, hn9⟩ : ∃ n, (l0.take i ++ l0.drop j).length = n := ⟨_, rfl⟩
   rw [hn9] at H61
   have HN9 := Aside0.mk hn9
   rw [hn9]
   cases b60 with
   | true =>
    have hgt : 60 < n9 := by simpa using H61.symm
    have hgt1 : decide (60 < n9) = true := decide_eq_true hgt
    have hgt2 : decide ((n9 : Int) > 60) = true := decide_eq_true (by omega)
    clear H61 hn9
    go_wp2_with fail
    go_ret2
    rw [HR1.out, HR2'.out]
    exact ⟨_, rfl, Kd.V_nil _ _ _ _ _, HB9.out⟩
   | false =>
    have hgt : ¬ 60 < n9 := by simpa using H61.symm
    have hgt1 : decide (60 < n9) = false := decide_eq_false hgt
    have hgt2 : decide ((n9 : Int) > 60) = false := decide_eq_false (by omega)
    clear H61 hn9
    go_wp2_with fail
    go_ret2
    rw [HR1.out, HR2'.out]
    refine ⟨_, rfl, ?_, HB9.out⟩
    rw [← HN9.out]
    rw [if_neg (by simp), show (l0.take i ++ new a1 l2 ++ l0.drop j) = l0.take i ++ l0.drop j by rw [HL0.out]; simp [new]]
    exact HV9.out
  | false =>
   have h0 : l2 ≠ [] := by simpa using HQ.out.symm
   have HL0 := Aside0.mk h0
   have hz : 0 < l2.length := List.length_pos_iff.2 h0
   have hz1 : decide (0 < l2.length) = true := decide_eq_true hz
   have hz2 : decide ((l2.length : Int) > 0) = true := decide_eq_true (by omega)
   clear h0
   go_wp2_with fail
   refine (C5.out _ HB5.out).mono ?_
   rintro e w6 ⟨v6, rfl, hv6, hb6⟩
   obtain ⟨A6, c6, rfl⟩ := Kd.R_slice hv6
   have HB6 := Aside0.mk (below_step HB5.out hb6)
   have HF6 := Aside0.mk (View.F_one (e := 79) k79 (W := w6) (ok := fun k_ => P0_ k_ ∨ w.heap.size ≤ k_) (k79_mkF w6 _ (⟨a1, l2⟩ : E) (Kd.R_reads' hv6).2.1 (Kd.F_mono (Kd.R_F (Kd.R_tight rfl hv6)) (fun k_ hk => .inr (Nat.le_trans HB5.out.size (Kd.R_base hv6 k_ hk.symm))))) rfl)
   have HX6 := Aside0.mk (Kd.F_mono (ok' := fun k_ => (P0_ k_ ∨ w.heap.size ≤ k_) ∨ w6.heap.size ≤ k_) (HX.out _ HB6.out) (fun k_ hk => .inl (.inl hk)))
   clear hv6 hb6 C5 HB5
   obtain ⟨n7, hn7⟩ : ∃ n, n = i + 1 := ⟨_, rfl⟩
   have HN7 := Aside0.mk hn7
   clear hn7
   go_wp2_with ((with_reducible refine gate_builtin (b := .append) (xs := #[.tmp 43, .tmp 48]) rfl ?_); at_builtin; refine View.V_append k79 rfl (.tmp 43) (.tmp 48) 37 79 (.agg #[(.string ⟨#[]⟩), (.slice none 0 0)]) 40 rfl Tryz.underlying37 info79 rfl (by decide) (by omega) A0 i (l0.take i) [(⟨a1, l2⟩ : E)] (some ⟨w6.heap.size, 0, none⟩) 1 1 (fun k_ => (P0_ k_ ∨ w.heap.size ≤ k_) ∨ w6.heap.size ≤ k_) rfl rfl HLX.out.symm rfl (Kd.F_alloc HX6.out _) HF6.out (by rw [HLX.out]; simp; omega) ?_; intro v7 w7 hv7 hb7; have HB7 := Aside0.mk (below_step (below_alloc HB6.out _) hb7); clear hb7; obtain ⟨A7, c7, rfl⟩ := Kd.V_slice hv7; have hlen7 : (l0.take i ++ [(⟨a1, l2⟩ : E)]).length = n7 := (by rw [List.length_append, HLX.out, HN7.out]; rfl); have hc7 : n7 ≤ c7 := (by have := (Kd.V_at hv7).2.1; omega); have HV7 := Aside0.mk (Kd.V_mono (ok' := fun k_ => P0_ k_ ∨ w.heap.size ≤ k_) hv7 (fun k_ hk => by have h6 := HB6.out.size; rcases hk with (hk | hk) | hk; exact hk; exact .inr (by omega); exact .inr (by simp at hk; omega))); clear hv7; rw [hlen7] at HV7; rw [hlen7]; have HL7 := Aside0.mk hlen7; clear hlen7)
   go_region_law (refine View.V_append_step k79 rfl (.tmp 55) (.tmp 58) 37 79 (.agg #[(.string ⟨#[]⟩), (.slice none 0 0)]) 40 rfl Tryz.underlying37 info79 rfl (by decide) (by omega) A7 n7 ((l0.take i ++ [(⟨a1, l2⟩ : E)])) (l0.drop j) (if c0 = j then A0 else A0.map (·.add (j * 2))) (l0.length - j) (c0 - j) (fun k_ => P0_ k_ ∨ w.heap.size ≤ k_) ?hs ?hx HL7.out.symm HLY.out.symm ?hX ?hY ?hL ?_; (case hs => first | (go_simp; done) | (go_simp; rfl)); (case hx => first | (go_simp; done) | (go_simp; rfl)); (case hX => exact (by rw [HL7.out]; exact Kd.V_F (Kd.V_below HV7.out (by repeat (first | exact Below.refl _ _ | apply pw_below_drewN | apply below_drew1))))); (case hY => exact Kd.F_mono (HY.out _ (by repeat (first | exact HB7.out | apply pw_below_drewN | apply below_drew1))) (fun _ h => .inl h)); (case hL => rw [HL7.out, HLY.out]; have := HN7.out; omega); intro v9 w9 hv9 hb9)
   generalize (if c0 = j then A0 else A0.map (fun x => x.add (j * 2))) = B9
   have HB9 := Aside0.mk (below_step (by repeat (first | exact HB7.out | apply pw_below_drewN | apply below_drew1)) hb9)
   obtain ⟨A9, c9, rfl⟩ := Kd.V_slice hv9
   have HV9 := Aside0.mk (Kd.V_mono (ok' := fun k_ => P0_ k_ ∨ w.heap.size ≤ k_) hv9 (fun k_ hk => hk.elim id (fun h => .inr (by refine Nat.le_trans (below_size ?_) h; exact (by repeat (first | exact HB7.out | apply pw_below_drewN | apply below_drew1))))))
   clear hv9 hb9
   have H61 := H60.out
   rw [show (l0.take i ++ new a1 l2 ++ l0.drop j) = (l0.take i ++ [(⟨a1, l2⟩ : E)]) ++ l0.drop j by simp [new, HL0.out]] at H61
   obtain ⟨n9, hn9⟩ : ∃ n, ((l0.take i ++ [(⟨a1, l2⟩ : E)]) ++ l0.drop j).length = n := ⟨_, rfl⟩
   rw [hn9] at H61
   have HN9 := Aside0.mk hn9
   rw [hn9]
   cases b60 with
   | true =>
    have hgt : 60 < n9 := by simpa using H61.symm
    have hgt1 : decide (60 < n9) = true := decide_eq_true hgt
    have hgt2 : decide ((n9 : Int) > 60) = true := decide_eq_true (by omega)
    clear H61 hn9
    go_wp2_with fail
    go_ret2
    rw [HR1.out, HR2'.out]
    exact ⟨_, rfl, Kd.V_nil _ _ _ _ _, HB9.out⟩
   | false =>
    have hgt : ¬ 60 < n9 := by simpa using H61.symm
    have hgt1 : decide (60 < n9) = false := decide_eq_false hgt
    have hgt2 : decide ((n9 : Int) > 60) = false := decide_eq_false (by omega)
    clear H61 hn9
    go_wp2_with fail
    go_ret2
    rw [HR1.out, HR2'.out]
    refine ⟨_, rfl, ?_, HB9.out⟩
    rw [← HN9.out]
    rw [if_neg (by simp), show (l0.take i ++ new a1 l2 ++ l0.drop j) = (l0.take i ++ [(⟨a1, l2⟩ : E)]) ++ l0.drop j by simp [new, HL0.out]]
    exact HV9.out
 | false =>
  have hd : decide (x ≥ 0) = false := hb.symm
  have hx : ¬ 0 ≤ x := of_decide_eq_false hd
  have hw : i = j := by simp at hj; omega
  subst hw
  clear hb hj hij
  cases q with
  | true =>
   have h0 : l2 = [] := by simpa using HQ.out.symm
   have HL0 := Aside0.mk h0
   have hz : l2.length = 0 := by rw [h0]; rfl
   have hz1 : decide (0 < l2.length) = false := decide_eq_false (by omega)
   have hz2 : decide ((l2.length : Int) > 0) = false := decide_eq_false (by omega)
   clear h0
   go_wp2_with fail
   go_region_law (refine View.V_append_step k79 rfl (.tmp 55) (.tmp 58) 37 79 (.agg #[(.string ⟨#[]⟩), (.slice none 0 0)]) 40 rfl Tryz.underlying37 info79 rfl (by decide) (by omega) A0 i (l0.take i) (l0.drop i) (if c0 = i then A0 else A0.map (·.add (i * 2))) (l0.length - i) (c0 - i) (fun k_ => P0_ k_) ?hs ?hx HLX.out.symm HLY.out.symm ?hX ?hY ?hL ?_; (case hs => first | (go_simp; done) | (go_simp; rfl)); (case hx => first | (go_simp; done) | (go_simp; rfl)); (case hX => exact HX.out _ (by repeat (first | exact HB5.out | apply pw_below_drewN | apply below_drew1))); (case hY => exact HY.out _ (by repeat (first | exact HB5.out | apply pw_below_drewN | apply below_drew1))); (case hL => rw [HLX.out, HLY.out]; omega); intro v9 w9 hv9 hb9)
   generalize (if c0 = i then A0 else A0.map (fun x => x.add (i * 2))) = B9
   have HB9 := Aside0.mk (below_step (by repeat (first | exact HB5.out | apply pw_below_drewN | apply below_drew1)) hb9)
   obtain ⟨A9, c9, rfl⟩ := Kd.V_slice hv9
   have HV9 := Aside0.mk (Kd.V_mono (ok' := fun k_ => P0_ k_ ∨ w.heap.size ≤ k_) hv9 (fun k_ hk => hk.imp id (fun h => by refine Nat.le_trans (below_size ?_) h; exact (by repeat (first | exact HB5.out | apply pw_below_drewN | apply below_drew1)))))
   clear hv9 hb9
   have H61 := H60.out
   rw [show (l0.take i ++ new a1 l2 ++ l0.drop i) = l0.take i ++ l0.drop i by rw [HL0.out]; simp [new]] at H61
   obtain ⟨n9, hn9⟩ : ∃ n, (l0.take i ++ l0.drop i).length = n := ⟨_, rfl⟩
   rw [hn9] at H61
   have HN9 := Aside0.mk hn9
   rw [hn9]
   cases b60 with
   | true =>
    have hgt : 60 < n9 := by simpa using H61.symm
    have hgt1 : decide (60 < n9) = true := decide_eq_true hgt
    have hgt2 : decide ((n9 : Int) > 60) = true := decide_eq_true (by omega)
    clear H61 hn9
    go_wp2_with fail
    go_ret2
    rw [HR1.out, HR2'.out]
    exact ⟨_, rfl, Kd.V_nil _ _ _ _ _, HB9.out⟩
   | false =>
    have hgt : ¬ 60 < n9 := by simpa using H61.symm
    have hgt1 : decide (60 < n9) = false := decide_eq_false hgt
    have hgt2 : decide ((n9 : Int) > 60) = false := decide_eq_false (by omega)
    clear H61 hn9
    go_wp2_with fail
    go_ret2
    rw [HR1.out, HR2'.out]
    refine ⟨_, rfl, ?_, HB9.out⟩
    rw [← HN9.out]
    rw [if_neg (by simp), show (l0.take i ++ new a1 l2 ++ l0.drop i) = l0.take i ++ l0.drop i by rw [HL0.out]; simp [new]]
    exact HV9.out
  | false =>
   have h0 : l2 ≠ [] := by simpa using HQ.out.symm
   have HL0 := Aside0.mk h0
   have hz : 0 < l2.length := List.length_pos_iff.2 h0
   have hz1 : decide (0 < l2.length) = true := decide_eq_true hz
   have hz2 : decide ((l2.length : Int) > 0) = true := decide_eq_true (by omega)
   clear h0
   go_wp2_with fail
   refine (C5.out _ HB5.out).mono ?_
   rintro e w6 ⟨v6, rfl, hv6, hb6⟩
   obtain ⟨A6, c6, rfl⟩ := Kd.R_slice hv6
   have HB6 := Aside0.mk (below_step HB5.out hb6)
   have HF6 := Aside0.mk (View.F_one (e := 79) k79 (W := w6) (ok := fun k_ => P0_ k_ ∨ w.heap.size ≤ k_) (k79_mkF w6 _ (⟨a1, l2⟩ : E) (Kd.R_reads' hv6).2.1 (Kd.F_mono (Kd.R_F (Kd.R_tight rfl hv6)) (fun k_ hk => .inr (Nat.le_trans HB5.out.size (Kd.R_base hv6 k_ hk.symm))))) rfl)
   have HX6 := Aside0.mk (Kd.F_mono (ok' := fun k_ => (P0_ k_ ∨ w.heap.size ≤ k_) ∨ w6.heap.size ≤ k_) (HX.out _ HB6.out) (fun k_ hk => .inl (.inl hk)))
   clear hv6 hb6 C5 HB5
   obtain ⟨n7, hn7⟩ : ∃ n, n = i + 1 := ⟨_, rfl⟩
   have HN7 := Aside0.mk hn7
   clear hn7
   go_wp2_with ((with_reducible refine gate_builtin (b := .append) (xs := #[.tmp 43, .tmp 48]) rfl ?_); at_builtin; refine View.V_append k79 rfl (.tmp 43) (.tmp 48) 37 79 (.agg #[(.string ⟨#[]⟩), (.slice none 0 0)]) 40 rfl Tryz.underlying37 info79 rfl (by decide) (by omega) A0 i (l0.take i) [(⟨a1, l2⟩ : E)] (some ⟨w6.heap.size, 0, none⟩) 1 1 (fun k_ => (P0_ k_ ∨ w.heap.size ≤ k_) ∨ w6.heap.size ≤ k_) rfl rfl HLX.out.symm rfl (Kd.F_alloc HX6.out _) HF6.out (by rw [HLX.out]; simp; omega) ?_; intro v7 w7 hv7 hb7; have HB7 := Aside0.mk (below_step (below_alloc HB6.out _) hb7); clear hb7; obtain ⟨A7, c7, rfl⟩ := Kd.V_slice hv7; have hlen7 : (l0.take i ++ [(⟨a1, l2⟩ : E)]).length = n7 := (by rw [List.length_append, HLX.out, HN7.out]; rfl); have hc7 : n7 ≤ c7 := (by have := (Kd.V_at hv7).2.1; omega); have HV7 := Aside0.mk (Kd.V_mono (ok' := fun k_ => P0_ k_ ∨ w.heap.size ≤ k_) hv7 (fun k_ hk => by have h6 := HB6.out.size; rcases hk with (hk | hk) | hk; exact hk; exact .inr (by omega); exact .inr (by simp at hk; omega))); clear hv7; rw [hlen7] at HV7; rw [hlen7]; have HL7 := Aside0.mk hlen7; clear hlen7)
   go_region_law (refine View.V_append_step k79 rfl (.tmp 55) (.tmp 58) 37 79 (.agg #[(.string ⟨#[]⟩), (.slice none 0 0)]) 40 rfl Tryz.underlying37 info79 rfl (by decide) (by omega) A7 n7 ((l0.take i ++ [(⟨a1, l2⟩ : E)])) (l0.drop i) (if c0 = i then A0 else A0.map (·.add (i * 2))) (l0.length - i) (c0 - i) (fun k_ => P0_ k_ ∨ w.heap.size ≤ k_) ?hs ?hx HL7.out.symm HLY.out.symm ?hX ?hY ?hL ?_; (case hs => first | (go_simp; done) | (go_simp; rfl)); (case hx => first | (go_simp; done) | (go_simp; rfl)); (case hX => exact (by rw [HL7.out]; exact Kd.V_F (Kd.V_below HV7.out (by repeat (first | exact Below.refl _ _ | apply pw_below_drewN | apply below_drew1))))); (case hY => exact Kd.F_mono (HY.out _ (by repeat (first | exact HB7.out | apply pw_below_drewN | apply below_drew1))) (fun _ h => .inl h)); (case hL => rw [HL7.out, HLY.out]; have := HN7.out; omega); intro v9 w9 hv9 hb9)
   generalize (if c0 = i then A0 else A0.map (fun x => x.add (i * 2))) = B9
   have HB9 := Aside0.mk (below_step (by repeat (first | exact HB7.out | apply pw_below_drewN | apply below_drew1)) hb9)
   obtain ⟨A9, c9, rfl⟩ := Kd.V_slice hv9
   have HV9 := Aside0.mk (Kd.V_mono (ok' := fun k_ => P0_ k_ ∨ w.heap.size ≤ k_) hv9 (fun k_ hk => hk.elim id (fun h => .inr (by refine Nat.le_trans (below_size ?_) h; exact (by repeat (first | exact HB7.out | apply pw_below_drewN | apply below_drew1))))))
   clear hv9 hb9
   have H61 := H60.out
   rw [show (l0.take i ++ new a1 l2 ++ l0.drop i) = (l0.take i ++ [(⟨a1, l2⟩ : E)]) ++ l0.drop i by simp [new, HL0.out]] at H61
   obtain ⟨n9, hn9⟩ : ∃ n, ((l0.take i ++ [(⟨a1, l2⟩ : E)]) ++ l0.drop i).length = n := ⟨_, rfl⟩
   rw [hn9] at H61
   have HN9 := Aside0.mk hn9
   rw [hn9]
   cases b60 with
   | true =>
    have hgt : 60 < n9 := by simpa using H61.symm
    have hgt1 : decide (60 < n9) = true := decide_eq_true hgt
    have hgt2 : decide ((n9 : Int) > 60) = true := decide_eq_true (by omega)
    clear H61 hn9
    go_wp2_with fail
    go_ret2
    rw [HR1.out, HR2'.out]
    exact ⟨_, rfl, Kd.V_nil _ _ _ _ _, HB9.out⟩
   | false =>
    have hgt : ¬ 60 < n9 := by simpa using H61.symm
    have hgt1 : decide (60 < n9) = false := decide_eq_false hgt
    have hgt2 : decide ((n9 : Int) > 60) = false := decide_eq_false (by omega)
    clear H61 hn9
    go_wp2_with fail
    go_ret2
    rw [HR1.out, HR2'.out]
    refine ⟨_, rfl, ?_, HB9.out⟩
    rw [← HN9.out]
    rw [if_neg (by simp), show (l0.take i ++ new a1 l2 ++ l0.drop i) = (l0.take i ++ [(⟨a1, l2⟩ : E)]) ++ l0.drop i by simp [new, HL0.out]]
    exact HV9.out
theorem put_any (P0_ : Nat → Prop) (A0 : Option Addr) (c0 : Nat) (l0 : List E) (a1 : ByteArray) (A2 : Option Addr) (c2 : Nat) (l2 : List V) (r1 : List E) (r2 : Int) (w : World)
  (hs0 : Kd.V k79 79 w w.heap.size (fun k_ => P0_ k_) (.slice A0 l0.length c0) l0) (hr2 : Kd.C k63 w A2 l2.length l2) (hc2 : l2.length ≤ c2) (hall : indexB l0 = true ∧ Name.keyB a1 = true ∧ chainB l2 = true) (h : putF l0 a1 l2 = some (r1, r2)) :
  Calls Tryz.prog 142 #[.slice A0 l0.length c0, .string a1, .slice A2 l2.length c2] w (Post P0_ w r1 r2) := by
 have h1 := Option.some.inj h
 unfold put at h1
 rw [if_pos hall] at h1
 refine taken P0_ A0 c0 l0 a1 A2 c2 l2 w hs0 hr2 hc2 hall.1 hall.2.1 hall.2.2 _ rfl _ (behind l0 a1) rfl ?_ (at_le_behind _ _) (behind_le _ _) _ rfl _ r1 r2 rfl ?_ ?_
 ·unfold behind
  by_cases hx : IdxE.idx (IdxE.has a1) l0 ≥ 0
  ·rw [if_pos hx, if_pos (by simpa using hx)]
   omega
  ·rw [if_neg hx, if_neg (by simpa using hx)]
 ·by_cases h6 : (putL l0 a1 l2).length > 60
  ·rw [if_pos h6] at h1
   rw [if_pos (by simpa [putL] using h6)]
   exact (congrArg Prod.fst h1).symm
  ·rw [if_neg h6] at h1
   rw [if_neg (by simpa [putL] using h6)]
   exact (congrArg Prod.fst h1).symm
 ·by_cases h6 : (putL l0 a1 l2).length > 60
  ·rw [if_pos h6] at h1
   rw [if_pos (by simpa [putL] using h6)]
   exact (congrArg Prod.snd h1).symm
  ·rw [if_neg h6] at h1
   rw [if_neg (by simpa [putL] using h6)]
   exact (congrArg Prod.snd h1).symm
end Go.Proofs.YtpccbmechgkogaaGreatDoor.Put
namespace Go.Proofs.YtpccbmechgkogaaGreatDoor.Vers
open Go.RowKit Go.Proofs.YtpccbmechgkogaaGreatDoor.P Go.Proofs.YtpccbmechgkogaaGreatDoorW.PrintWords Go.Proofs.YtpccbmechgkogaaGreatDoor.PureKit Go.Proofs.YtpccbmechgkogaaGreatDoor.BkSpec Go.Proofs.YtpccbmechgkogaaGreatDoor.Wk Go.Proofs.YtpccbmechgkogaaGreatDoor.IdxPut
abbrev kV := k63
def Does (R : List V → Int → Prop) (w : World) (e : Ending) (w' : World) : Prop :=
 ∃ (v : Value) (r : List V) (er : Int), e = .returned (.tuple #[v, .int .i64 er]) ∧ Kd.R kV 63 w' w.heap.size (fun _ => True) v r ∧ R r er ∧ Below w.heap.size w w'
def Then (b : B) (e : Int) (key : ByteArray) (R : List V → Int → Prop) (b' : B) (e' : Int) : Prop :=
 if e = 0 then ∃ r er, R r er ∧ if er = 0 then b' = ⟨b.f0, b.f1, (IdxSpec.put b.f2 key r).1, b.f3, b.f4⟩ ∧ e' = (IdxSpec.put b.f2 key r).2 else b' = b ∧ e' = er else b' = b ∧ e' = e
theorem then_zero {b b' : B} {e e' : Int} {key : ByteArray} {R : List V → Int → Prop} (h : Then b e key R b' e') (h0 : e' = 0) : e = 0 ∧ ∃ r, R r 0 ∧ (IdxSpec.put b.f2 key r).2 = 0 ∧ b' = ⟨b.f0, b.f1, (IdxSpec.put b.f2 key r).1, b.f3, b.f4⟩ ∧ IdxSpec.indexB b'.f2 = true := by
 unfold Then at h
 split at h
 ·rename_i he
  obtain ⟨r, er, hr, h⟩ := h
  split at h
  ·rename_i hz
   subst hz
   have hp : (IdxSpec.put b.f2 key r).2 = 0 := h.2.symm.trans h0
   refine ⟨he, r, hr, hp, h.1, ?_⟩
   rw [h.1]
   show IdxSpec.indexB (IdxSpec.put b.f2 key r).1 = true
   obtain ⟨_, _, _, _, h5⟩ := Get.put_ok hp
   rw [h5]
   exact (Get.index_putL hp).1
  ·rename_i hz; exact absurd (h.2.symm.trans h0) hz
 ·rename_i he; exact absurd (h.2.symm.trans h0) he
def Vers (w : World) (g : Nat) (ok : Nat → Prop) (b : B) (v3 : Value) (e : Int) (key : ByteArray) (R : List V → Int → Prop) (en : Ending) (w' : World) : Prop :=
 ∃ (b' : B) (v2 : Value) (e' : Int), en = .returned (.tuple #[]) ∧ At w' g (fun k => ok k ∨ w.heap.size ≤ k) b' v2 v3 e' ∧ Then b e key R b' e' ∧ w.grownBy w' (some g)
set_option maxRecDepth 100000 in
set_option maxHeartbeats 6400000 in
theorem versions_any (w : World) (g : Nat) (ok : Nat → Prop) (b : B) (v2 v3 : Value) (e : Int) (h : At w g ok b v2 v3 e) (hi : IdxSpec.indexB b.f2 = true) (key : ByteArray) (hkey : e = 0 → Name.keyB key = true) (f : Nat) (lb : Array Value) (eg : ∀ args w, (callFunc f args).run Tryz.prog w = .ok (.enter f args) w) (R : List V → Int → Prop) (hR : ∀ r, R r 0 → ChSpec.chainB r = true)
  (hd : ∀ (W : World) (A : Option Addr) (c : Nat), Below w.heap.size w W → Kd.C kV W A (getL b.f2 key).length (getL b.f2 key) → (getL b.f2 key).length ≤ c → Calls Tryz.prog f (#[.slice A (getL b.f2 key).length c] ++ lb) W (Does R W)) :
  Calls Tryz.prog 103 #[.pointer (some ⟨g, 0, none⟩), .string key, .func (.func f) #[] lb] w (Vers w g ok b v3 e key R) := by
 have H := Aside0.mk h
 have hz := fun j => blk_cell h.blk j
 have hf := fun j => blk_frozen h.blk j
 by_cases he : e = 0
 ·subst he
  obtain ⟨A2, c2, rfl, hc2, hF2⟩ := h.sl.r2
  have GT := Aside0.mk (fun (W : World) (hW : Below w.heap.size w W) => Get.get_any A2 c2 b.f2 key W hi (Kd.C_below (Kd.F_now hF2) hW) hc2)
  have HD := Aside0.mk hd
  have HALL := Aside0.mk (fun r hr => And.intro hi (And.intro (hkey rfl) (hR r hr)))
  clear h hd hF2 hi hkey hR
  go_enter Tryz.func103, Tryz.ntmps103
  go_wp2_with fail
  refine (GT.out _ (Below.refl _ _)).mono ?_
  rintro en w1 ⟨v1, rfl, hR1, hb1⟩
  obtain ⟨A1, c1, rfl, hc1, hC1⟩ := Kd.R_reads hR1
  have CD := HD.out w1 A1 c1 hb1 hC1 hc1
  have HB1 := Aside0.mk hb1
  have H1 := Aside0.mk (H.out.below hb1)
  clear hz hf GT HD hR1 hC1 hc1 hb1
  go_wp2_with fail
  refine CD.mono ?_
  rintro en w2 ⟨v2, r, er, rfl, hR2, hRel, hb2⟩
  have H2 := Aside0.mk (H1.out.below hb2)
  have HB2 := Aside0.mk (below_step HB1.out hb2)
  obtain ⟨A3, c3, rfl, hc3, hC3⟩ := Kd.R_reads hR2
  have HREL := Aside0.mk hRel
  clear CD H1 HB1 hR2 hRel hb2
  have hz := fun j => blk_cell H2.out.blk j
  have hf := fun j => blk_frozen H2.out.blk j
  by_cases hr : er = 0
  ·subst hr
   obtain ⟨⟨p1, p2⟩, hp⟩ : ∃ p, IdxSpec.put b.f2 key r = p := ⟨_, rfl⟩
   have PT := Put.put_any ok A2 c2 b.f2 key A3 c3 r p1 p2 w2 (show Kd.V kE 79 w2 w2.heap.size ok (.slice A2 b.f2.length c2) b.f2 from H2.out.sl.r2) hC3 hc3 (HALL.out _ HREL.out) (congrArg some hp)
   have HP := Aside0.mk hp
   clear hp
   clear hC3 hc3
   go_wp2_with (go_at_call 113; go_in)
   (first | go_end0 | ((try simp only [Exit.inBlock, Exit.then]); refine bodyPost_ret (results_none rfl _ _ _) rfl ?_))
   go_wp2_with fail
   refine PT.mono ?_
   rintro en w3 ⟨v4, rfl, hV, hb3⟩
   have hV2 : Rd kE w3 (fun k => ok k ∨ w.heap.size ≤ k) v4 p1 := Kd.V_mono (show Rd kE w3 _ v4 _ from hV) (fun k hk => hk.imp id (fun h => Nat.le_trans HB2.out.size h))
   obtain ⟨A4, c4, rfl⟩ := Kd.V_slice hV
   have HN : Aside0 (∀ k, (ok k ∨ w.heap.size ≤ k) → k ≠ g) := ⟨by
    have := H.out.lt
    rintro k (hk | hk)
    ·exact H.out.ne k hk
    ·omega⟩
   have H3 := Aside0.mk ((H2.out.below hb3).mono (fun k hk => .inl hk) HN.out)
   have HV := Aside0.mk hV2
   have HB3 := Aside0.mk (below_step HB2.out hb3)
   clear hV hV2 hb3 PT hz hf H2 HB2
   have hz := fun j => blk_cell H3.out.blk j
   have hf := fun j => blk_frozen H3.out.blk j
   go_wp2
   (first | go_end0 | ((try simp only [Exit.inBlock, Exit.then]); refine bodyPost_ret (results_none rfl _ _ _) rfl ?_))
   refine ⟨_, _, p2, rfl, (H3.out.set2 HV.out).setE p2, ?_, grown_then (grown_of_below HB3.out (some g)) ((grown_set w3 g 2 _).trans (grown_set _ g 5 _)) (.inr rfl)⟩
   unfold Then
   rw [if_pos rfl]
   exact ⟨r, 0, HREL.out, by rw [if_pos rfl, HP.out]; exact ⟨rfl, rfl⟩⟩
  ·have d1 : (er != 0) = true := bne_iff_ne.mpr hr
   have d2 : (er == 0) = false := beq_eq_false_iff_ne.mpr hr
   have HN := Aside0.mk hr
   clear hr
   go_wp2
   (first | go_end0 | ((try simp only [Exit.inBlock, Exit.then]); refine bodyPost_ret (results_none rfl _ _ _) rfl ?_))
   go_wp2
   (first | go_end0 | ((try simp only [Exit.inBlock, Exit.then]); refine bodyPost_ret (results_none rfl _ _ _) rfl ?_))
   refine ⟨b, _, er, rfl, (H2.out.setE er).mono (fun k hk => .inl hk) ?_, ?_, grown_then (grown_of_below HB2.out (some g)) (grown_set w2 g 5 _) (.inr rfl)⟩
   ·have := H.out.lt
    have := H.out.ne
    rintro k (hk | hk)
    ·exact H.out.ne k hk
    ·omega
   ·unfold Then
    rw [if_pos rfl]
    exact ⟨r, er, HREL.out, by rw [if_neg HN.out]; exact ⟨rfl, rfl⟩⟩
 ·have d1 : (e != 0) = true := bne_iff_ne.mpr he
  have HN := Aside0.mk he
  clear he h hd hi hkey hR
  go_enter Tryz.func103, Tryz.ntmps103
  go_wp2_with fail
  (first | go_end0 | ((try simp only [Exit.inBlock, Exit.then]); refine bodyPost_ret (results_none rfl _ _ _) rfl ?_))
  refine ⟨b, _, e, rfl, H.out.mono (fun k hk => .inl hk) ?_, ?_, World.grownBy.refl _ _⟩
  ·have := H.out.lt
   rintro k (hk | hk)
   ·exact H.out.ne k hk
   ·omega
  ·unfold Then
   rw [if_neg HN.out]
   exact ⟨rfl, rfl⟩
end Go.Proofs.YtpccbmechgkogaaGreatDoor.Vers
