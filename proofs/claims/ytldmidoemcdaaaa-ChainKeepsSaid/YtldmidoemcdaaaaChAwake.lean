/-
  layer 5: the chapter's examples (cellarerlaw05.awake).
-/
import Derived.Test.YtldmidoemcdaaaaChFn
import Derived.Outline
set_option linter.unusedVariables false
set_option linter.unusedSimpArgs false
namespace Go.Proofs.Ytldmidoemcdaaaa.ChAwake
open Go.RowKit Go.Proofs.Ytldmidoemcdaaaa.P Go.Proofs.YtldmidoemcdaaaaW.PrintWords Go.Proofs.YtldmidoemcdaaaaW.PrintLast Go.Proofs.YtldmidoemcdaaaaW.PrintMore Go.Proofs.Ytldmidoemcdaaaa.PureKit Go.Proofs.Ytldmidoemcdaaaa.ChSpec Go.Proofs.Ytldmidoemcdaaaa.ChChk Go.Proofs.Ytldmidoemcdaaaa.ChFn

abbrev a_ : ByteArray := ⟨#[97]⟩
abbrev b_ : ByteArray := ⟨#[98]⟩
theorem p1 : putF [] 1 ⟨1, a_, false, 0⟩ = ([⟨1, a_, false, 0⟩], 0) := by rfl
theorem p2 : putF [⟨1, a_, false, 0⟩] 1 ⟨2, b_, false, 0⟩ = ([⟨2, b_, false, 0⟩, ⟨1, a_, false, 0⟩], 0) := by rfl
theorem p3 : putF [] 0 ⟨0, a_, false, 0⟩ = ([⟨0, a_, false, 0⟩], 0) := by rfl
theorem p4 : putF [⟨0, a_, false, 0⟩] 0 ⟨0, b_, false, 0⟩ = ([⟨0, b_, false, 0⟩], 0) := by rfl
theorem e0 : (ByteArray.toList (⟨#[]⟩ : ByteArray)) = [] := by rw [ByteArray.toList_eq]
theorem may3 : mayB ⟨3, ⟨#[]⟩, true, 0⟩ = true := by unfold mayB; simp [e0]; decide
theorem p5 : delF [⟨2, b_, false, 0⟩, ⟨1, a_, false, 0⟩] 1 3 0 = ([⟨3, ⟨#[]⟩, true, 0⟩, ⟨2, b_, false, 0⟩, ⟨1, a_, false, 0⟩], 0) := by
  unfold delF
  rw [if_neg (by decide), if_neg (by decide)]
  unfold putF
  rw [if_pos ⟨by rfl, .inr (.inl rfl), may3, by rfl⟩]
  rfl
theorem c6 : chainB [⟨3, ⟨#[]⟩, true, 0⟩, ⟨2, b_, false, 0⟩, ⟨1, a_, false, 0⟩] = true := by
  unfold chainB
  rw [show ([⟨3, ⟨#[]⟩, true, 0⟩, ⟨2, b_, false, 0⟩, ⟨1, a_, false, 0⟩] : List V).all mayB = true by simp only [List.all_cons, may3, List.all_nil, Bool.true_and]; rfl]
  rfl
theorem p6 : getF [⟨3, ⟨#[]⟩, true, 0⟩, ⟨2, b_, false, 0⟩, ⟨1, a_, false, 0⟩] = (⟨3, ⟨#[]⟩, true, 0⟩, 13) := by
  unfold getF atF
  rw [if_pos c6]
  rfl
theorem p7 : dropF [⟨3, ⟨#[]⟩, true, 0⟩, ⟨2, b_, false, 0⟩, ⟨1, a_, false, 0⟩] 3 = ([⟨2, b_, false, 0⟩, ⟨1, a_, false, 0⟩], 0) := by
  unfold dropF
  rw [if_pos c6]
  rfl
theorem p8 : getF [⟨2, b_, false, 0⟩, ⟨1, a_, false, 0⟩] = (⟨2, b_, false, 0⟩, 0) := by rfl

set_option maxRecDepth 100000 in
set_option maxHeartbeats 6400000 in
theorem awake_any (w : World) : Calls Try.prog 19 #[] w fun e w' => e = .returned (.bool true) ∧ Below w.heap.size w w' := by
  have hu := Try.underlying25
  obtain ⟨k5, h5⟩ := (del_is [⟨2, b_, false, 0⟩, ⟨1, a_, false, 0⟩] 1 3 0 (by decide)).rounds
  obtain ⟨k6, h6⟩ := (get_is [⟨3, ⟨#[]⟩, true, 0⟩, ⟨2, b_, false, 0⟩, ⟨1, a_, false, 0⟩]).rounds
  obtain ⟨k7, h7⟩ := (drop_is [⟨3, ⟨#[]⟩, true, 0⟩, ⟨2, b_, false, 0⟩, ⟨1, a_, false, 0⟩] 3).rounds
  obtain ⟨k8, h8⟩ := (get_is [⟨2, b_, false, 0⟩, ⟨1, a_, false, 0⟩]).rounds
  rw [p5] at h5
  rw [p6] at h6
  rw [p7] at h7
  rw [p8] at h8
  have H1 := Aside0.mk ((put_is [] 1 ⟨1, a_, false, 0⟩ (by decide)).trans (congrArg some p1))
  have H2 := Aside0.mk ((put_is [⟨1, a_, false, 0⟩] 1 ⟨2, b_, false, 0⟩ (by decide)).trans (congrArg some p2))
  have H3 := Aside0.mk ((put_is [] 0 ⟨0, a_, false, 0⟩ (by decide)).trans (congrArg some p3))
  have H4 := Aside0.mk ((put_is [⟨0, a_, false, 0⟩] 0 ⟨0, b_, false, 0⟩ (by decide)).trans (congrArg some p4))
  have H5 := Aside0.mk h5
  have H6 := Aside0.mk h6
  have H7 := Aside0.mk h7
  have H8 := Aside0.mk h8
  clear h5 h6 h7 h8
  go_enter Try.func19, Try.ntmps19
  go_wp2_with fail
  refine (chain_Put.calls none 0 [] 1 1 a_ false 0 _ _ _ (Kd.C_nil _ _) (Nat.le_refl _) H1.out).mono ?_
  rintro e w1 ⟨v1, rfl, hR1, hb⟩
  have HB1 := Aside0.mk hb
  obtain ⟨A1, c1, rfl⟩ := Kd.R_slice hR1
  have HR1 := Aside0.mk (Kd.R_reads' hR1).2
  clear hb hR1 H1
  go_wp2_with fail
  refine (chain_Put.calls A1 c1 _ 1 2 b_ false 0 _ _ _ HR1.out.2 HR1.out.1 H2.out).mono ?_
  rintro e w2 ⟨v2, rfl, hR2, hb⟩
  have HB2 := Aside0.mk (below_step HB1.out hb)
  obtain ⟨A2, c2, rfl⟩ := Kd.R_slice hR2
  have HR2 := Aside0.mk (Kd.R_reads' hR2).2
  clear hb hR2 H2 HR1 HB1
  go_wp2_with fail
  refine (chain_Put.calls none 0 [] 0 0 a_ false 0 _ _ _ (Kd.C_nil _ _) (Nat.le_refl _) H3.out).mono ?_
  rintro e w3 ⟨v3, rfl, hR3, hb⟩
  have HB3 := Aside0.mk (below_step HB2.out hb)
  obtain ⟨A3, c3, rfl⟩ := Kd.R_slice hR3
  have HR3 := Aside0.mk (Kd.R_reads' hR3).2
  have HR23 := Aside0.mk (Kd.C_below HR2.out.2 hb)
  have HC2 := Aside0.mk HR2.out.1
  clear hb hR3 H3 HB2 HR2
  go_wp2_with fail
  refine (chain_Put.calls A3 c3 _ 0 0 b_ false 0 _ _ _ HR3.out.2 HR3.out.1 H4.out).mono ?_
  rintro e w4 ⟨v4, rfl, hR4, hb⟩
  have HB4 := Aside0.mk (below_step HB3.out hb)
  obtain ⟨A4, c4, rfl⟩ := Kd.R_slice hR4
  have HR24 := Aside0.mk (Kd.C_below HR23.out hb)
  clear hb hR4 H4 HB3 HR23 HR3
  go_wp2_with fail
  refine (chain_Delete.calls k5 A2 c2 _ 1 3 0 _ _ _ HR24.out HC2.out H5.out).mono ?_
  rintro e w5 ⟨v5, rfl, hR5, hb⟩
  have HB5 := Aside0.mk (below_step HB4.out hb)
  obtain ⟨A5, c5, rfl⟩ := Kd.R_slice hR5
  have HR5 := Aside0.mk (Kd.R_reads' hR5).2
  clear hb hR5 H5 HB4 HR24 HC2
  go_wp2_with fail
  refine (chain_Get.calls k6 A5 c5 _ _ _ _ _ _ _ HR5.out.2 HR5.out.1 H6.out).mono ?_
  rintro e w6 ⟨rfl, hb⟩
  have HB6 := Aside0.mk (below_step HB5.out hb)
  have HR6 := Aside0.mk (Kd.C_below HR5.out.2 hb)
  have HC6 := Aside0.mk HR5.out.1
  clear hb HB5 HR5 H6
  go_wp2_with fail
  refine (chain_Drop.calls k7 A5 c5 _ 3 _ _ _ (Kd.C_below HR6.out (by repeat (first | exact Below.refl _ _ | apply below_alloc | apply below_drew1))) HC6.out H7.out).mono ?_
  rintro e w7 ⟨v7, rfl, hR7, hb⟩
  have HB7 := Aside0.mk (below_step (by repeat (first | exact HB6.out | apply below_alloc | apply below_drew1)) hb)
  obtain ⟨A7, c7, rfl⟩ := Kd.R_slice hR7
  have HR7 := Aside0.mk (Kd.R_reads' hR7).2
  clear hb HB6 HR6 HC6 hR7 H7
  go_wp2_with fail
  refine (chain_Get.calls k8 A7 c7 _ _ _ _ _ _ _ HR7.out.2 HR7.out.1 H8.out).mono ?_
  rintro e w8 ⟨rfl, hb⟩
  have HB8 := Aside0.mk (below_step HB7.out hb)
  clear hb HB7 HR7 H8
  go_wp2_with fail
  go_ret
  exact ⟨by simp, by repeat (first | exact HB8.out | apply below_alloc | apply below_drew1)⟩
end Go.Proofs.Ytldmidoemcdaaaa.ChAwake
