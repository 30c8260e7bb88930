/- Printed by a program of this session (wip/tools/gprint.py, over the kit's print) out of the translation: functions and their contracts. -/
import Derived.Test.YtcnnijkgiioniaaPx0
import Derived.Test.YtcnnijkgiioniaaPx2
import Derived.Test.YtcnnijkgiioniaaPx4
import Derived.Test.YtcnnijkgiioniaaPx5
import Derived.Test.YtcnnijkgiioniaaPx7
import Derived.Test.YtcnnijkgiioniaaPx9
import Derived.Test.YtcnnijkgiioniaaPx10
import Derived.Test.YtcnnijkgiioniaaPxOpens
namespace Go.Proofs.Ytcnnijkgiioniaa.P
open Go.RowKit Go.Proofs.YtcnnijkgiioniaaW.PrintWords Go.Proofs.YtcnnijkgiioniaaW.PrintLast Go.Proofs.YtcnnijkgiioniaaW.PrintMore
attribute [local go_sem] max2_int min2_int max_two min_two max_three min_three max_four min_four   -- for this text's walks alone
set_option linter.unusedVariables false
set_option linter.unusedSimpArgs false

/-! ### cellarerlaw07_PagerPlain: function 5 -/
mutual
def cellarerlaw07_PagerPlain.j0 : Nat → List (S50) → ByteArray → List ByteArray → Int → Int → Bool → List ByteArray → List ByteArray → Bool → ByteArray → Option (Bool)
  | 0, _, _, _, _, _, _, _, _, _, _ => none
  | k + 1, x0, x1, x5, x6, x8, x32, x329000, x329001, x329002, x329003 => if x32 = true then (if x6 = x8 then (if (x5.length : Int) = 0 then ((cellarerlaw07_awake.f).bind fun t329 => (some t329)) else (some false)) else (some false)) else (cellarerlaw07_PagerPlain.l0 k x0 x1 x5 ([] : List ByteArray) 0 x329000 x329001 x329002 x329003)
def cellarerlaw07_PagerPlain.l0 : Nat → List (S50) → ByteArray → List ByteArray → List ByteArray → Int → List ByteArray → List ByteArray → Bool → ByteArray → Option (Bool)
  | 0, _, _, _, _, _, _, _, _, _ => none
  | k + 1, x0, x1, x5, x9, x10, x329000, x329001, x329002, x329003 => if x10 < (x0.length : Int) then (if 0 ≤ x10 then ((cellarerref01_Under.f ((rd_T50 x0 x10).f0) x1).bind fun t331 => (if t331 = true then (if 0 < (((rd_T50 x0 x10).f1).length : Int) then (if ((rd_T52 ((rd_T50 x0 x10).f1) 0).f2 = true) then (cellarerlaw07_PagerPlain.l0 k x0 x1 x5 x9 (wrap64 (x10 + 1)) x329000 x329001 x329002 x329003) else (if x9.length < 8796093022208 then (cellarerlaw07_PagerPlain.l0 k x0 x1 x5 (x9 ++ [(rd_T50 x0 x10).f0]) (wrap64 (x10 + 1)) x329000 x329001 x329002 x329003) else (none))) else (none)) else (cellarerlaw07_PagerPlain.l0 k x0 x1 x5 x9 (wrap64 (x10 + 1)) x329000 x329001 x329002 x329003))) else (none)) else ((cellarerref02_Same.f k x5 x9).bind fun t338 => (if t338 = true then ((cellarerref02_Same.f k x329000 x9).bind fun t339 => (if t339 = true then (if (x329001.length : Int) = 0 then (if x329002 = true then (some false) else ((cellarerlaw07_awake.f).bind fun t340 => (some t340))) else (some false)) else (some false))) else (some false)))
end
def cellarerlaw07_PagerPlain.f (k : Nat) (l0 : List (S50)) (a1 : ByteArray) : Option (Bool) := (cellarerlaw06_Few.f k l0).bind fun t311 => ((cellarerlaw01_Few.f a1).bind fun t314 => ((pager_Things.f k t311 t314 (⟨#[]⟩ : ByteArray)).bind fun bt315 => ((pager_Keys.f k t311 t314 (⟨#[]⟩ : ByteArray) (⟨#[]⟩ : ByteArray) 1000).bind fun bt319 => (if bt315.2 = 0 then (cellarerlaw07_PagerPlain.j0 k t311 t314 bt315.1 bt315.2 bt319.2.2.2.2 (bt319.2.2.2.2 != 0) bt319.1 bt319.2.1 bt319.2.2.1 bt319.2.2.2.1) else (cellarerlaw07_PagerPlain.j0 k t311 t314 bt315.1 bt315.2 bt319.2.2.2.2 true bt319.1 bt319.2.1 bt319.2.2.1 bt319.2.2.2.1)))))
theorem cellarerlaw07_PagerPlain.mono_l : ∀ k, (∀ y0 y1 y2 y3 y4 y5 y6 y7 y8 y9, LeO (cellarerlaw07_PagerPlain.j0 k y0 y1 y2 y3 y4 y5 y6 y7 y8 y9) (cellarerlaw07_PagerPlain.j0 (k + 1) y0 y1 y2 y3 y4 y5 y6 y7 y8 y9)) ∧ (∀ y0 y1 y2 y3 y4 y5 y6 y7 y8, LeO (cellarerlaw07_PagerPlain.l0 k y0 y1 y2 y3 y4 y5 y6 y7 y8) (cellarerlaw07_PagerPlain.l0 (k + 1) y0 y1 y2 y3 y4 y5 y6 y7 y8))
  | 0 => ⟨fun _ _ _ _ _ _ _ _ _ _ r h => by simp [cellarerlaw07_PagerPlain.j0] at h, fun _ _ _ _ _ _ _ _ _ r h => by simp [cellarerlaw07_PagerPlain.l0] at h⟩
  | k + 1 => by
    obtain ⟨ih0, ih1⟩ := cellarerlaw07_PagerPlain.mono_l k
    refine ⟨?_, ?_⟩
    · intro y0 y1 y2 y3 y4 y5 y6 y7 y8 y9
      unfold cellarerlaw07_PagerPlain.j0
      repeat' first
      | (with_reducible exact ih0 _ _ _ _ _ _ _ _ _ _)
      | (with_reducible exact ih1 _ _ _ _ _ _ _ _ _)
      | (with_reducible exact cellarerlaw06_Few.mono _ _)
      | (with_reducible exact cellarerref02_Same.mono _ _ _)
      | (with_reducible exact pager_Keys.mono _ _ _ _ _ _)
      | (with_reducible exact pager_Things.mono _ _ _ _)
      | (with_reducible exact LeO.refl _)
      | (with_reducible exact LeO.none _)
      | (with_reducible refine LeO.ite ?_ ?_)
      | (with_reducible refine LeO.bind ?_ (fun _ => ?_))
      | exact ih0 _ _ _ _ _ _ _ _ _ _
      | exact ih1 _ _ _ _ _ _ _ _ _
      | exact cellarerlaw06_Few.mono _ _
      | exact cellarerref02_Same.mono _ _ _
      | exact pager_Keys.mono _ _ _ _ _ _
      | exact pager_Things.mono _ _ _ _
      | exact LeO.none _
      | refine LeO.ite ?_ ?_
      | refine LeO.bind ?_ (fun _ => ?_)
    · intro y0 y1 y2 y3 y4 y5 y6 y7 y8
      unfold cellarerlaw07_PagerPlain.l0
      repeat' first
      | (with_reducible exact ih0 _ _ _ _ _ _ _ _ _ _)
      | (with_reducible exact ih1 _ _ _ _ _ _ _ _ _)
      | (with_reducible exact cellarerlaw06_Few.mono _ _)
      | (with_reducible exact cellarerref02_Same.mono _ _ _)
      | (with_reducible exact pager_Keys.mono _ _ _ _ _ _)
      | (with_reducible exact pager_Things.mono _ _ _ _)
      | (with_reducible exact LeO.refl _)
      | (with_reducible exact LeO.none _)
      | (with_reducible refine LeO.ite ?_ ?_)
      | (with_reducible refine LeO.bind ?_ (fun _ => ?_))
      | exact ih0 _ _ _ _ _ _ _ _ _ _
      | exact ih1 _ _ _ _ _ _ _ _ _
      | exact cellarerlaw06_Few.mono _ _
      | exact cellarerref02_Same.mono _ _ _
      | exact pager_Keys.mono _ _ _ _ _ _
      | exact pager_Things.mono _ _ _ _
      | exact LeO.none _
      | refine LeO.ite ?_ ?_
      | refine LeO.bind ?_ (fun _ => ?_)
theorem cellarerlaw07_PagerPlain.mono : ∀ a0 a1 k, LeO (cellarerlaw07_PagerPlain.f k a0 a1) (cellarerlaw07_PagerPlain.f (k + 1) a0 a1) := by
  intro a0 a1 k
  obtain ⟨ih0, ih1⟩ := cellarerlaw07_PagerPlain.mono_l k
  unfold cellarerlaw07_PagerPlain.f
  repeat' first
      | (with_reducible exact ih0 _ _ _ _ _ _ _ _ _ _)
      | (with_reducible exact ih1 _ _ _ _ _ _ _ _ _)
      | (with_reducible exact cellarerlaw06_Few.mono _ _)
      | (with_reducible exact cellarerref02_Same.mono _ _ _)
      | (with_reducible exact pager_Keys.mono _ _ _ _ _ _)
      | (with_reducible exact pager_Things.mono _ _ _ _)
      | (with_reducible exact LeO.refl _)
      | (with_reducible exact LeO.none _)
      | (with_reducible refine LeO.ite ?_ ?_)
      | (with_reducible refine LeO.bind ?_ (fun _ => ?_))
      | exact ih0 _ _ _ _ _ _ _ _ _ _
      | exact ih1 _ _ _ _ _ _ _ _ _
      | exact cellarerlaw06_Few.mono _ _
      | exact cellarerref02_Same.mono _ _ _
      | exact pager_Keys.mono _ _ _ _ _ _
      | exact pager_Things.mono _ _ _ _
      | exact LeO.none _
      | refine LeO.ite ?_ ?_
      | refine LeO.bind ?_ (fun _ => ?_)
set_option maxHeartbeats 8000000 in
set_option maxRecDepth 100000 in
theorem cellarerlaw07_PagerPlain.calls (k : Nat) (A0 : Option Addr) (c0 : Nat) (l0 : List (S50)) (a1 : ByteArray) (r : Bool) (w : World) (hr0 : Kd.C k50 w A0 l0.length l0) (hc0 : l0.length ≤ c0) (h : cellarerlaw07_PagerPlain.f k l0 a1 = some r) :
  Calls Try.prog 5 #[.slice A0 l0.length c0, .string a1] w fun e w' => e = .returned (.bool r) ∧ Below w.heap.size w w' := by
 have hu29 := Try.underlying29
 have HR0 := Aside0.mk hr0
 have HC0 := Aside0.mk hc0
 clear hr0 hc0
 have HB := Aside0.mk (Below.refl w.heap.size w)
 have H : ((cellarerlaw06_Few.f k l0).bind fun t311 => ((cellarerlaw01_Few.f a1).bind fun t314 => ((pager_Things.f k t311 t314 (⟨#[]⟩ : ByteArray)).bind fun bt315 => ((pager_Keys.f k t311 t314 (⟨#[]⟩ : ByteArray) (⟨#[]⟩ : ByteArray) 1000).bind fun bt319 => (if bt315.2 = 0 then (cellarerlaw07_PagerPlain.j0 k t311 t314 bt315.1 bt315.2 bt319.2.2.2.2 (bt319.2.2.2.2 != 0) bt319.1 bt319.2.1 bt319.2.2.1 bt319.2.2.2.1) else (cellarerlaw07_PagerPlain.j0 k t311 t314 bt315.1 bt315.2 bt319.2.2.2.2 true bt319.1 bt319.2.1 bt319.2.2.1 bt319.2.2.2.1)))))) = some r := h
 clear h
 replace H := Option.bind_eq_some_iff.mp H
 obtain ⟨t311, A30, H⟩ := H
 replace H : ((cellarerlaw01_Few.f a1).bind fun t314 => ((pager_Things.f k t311 t314 (⟨#[]⟩ : ByteArray)).bind fun bt315 => ((pager_Keys.f k t311 t314 (⟨#[]⟩ : ByteArray) (⟨#[]⟩ : ByteArray) 1000).bind fun bt319 => (if bt315.2 = 0 then (cellarerlaw07_PagerPlain.j0 k t311 t314 bt315.1 bt315.2 bt319.2.2.2.2 (bt319.2.2.2.2 != 0) bt319.1 bt319.2.1 bt319.2.2.1 bt319.2.2.2.1) else (cellarerlaw07_PagerPlain.j0 k t311 t314 bt315.1 bt315.2 bt319.2.2.2.2 true bt319.1 bt319.2.1 bt319.2.2.1 bt319.2.2.2.1))))) = some r := H
 have A3 := Aside0.mk A30
 clear A30
 replace H := Option.bind_eq_some_iff.mp H
 obtain ⟨t314, A40, H⟩ := H
 replace H : ((pager_Things.f k t311 t314 (⟨#[]⟩ : ByteArray)).bind fun bt315 => ((pager_Keys.f k t311 t314 (⟨#[]⟩ : ByteArray) (⟨#[]⟩ : ByteArray) 1000).bind fun bt319 => (if bt315.2 = 0 then (cellarerlaw07_PagerPlain.j0 k t311 t314 bt315.1 bt315.2 bt319.2.2.2.2 (bt319.2.2.2.2 != 0) bt319.1 bt319.2.1 bt319.2.2.1 bt319.2.2.2.1) else (cellarerlaw07_PagerPlain.j0 k t311 t314 bt315.1 bt315.2 bt319.2.2.2.2 true bt319.1 bt319.2.1 bt319.2.2.1 bt319.2.2.2.1)))) = some r := H
 have A4 := Aside0.mk A40
 clear A40
 replace H := Option.bind_eq_some_iff.mp H
 obtain ⟨⟨t315, t316⟩, A50, H⟩ := H
 replace H : ((pager_Keys.f k t311 t314 (⟨#[]⟩ : ByteArray) (⟨#[]⟩ : ByteArray) 1000).bind fun bt319 => (if t316 = 0 then (cellarerlaw07_PagerPlain.j0 k t311 t314 t315 t316 bt319.2.2.2.2 (bt319.2.2.2.2 != 0) bt319.1 bt319.2.1 bt319.2.2.1 bt319.2.2.2.1) else (cellarerlaw07_PagerPlain.j0 k t311 t314 t315 t316 bt319.2.2.2.2 true bt319.1 bt319.2.1 bt319.2.2.1 bt319.2.2.2.1))) = some r := H
 have A5 := Aside0.mk A50
 clear A50
 replace H := Option.bind_eq_some_iff.mp H
 obtain ⟨⟨t319, t322, t325, t326, t327⟩, A60, H⟩ := H
 replace H : (if t316 = 0 then (cellarerlaw07_PagerPlain.j0 k t311 t314 t315 t316 t327 (t327 != 0) t319 t322 t325 t326) else (cellarerlaw07_PagerPlain.j0 k t311 t314 t315 t316 t327 true t319 t322 t325 t326)) = some r := H
 have A6 := Aside0.mk A60
 clear A60
 have HC7 := Aside0.mk H
 clear H
 go_enter Try.func5, Try.ntmps5
 go_upto_region 4 with (first | ((with_reducible refine gate_callee (f := 19) rfl ?_); refine goesL_ (some 12) rfl rfl Try.func19 (by kernel_rfl) rfl #[.slice A0 l0.length c0] rfl (by (try simp only [List.map_toArray, List.map_cons, List.map_nil]); first | done | rfl | (simp only [List.length_drop, List.length_take]; rfl)) ?_; (with_reducible refine (cellarerlaw06_Few.calls k _ _ l0 t311 _ ?side1 ?side2 A3.out).mono ?_); (case side1 => repeat (first | exact HR0.out | (with_reducible refine Kd.C_alloc ?_ _) | (with_reducible refine Kd.C_drewN ?_ _) | (with_reducible refine Kd.C_drew ?_))); (case side2 => exact HC0.out); rintro e w8 ⟨v312, rfl, ho0, hb⟩; refine ⟨_, rfl, ?_⟩; have n0_ := Aside0.mk (Kd.S_lower ho0 (below_size (by repeat (first | (with_reducible first | exact HB.out | apply below_alloc | apply pw_below_drewN | apply below_drew1) | exact HB.out)))); have n1_ := Aside0.mk (below_step (by repeat (first | (with_reducible first | exact HB.out | apply below_alloc | apply pw_below_drewN | apply below_drew1) | exact HB.out)) hb); clear HB; have HO313 := n0_; have HB := n1_; clear n0_ n1_; (try clear hb); (try clear hb2); (try clear hk); (try clear hi); (try clear ho0)) | ((with_reducible refine gate_callee (f := 20) rfl ?_); refine goesL_ (some 14) rfl rfl Try.func20 (by kernel_rfl) rfl #[.string a1] rfl (by (try simp only [List.map_toArray, List.map_cons, List.map_nil]); first | done | rfl | (simp only [List.length_drop, List.length_take]; rfl)) ?_; (with_reducible refine (cellarerlaw01_Few.calls a1 t314 _ A4.out).mono ?_); rintro e w' ⟨rfl, ⟨nd, rfl⟩⟩; refine ⟨_, rfl, ?_⟩; (try (rw [drewN_self w8]; generalize hq_ : World.drewN w8 _ = w8; have n0_ : Aside0 (Kd.S k50 50 w8 w.heap.size (fun _ => True) v312 t311) := ⟨by rw [← hq_]; exact (by (with_reducible repeat (first | apply Kd.S_alloc | apply Kd.S_drewN | apply Kd.S_drew)); exact HO313.out)⟩; have n1_ : Aside0 (Below w.heap.size w w8) := ⟨by rw [← hq_]; exact (by repeat (first | (with_reducible first | exact HB.out | apply below_alloc | apply pw_below_drewN | apply below_drew1) | exact HB.out))⟩; clear HO313 HB hq_; have HO313 := n0_; have HB := n1_; clear n0_ n1_)); obtain ⟨Ao9, co9, eo9⟩ := Kd.S_slice HO313.out; subst eo9) | ((with_reducible refine gate_callee (f := 12) rfl ?_); refine goesL_ (some 18) rfl rfl Try.func12 (by kernel_rfl) rfl #[.slice Ao9 t311.length co9, .string t314, .string (⟨#[]⟩ : ByteArray)] rfl (by (try simp only [List.map_toArray, List.map_cons, List.map_nil]); first | done | rfl | (simp only [List.length_drop, List.length_take]; rfl)) ?_; (with_reducible refine (pager_Things.calls k _ _ t311 t314 (⟨#[]⟩ : ByteArray) t315 t316 _ ?side1 ?side2 A5.out).mono ?_); (case side1 => repeat (first | exact (Kd.S_reads' HO313.out).2.2 | (with_reducible refine Kd.C_alloc ?_ _) | (with_reducible refine Kd.C_drewN ?_ _) | (with_reducible refine Kd.C_drew ?_))); (case side2 => exact (Kd.S_reads' HO313.out).2.1); rintro e w10 ⟨v317, rfl, ho0, hb⟩; refine ⟨_, rfl, ?_⟩; have n0_ := Aside0.mk (Kd.S_below (by (with_reducible repeat (first | apply Kd.S_alloc | apply Kd.S_drewN | apply Kd.S_drew)); exact HO313.out) hb); have n1_ := Aside0.mk (Kd.R_lower ho0 (below_size (by repeat (first | (with_reducible first | exact HB.out | apply below_alloc | apply pw_below_drewN | apply below_drew1) | exact HB.out)))); have n2_ := Aside0.mk (below_step (by repeat (first | (with_reducible first | exact HB.out | apply below_alloc | apply pw_below_drewN | apply below_drew1) | exact HB.out)) hb); clear HO313; clear HB; have HO313 := n0_; have HO318 := n1_; have HB := n2_; clear n0_ n1_ n2_; (try clear hb); (try clear hb2); (try clear hk); (try clear hi); (try clear ho0)) | ((with_reducible refine gate_callee (f := 11) rfl ?_); refine goesL_ (some 24) rfl rfl Try.func11 (by kernel_rfl) rfl #[.slice Ao9 t311.length co9, .string t314, .string (⟨#[]⟩ : ByteArray), .string (⟨#[]⟩ : ByteArray), .int .i64 1000] rfl (by (try simp only [List.map_toArray, List.map_cons, List.map_nil]); first | done | rfl | (simp only [List.length_drop, List.length_take]; rfl)) ?_; (with_reducible refine (pager_Keys.calls k _ _ t311 t314 (⟨#[]⟩ : ByteArray) (⟨#[]⟩ : ByteArray) 1000 t319 t322 t325 t326 t327 _ ?side1 ?side2 A6.out).mono ?_); (case side1 => repeat (first | exact (Kd.S_reads' HO313.out).2.2 | (with_reducible refine Kd.C_alloc ?_ _) | (with_reducible refine Kd.C_drewN ?_ _) | (with_reducible refine Kd.C_drew ?_))); (case side2 => exact (Kd.S_reads' HO313.out).2.1); rintro e w11 ⟨v320, v323, rfl, ho0, ho1, hb⟩; refine ⟨_, rfl, ?_⟩; have n0_ := Aside0.mk (Kd.S_below (by (with_reducible repeat (first | apply Kd.S_alloc | apply Kd.S_drewN | apply Kd.S_drew)); exact HO313.out) hb); have n1_ := Aside0.mk (Kd.R_mono (Kd.R_told (Kd.R_told (Kd.R_old (by (with_reducible repeat (first | apply Kd.R_alloc | apply Kd.R_drewN | apply Kd.R_drew)); exact HO318.out) hb) (Kd.R_base ho0)) (Kd.R_base ho1)) (fun _ h_ => h_.1)); have n2_ := Aside0.mk (Kd.R_lower (Kd.R_new' ho0 (Kd.R_lt (by (with_reducible repeat (first | apply Kd.R_alloc | apply Kd.R_drewN | apply Kd.R_drew)); exact HO318.out))) (below_size (by repeat (first | (with_reducible first | exact HB.out | apply below_alloc | apply pw_below_drewN | apply below_drew1) | exact HB.out)))); have n3_ := Aside0.mk (Kd.R_lower (Kd.R_new' ho1 (Kd.R_lt (by (with_reducible repeat (first | apply Kd.R_alloc | apply Kd.R_drewN | apply Kd.R_drew)); exact HO318.out))) (below_size (by repeat (first | (with_reducible first | exact HB.out | apply below_alloc | apply pw_below_drewN | apply below_drew1) | exact HB.out)))); have n4_ := Aside0.mk (below_step (by repeat (first | (with_reducible first | exact HB.out | apply below_alloc | apply pw_below_drewN | apply below_drew1) | exact HB.out)) hb); clear HO313; clear HO318; clear HB; have HO313 := n0_; have HO318 := n1_; have HO321 := n2_; have HO324 := n3_; have HB := n4_; clear n0_ n1_ n2_ n3_ n4_; (try clear hb); (try clear hb2); (try clear hk); (try clear hi); (try clear ho0); (try clear ho1)) | ((with_reducible refine gate_dst (N := 7) rfl ?_); (try (refine gate_guard (by rfl) ?_; dsimp only)); refine box_event ?hg (N := 7) ?hd (cs := #[.slice none 0 0, .slice none 0 0, .bool false, .string (⟨#[]⟩ : ByteArray)]) (t := 29) ?hr ?_; (case hd => rfl); (case hg => rfl); (case hr => first | (go_simp; done) | (go_simp; rfl)); intro gb328 hg w12 hbox hb; have n0_ := Aside0.mk (Kd.S_below (by (with_reducible repeat (first | apply Kd.S_alloc | apply Kd.S_drewN | apply Kd.S_drew)); exact HO313.out) hb); have n1_ := Aside0.mk (Kd.R_below (by (with_reducible repeat (first | apply Kd.R_alloc | apply Kd.R_drewN | apply Kd.R_drew)); exact HO318.out) hb); have n2_ := Aside0.mk (Kd.R_below (by (with_reducible repeat (first | apply Kd.R_alloc | apply Kd.R_drewN | apply Kd.R_drew)); exact HO321.out) hb); have n3_ := Aside0.mk (Kd.R_below (by (with_reducible repeat (first | apply Kd.R_alloc | apply Kd.R_drewN | apply Kd.R_drew)); exact HO324.out) hb); have n4_ := Aside0.mk (below_step (by repeat (first | (with_reducible first | exact HB.out | apply below_alloc | apply pw_below_drewN | apply below_drew1) | exact HB.out)) hb); have n5_ := Aside0.mk (hbox); have n6_ := Aside0.mk ((by rw [hg]; exact (below_size (by repeat (first | (with_reducible first | exact HB.out | apply below_alloc | apply pw_below_drewN | apply below_drew1) | exact HB.out))) : w.heap.size ≤ gb328)); have n7_ := Aside0.mk ((by rw [hg]; exact (below_size (by repeat (first | (with_reducible first | exact HB.out | apply below_alloc | apply pw_below_drewN | apply below_drew1) | exact HB.out))) : w.heap.size ≤ gb328)); clear HO313; clear HO318; clear HO321; clear HO324; clear HB; have HO313 := n0_; have HO318 := n1_; have HO321 := n2_; have HO324 := n3_; have HB := n4_; have BK328 := n5_; have GW328 := n6_; have GE328 := n7_; clear n0_ n1_ n2_ n3_ n4_ n5_ n6_ n7_; clear hb hbox hg; obtain ⟨Ao13, co13, eo13⟩ := Kd.R_slice HO321.out; subst eo13; have hcz14_0 : w12.cell? ⟨gb328, 0, none⟩ = some (.slice none 0 0) := (blk_cell BK328.out 0).trans rfl; have hcz14_1 : w12.cell? ⟨gb328, 1, none⟩ = some (.slice none 0 0) := (blk_cell BK328.out 1).trans rfl; have hcz14_2 : w12.cell? ⟨gb328, 2, none⟩ = some (.bool false) := (blk_cell BK328.out 2).trans rfl; have hcz14_3 : w12.cell? ⟨gb328, 3, none⟩ = some (.string (⟨#[]⟩ : ByteArray)) := (blk_cell BK328.out 3).trans rfl; have hfz14_0 := blk_frozen BK328.out 0; have hfz14_1 := blk_frozen BK328.out 1; have hfz14_2 := blk_frozen BK328.out 2; have hfz14_3 := blk_frozen BK328.out 3; obtain ⟨Ao15, co15, eo15⟩ := Kd.R_slice HO324.out; subst eo15))
 (try simp only [Act.put, List.setIfInBounds_toArray, List.set_cons_zero, List.set_cons_succ])
 go_cut [32] (fun v32 wc => ∃ (kq : Nat) (x32_6 : Bool), v32 = .bool x32_6 ∧ Aside0 (cellarerlaw07_PagerPlain.j0 kq t311 t314 t315 t316 t327 x32_6 t319 t322 t325 t326 = some r) ∧ Aside0 (kq ≤ k) ∧ Aside0 (Kd.S k50 50 wc w.heap.size (fun _ => True) (.slice Ao9 t311.length co9) t311) ∧ Aside0 (Kd.R Kd.string 9 wc w.heap.size (fun k_ => some k_ ≠ ((.slice Ao13 t319.length co13) : Value).ownBlock ∧ some k_ ≠ ((.slice Ao15 t322.length co15) : Value).ownBlock) v317 t315) ∧ Aside0 (Kd.R Kd.string 9 wc w.heap.size (fun k_ => some k_ ≠ (v317 : Value).ownBlock ∧ some k_ ≠ ((.slice Ao15 t322.length co15) : Value).ownBlock) (.slice Ao13 t319.length co13) t319) ∧ Aside0 (Kd.R Kd.string 9 wc w.heap.size (fun k_ => some k_ ≠ (v317 : Value).ownBlock ∧ some k_ ≠ ((.slice Ao13 t319.length co13) : Value).ownBlock) (.slice Ao15 t322.length co15) t322) ∧ Aside0 (wc.heap[gb328]? = some (.cells #[(.slice Ao13 t319.length co13), (.slice Ao15 t322.length co15), .bool t325, .string t326] 29 (0, 0))) ∧ Aside0 (Below w.heap.size w wc))
 case first =>
  have H := HC7.out
  clear HC7
  by_cases c16 : t316 = 0
  ·rw [if_pos c16] at H
   have c16b0 : (t316 == 0) = true := beq_iff_eq.mpr c16
   have c16b1 : (t316 != 0) = false := bne_eq_false_iff_eq.mpr c16
   clear c16
   (first | rw [c16b0] | rw [c16b1] | (simp only [i64_w, i32_w]; rw [c16b0]) | skip)
   have H' := Aside0.mk H
   clear H
   go_wp2
   go_meet
   case rel => exact ⟨_, ((t327 != 0)), (by first | rfl | (simp; done) | (simp [*]; done)), H', ⟨by first | omega | exact Nat.le_refl _⟩, ⟨by (with_reducible repeat (first | apply Kd.S_alloc | apply Kd.S_drewN | apply Kd.S_drew)); exact Kd.S_mono (Kd.S_far (p := ⟨gb328, 3, none⟩) (Kd.S_far (p := ⟨gb328, 2, none⟩) (Kd.S_far (p := ⟨gb328, 1, none⟩) (Kd.S_far (p := ⟨gb328, 0, none⟩) (Kd.S_types HO313.out BK328.out (by decide)) (fun _ hk => hk.2) (.slice Ao13 t319.length co13)) (fun _ hk => hk.2) (.slice Ao15 t322.length co15)) (fun _ hk => hk.2) (.bool t325)) (fun _ hk => hk.2) (.string t326)) (fun _ hk => trivial)⟩, ⟨by (with_reducible repeat (first | apply Kd.R_alloc | apply Kd.R_drewN | apply Kd.R_drew)); exact Kd.R_mono (Kd.R_far (p := ⟨gb328, 3, none⟩) (Kd.R_far (p := ⟨gb328, 2, none⟩) (Kd.R_far (p := ⟨gb328, 1, none⟩) (Kd.R_far (p := ⟨gb328, 0, none⟩) (Kd.R_types HO318.out BK328.out (by decide)) (fun _ hk => hk.2) (.slice Ao13 t319.length co13)) (fun _ hk => hk.2) (.slice Ao15 t322.length co15)) (fun _ hk => hk.2) (.bool t325)) (fun _ hk => hk.2) (.string t326)) (fun _ hk => ⟨hk.1.1.2, hk.1.2⟩)⟩, ⟨by (with_reducible repeat (first | apply Kd.R_alloc | apply Kd.R_drewN | apply Kd.R_drew)); exact Kd.R_mono (Kd.R_far (p := ⟨gb328, 3, none⟩) (Kd.R_far (p := ⟨gb328, 2, none⟩) (Kd.R_far (p := ⟨gb328, 1, none⟩) (Kd.R_far (p := ⟨gb328, 0, none⟩) (Kd.R_types HO321.out BK328.out (by decide)) (fun _ hk => hk.2) (.slice Ao13 t319.length co13)) (fun _ hk => hk.2) (.slice Ao15 t322.length co15)) (fun _ hk => hk.2) (.bool t325)) (fun _ hk => hk.2) (.string t326)) (fun _ hk => ⟨hk.1.2, hk.1.1⟩)⟩, ⟨by (with_reducible repeat (first | apply Kd.R_alloc | apply Kd.R_drewN | apply Kd.R_drew)); exact Kd.R_mono (Kd.R_far (p := ⟨gb328, 3, none⟩) (Kd.R_far (p := ⟨gb328, 2, none⟩) (Kd.R_far (p := ⟨gb328, 1, none⟩) (Kd.R_far (p := ⟨gb328, 0, none⟩) (Kd.R_types HO324.out BK328.out (by decide)) (fun _ hk => hk.2) (.slice Ao13 t319.length co13)) (fun _ hk => hk.2) (.slice Ao15 t322.length co15)) (fun _ hk => hk.2) (.bool t325)) (fun _ hk => hk.2) (.string t326)) (fun _ hk => ⟨hk.1.2, hk.1.1⟩)⟩, ⟨by (with_reducible repeat (first | refine blk_drewN ?_ _ | refine blk_drew ?_ | refine blk_alloc ?_ _)); refine blk_put (cs := #[.slice Ao13 t319.length co13, .slice Ao15 t322.length co15, .bool t325, .string (⟨#[]⟩ : ByteArray)]) ?_ 3 _ rfl; (with_reducible repeat (first | refine blk_drewN ?_ _ | refine blk_drew ?_ | refine blk_alloc ?_ _)); refine blk_put (cs := #[.slice Ao13 t319.length co13, .slice Ao15 t322.length co15, .bool false, .string (⟨#[]⟩ : ByteArray)]) ?_ 2 _ rfl; (with_reducible repeat (first | refine blk_drewN ?_ _ | refine blk_drew ?_ | refine blk_alloc ?_ _)); refine blk_put (cs := #[.slice Ao13 t319.length co13, .slice none 0 0, .bool false, .string (⟨#[]⟩ : ByteArray)]) ?_ 1 _ rfl; (with_reducible repeat (first | refine blk_drewN ?_ _ | refine blk_drew ?_ | refine blk_alloc ?_ _)); refine blk_put (cs := #[.slice none 0 0, .slice none 0 0, .bool false, .string (⟨#[]⟩ : ByteArray)]) ?_ 0 _ rfl; (with_reducible repeat (first | refine blk_drewN ?_ _ | refine blk_drew ?_ | refine blk_alloc ?_ _)); exact BK328.out⟩, ⟨by repeat (first | (with_reducible first | exact HB.out | apply below_alloc | apply pw_below_drewN | apply below_drew1 | refine below_set ?_ GE328.out) | exact HB.out)⟩⟩
  ·rw [if_neg c16] at H
   have c16b0 : (t316 == 0) = false := beq_eq_false_iff_ne.mpr c16
   have c16b1 : (t316 != 0) = true := bne_iff_ne.mpr c16
   (first | rw [c16b0] | rw [c16b1] | (simp only [i64_w, i32_w]; rw [c16b0]) | skip)
   have H' := Aside0.mk H
   clear H
   go_wp2
   go_meet
   case rel => exact ⟨_, (true), (by first | rfl | (simp; done) | (simp [*]; done)), H', ⟨by first | omega | exact Nat.le_refl _⟩, ⟨by (with_reducible repeat (first | apply Kd.S_alloc | apply Kd.S_drewN | apply Kd.S_drew)); exact Kd.S_mono (Kd.S_far (p := ⟨gb328, 3, none⟩) (Kd.S_far (p := ⟨gb328, 2, none⟩) (Kd.S_far (p := ⟨gb328, 1, none⟩) (Kd.S_far (p := ⟨gb328, 0, none⟩) (Kd.S_types HO313.out BK328.out (by decide)) (fun _ hk => hk.2) (.slice Ao13 t319.length co13)) (fun _ hk => hk.2) (.slice Ao15 t322.length co15)) (fun _ hk => hk.2) (.bool t325)) (fun _ hk => hk.2) (.string t326)) (fun _ hk => trivial)⟩, ⟨by (with_reducible repeat (first | apply Kd.R_alloc | apply Kd.R_drewN | apply Kd.R_drew)); exact Kd.R_mono (Kd.R_far (p := ⟨gb328, 3, none⟩) (Kd.R_far (p := ⟨gb328, 2, none⟩) (Kd.R_far (p := ⟨gb328, 1, none⟩) (Kd.R_far (p := ⟨gb328, 0, none⟩) (Kd.R_types HO318.out BK328.out (by decide)) (fun _ hk => hk.2) (.slice Ao13 t319.length co13)) (fun _ hk => hk.2) (.slice Ao15 t322.length co15)) (fun _ hk => hk.2) (.bool t325)) (fun _ hk => hk.2) (.string t326)) (fun _ hk => ⟨hk.1.1.2, hk.1.2⟩)⟩, ⟨by (with_reducible repeat (first | apply Kd.R_alloc | apply Kd.R_drewN | apply Kd.R_drew)); exact Kd.R_mono (Kd.R_far (p := ⟨gb328, 3, none⟩) (Kd.R_far (p := ⟨gb328, 2, none⟩) (Kd.R_far (p := ⟨gb328, 1, none⟩) (Kd.R_far (p := ⟨gb328, 0, none⟩) (Kd.R_types HO321.out BK328.out (by decide)) (fun _ hk => hk.2) (.slice Ao13 t319.length co13)) (fun _ hk => hk.2) (.slice Ao15 t322.length co15)) (fun _ hk => hk.2) (.bool t325)) (fun _ hk => hk.2) (.string t326)) (fun _ hk => ⟨hk.1.2, hk.1.1⟩)⟩, ⟨by (with_reducible repeat (first | apply Kd.R_alloc | apply Kd.R_drewN | apply Kd.R_drew)); exact Kd.R_mono (Kd.R_far (p := ⟨gb328, 3, none⟩) (Kd.R_far (p := ⟨gb328, 2, none⟩) (Kd.R_far (p := ⟨gb328, 1, none⟩) (Kd.R_far (p := ⟨gb328, 0, none⟩) (Kd.R_types HO324.out BK328.out (by decide)) (fun _ hk => hk.2) (.slice Ao13 t319.length co13)) (fun _ hk => hk.2) (.slice Ao15 t322.length co15)) (fun _ hk => hk.2) (.bool t325)) (fun _ hk => hk.2) (.string t326)) (fun _ hk => ⟨hk.1.2, hk.1.1⟩)⟩, ⟨by (with_reducible repeat (first | refine blk_drewN ?_ _ | refine blk_drew ?_ | refine blk_alloc ?_ _)); refine blk_put (cs := #[.slice Ao13 t319.length co13, .slice Ao15 t322.length co15, .bool t325, .string (⟨#[]⟩ : ByteArray)]) ?_ 3 _ rfl; (with_reducible repeat (first | refine blk_drewN ?_ _ | refine blk_drew ?_ | refine blk_alloc ?_ _)); refine blk_put (cs := #[.slice Ao13 t319.length co13, .slice Ao15 t322.length co15, .bool false, .string (⟨#[]⟩ : ByteArray)]) ?_ 2 _ rfl; (with_reducible repeat (first | refine blk_drewN ?_ _ | refine blk_drew ?_ | refine blk_alloc ?_ _)); refine blk_put (cs := #[.slice Ao13 t319.length co13, .slice none 0 0, .bool false, .string (⟨#[]⟩ : ByteArray)]) ?_ 1 _ rfl; (with_reducible repeat (first | refine blk_drewN ?_ _ | refine blk_drew ?_ | refine blk_alloc ?_ _)); refine blk_put (cs := #[.slice none 0 0, .slice none 0 0, .bool false, .string (⟨#[]⟩ : ByteArray)]) ?_ 0 _ rfl; (with_reducible repeat (first | refine blk_drewN ?_ _ | refine blk_drew ?_ | refine blk_alloc ?_ _)); exact BK328.out⟩, ⟨by repeat (first | (with_reducible first | exact HB.out | apply below_alloc | apply pw_below_drewN | apply below_drew1 | refine below_set ?_ GE328.out) | exact HB.out)⟩⟩
 case rest =>
  clear HC7
  try clear c1
  try clear c2
  try clear p2
  try clear c5
  try clear c11
  try clear c12
  try clear c16
  try clear c16b0
  try clear c16b1
  try clear hcz14_0
  try clear hcz14_1
  try clear hcz14_2
  try clear hcz14_3
  try clear hfz14_0
  try clear hfz14_1
  try clear hfz14_2
  try clear hfz14_3
  obtain ⟨kq, x32_6, rfl, HA, HJ6, HO_0, HO_5, HO_329000, HO_329001, BK328, HB⟩ := hcut
  cases kq with
  | zero => exact absurd HA.out (by simp [cellarerlaw07_PagerPlain.j0])
  | succ kj6 =>
   have H := HA.out
   clear HA
   simp only [cellarerlaw07_PagerPlain.j0] at H
   by_cases c17 : x32_6 = true
   ·subst c17
    have H1 : (if t316 = t327 then (if (t315.length : Int) = 0 then ((cellarerlaw07_awake.f).bind fun t329 => (some t329)) else (some false)) else (some false)) = some r := by rw [if_pos rfl] at H; exact H
    clear H
    have H := H1
    clear H1
    by_cases c18 : t316 = t327
    ·rw [if_pos c18] at H
     have c18b0 : (t316 == t327) = true := beq_iff_eq.mpr c18
     have c18b1 : (t316 != t327) = false := bne_eq_false_iff_eq.mpr c18
     clear c18
     by_cases c19 : (t315.length : Int) = 0
     ·rw [if_pos c19] at H
      have c19b0 : ((t315.length : Int) == 0) = true := beq_iff_eq.mpr c19
      have c19b1 : ((t315.length : Int) != 0) = false := bne_eq_false_iff_eq.mpr c19
      clear c19
      replace H := Option.bind_eq_some_iff.mp H
      obtain ⟨t329, A200, H⟩ := H
      replace H : (some t329) = some r := H
      have A20 := Aside0.mk A200
      clear A200
      obtain rfl := Option.some.inj H
      obtain ⟨Ao21, co21, eo21⟩ := Kd.R_slice HO_5.out
      subst eo21
      go_wp2_with (first | (go_at_call 14; (with_reducible refine (cellarerlaw07_awake.calls  t329 _ A20.out).mono ?_); rintro e w22 ⟨rfl, hb⟩; have n0_ := Aside0.mk (Kd.S_below (by (with_reducible repeat (first | apply Kd.S_alloc | apply Kd.S_drewN | apply Kd.S_drew)); exact HO_0.out) hb); have n1_ := Aside0.mk (Kd.R_below (by (with_reducible repeat (first | apply Kd.R_alloc | apply Kd.R_drewN | apply Kd.R_drew)); exact HO_5.out) hb); have n2_ := Aside0.mk (Kd.R_below (by (with_reducible repeat (first | apply Kd.R_alloc | apply Kd.R_drewN | apply Kd.R_drew)); exact HO_329000.out) hb); have n3_ := Aside0.mk (Kd.R_below (by (with_reducible repeat (first | apply Kd.R_alloc | apply Kd.R_drewN | apply Kd.R_drew)); exact HO_329001.out) hb); have n4_ := Aside0.mk (blk_below (g := gb328) (o := .cells #[.slice Ao13 t319.length co13, .slice Ao15 t322.length co15, .bool t325, .string t326] 29 (0, 0)) (by (with_reducible repeat (first | refine blk_drewN ?_ _ | refine blk_drew ?_ | refine blk_alloc ?_ _)); exact BK328.out) hb); have n5_ := Aside0.mk (below_step (by repeat (first | (with_reducible first | exact HB.out | apply below_alloc | apply pw_below_drewN | apply below_drew1 | refine below_set ?_ GE328.out) | exact HB.out)) hb); clear HO_0; clear HO_5; clear HO_329000; clear HO_329001; clear BK328; clear HB; have HO_0 := n0_; have HO_5 := n1_; have HO_329000 := n2_; have HO_329001 := n3_; have BK328 := n4_; have HB := n5_; clear n0_ n1_ n2_ n3_ n4_ n5_; (try clear hb); (try clear hb2); (try clear hk); (try clear hi)))
      go_ret
      exact ⟨by first | rfl | (simp [errW_none, errW_some] <;> rfl) | (simp [*, errW_none, errW_some] <;> rfl), by repeat (first | (with_reducible first | exact HB.out | apply below_alloc | apply pw_below_drewN | apply below_drew1 | refine below_set ?_ GE328.out) | exact HB.out)⟩
     ·rw [if_neg c19] at H
      have c19b0 : ((t315.length : Int) == 0) = false := beq_eq_false_iff_ne.mpr c19
      have c19b1 : ((t315.length : Int) != 0) = true := bne_iff_ne.mpr c19
      have c19b2 : ¬ (t315 = []) := fun h_ => c19 (by rw [h_]; rfl)
      obtain rfl := Option.some.inj H
      obtain ⟨Ao23, co23, eo23⟩ := Kd.R_slice HO_5.out
      subst eo23
      go_wp2
      go_ret
      exact ⟨by first | rfl | (simp [errW_none, errW_some] <;> rfl) | (simp [*, errW_none, errW_some] <;> rfl), by repeat (first | (with_reducible first | exact HB.out | apply below_alloc | apply pw_below_drewN | apply below_drew1 | refine below_set ?_ GE328.out) | exact HB.out)⟩
    ·rw [if_neg c18] at H
     have c18b0 : (t316 == t327) = false := beq_eq_false_iff_ne.mpr c18
     have c18b1 : (t316 != t327) = true := bne_iff_ne.mpr c18
     obtain rfl := Option.some.inj H
     go_wp2
     go_ret
     exact ⟨by first | rfl | (simp [errW_none, errW_some] <;> rfl) | (simp [*, errW_none, errW_some] <;> rfl), by repeat (first | (with_reducible first | exact HB.out | apply below_alloc | apply pw_below_drewN | apply below_drew1 | refine below_set ?_ GE328.out) | exact HB.out)⟩
   ·replace c17 := Bool.eq_false_iff.mpr c17
    subst c17
    have H1 : (cellarerlaw07_PagerPlain.l0 kj6 t311 t314 t315 ([] : List ByteArray) 0 t319 t322 t325 t326) = some r := by rw [if_neg (show ¬ (false = true) by decide)] at H; exact H
    clear H
    have H := H1
    clear H1
    have H' := Aside0.mk H
    clear H
    go_wp2
    go_loopg [9, 10] kj6 (fun kq v9 v10 w' => ∃ (x9_2 : List ByteArray) (x10_2 : Int), v10 = .int .i64 x10_2 ∧ Aside0 (cellarerlaw07_PagerPlain.l0 kq t311 t314 t315 x9_2 x10_2 t319 t322 t325 t326 = some r) ∧ Aside0 (kq ≤ kj6) ∧ Aside0 (Kd.S k50 50 w' w.heap.size (fun _ => True) (.slice Ao9 t311.length co9) t311) ∧ Aside0 (Kd.R Kd.string 9 w' w.heap.size (fun k_ => some k_ ≠ (v9 : Value).ownBlock ∧ some k_ ≠ ((.slice Ao13 t319.length co13) : Value).ownBlock ∧ some k_ ≠ ((.slice Ao15 t322.length co15) : Value).ownBlock) v317 t315) ∧ Aside0 (Kd.R Kd.string 9 w' w.heap.size (fun k_ => some k_ ≠ (v317 : Value).ownBlock ∧ some k_ ≠ ((.slice Ao13 t319.length co13) : Value).ownBlock ∧ some k_ ≠ ((.slice Ao15 t322.length co15) : Value).ownBlock) v9 x9_2) ∧ Aside0 (Kd.R Kd.string 9 w' w.heap.size (fun k_ => some k_ ≠ (v317 : Value).ownBlock ∧ some k_ ≠ (v9 : Value).ownBlock ∧ some k_ ≠ ((.slice Ao15 t322.length co15) : Value).ownBlock) (.slice Ao13 t319.length co13) t319) ∧ Aside0 (Kd.R Kd.string 9 w' w.heap.size (fun k_ => some k_ ≠ (v317 : Value).ownBlock ∧ some k_ ≠ (v9 : Value).ownBlock ∧ some k_ ≠ ((.slice Ao13 t319.length co13) : Value).ownBlock) (.slice Ao15 t322.length co15) t322) ∧ Aside0 (w'.heap[gb328]? = some (.cells #[(.slice Ao13 t319.length co13), (.slice Ao15 t322.length co15), .bool t325, .string t326] 29 (0, 0))) ∧ Aside0 (Below w.heap.size w w'))
    case atStart => exact ⟨(([] : List ByteArray)), (0), (by first | rfl | (simp; done) | (simp [*]; done)), H', ⟨Nat.le_refl _⟩, ⟨by (with_reducible repeat (first | apply Kd.S_alloc | apply Kd.S_drewN | apply Kd.S_drew)); exact HO_0.out⟩, ⟨by (with_reducible repeat (first | apply Kd.R_alloc | apply Kd.R_drewN | apply Kd.R_drew)); exact Kd.R_mono HO_5.out (fun _ hk => ⟨(by simp [Value.ownBlock]), ⟨hk.1, hk.2⟩⟩)⟩, ⟨by first | exact Kd.R_nil _ _ _ _ _ | exact Kd.N_nil _ _ _ _ _ | exact Kd.V_nil _ _ _ _ _ | exact Kd.Q_nil _ _ _ _ _ | exact Kd.S_nil _ _ _ _ _⟩, ⟨by (with_reducible repeat (first | apply Kd.R_alloc | apply Kd.R_drewN | apply Kd.R_drew)); exact Kd.R_mono HO_329000.out (fun _ hk => ⟨hk.1, ⟨(by simp [Value.ownBlock]), hk.2⟩⟩)⟩, ⟨by (with_reducible repeat (first | apply Kd.R_alloc | apply Kd.R_drewN | apply Kd.R_drew)); exact Kd.R_mono HO_329001.out (fun _ hk => ⟨hk.1, ⟨(by simp [Value.ownBlock]), hk.2⟩⟩)⟩, ⟨by (with_reducible repeat (first | refine blk_drewN ?_ _ | refine blk_drew ?_ | refine blk_alloc ?_ _)); exact BK328.out⟩, ⟨by repeat (first | (with_reducible first | exact HB.out | apply below_alloc | apply pw_below_drewN | apply below_drew1 | refine below_set ?_ GE328.out) | exact HB.out)⟩⟩
    case round =>
     clear H'
     try clear c1
     try clear c2
     try clear p2
     try clear c5
     try clear c11
     try clear c12
     try clear c16
     try clear c16b0
     try clear c16b1
     try clear c17
     try clear c18
     try clear c18b0
     try clear c18b1
     try clear c19
     try clear c19b0
     try clear c19b1
     try clear c19b2
     try clear c20
     try clear hcz14_0
     try clear hcz14_1
     try clear hcz14_2
     try clear hcz14_3
     try clear hfz14_0
     try clear hfz14_1
     try clear hfz14_2
     try clear hfz14_3
     try clear p2
     obtain ⟨x9_2, x10_2, rfl, HA, HK2, HO_0, HO_5, HO_9, HO_329000, HO_329001, BK328, HB⟩ := hrel
     cases gk with
     | zero => exact absurd HA.out (by simp [cellarerlaw07_PagerPlain.l0])
     | succ k2 =>
      have H := HA.out
      clear HA
      simp only [cellarerlaw07_PagerPlain.l0] at H
      by_cases c24 : x10_2 < (t311.length : Int)
      ·rw [if_pos c24] at H
       have c24b0 : decide (x10_2 < (t311.length : Int)) = true := decide_eq_true c24
       clear c24
       by_cases c25 : 0 ≤ x10_2
       ·rw [if_pos c25] at H
        have c25b0 : decide (0 ≤ x10_2) = true := decide_eq_true c25
        clear c25
        replace H := Option.bind_eq_some_iff.mp H
        obtain ⟨t331, A260, H⟩ := H
        replace H : (if t331 = true then (if 0 < (((rd_T50 t311 x10_2).f1).length : Int) then (if ((rd_T52 ((rd_T50 t311 x10_2).f1) 0).f2 = true) then (cellarerlaw07_PagerPlain.l0 k2 t311 t314 t315 x9_2 (wrap64 (x10_2 + 1)) t319 t322 t325 t326) else (if x9_2.length < 8796093022208 then (cellarerlaw07_PagerPlain.l0 k2 t311 t314 t315 (x9_2 ++ [(rd_T50 t311 x10_2).f0]) (wrap64 (x10_2 + 1)) t319 t322 t325 t326) else (none))) else (none)) else (cellarerlaw07_PagerPlain.l0 k2 t311 t314 t315 x9_2 (wrap64 (x10_2 + 1)) t319 t322 t325 t326)) = some r := H
        have A26 := Aside0.mk A260
        clear A260
        by_cases c27 : t331 = true
        ·subst c27
         have H1 : (if 0 < (((rd_T50 t311 x10_2).f1).length : Int) then (if ((rd_T52 ((rd_T50 t311 x10_2).f1) 0).f2 = true) then (cellarerlaw07_PagerPlain.l0 k2 t311 t314 t315 x9_2 (wrap64 (x10_2 + 1)) t319 t322 t325 t326) else (if x9_2.length < 8796093022208 then (cellarerlaw07_PagerPlain.l0 k2 t311 t314 t315 (x9_2 ++ [(rd_T50 t311 x10_2).f0]) (wrap64 (x10_2 + 1)) t319 t322 t325 t326) else (none))) else (none)) = some r := by rw [if_pos rfl] at H; exact H
         clear H
         have H := H1
         clear H1
         by_cases c28 : 0 < (((rd_T50 t311 x10_2).f1).length : Int)
         ·rw [if_pos c28] at H
          have c28b0 : decide (0 < (((rd_T50 t311 x10_2).f1).length : Int)) = true := decide_eq_true c28
          have c28b1 : decide (0 < ((rd_T50 t311 x10_2).f1).length) = true := decide_eq_true (by omega)
          clear c28
          obtain ⟨bq29, hbq29⟩ : ∃ b_ : Bool, b_ = ((rd_T52 ((rd_T50 t311 x10_2).f1) 0).f2) := ⟨_, rfl⟩
          replace H : (if (bq29 = true) then (cellarerlaw07_PagerPlain.l0 k2 t311 t314 t315 x9_2 (wrap64 (x10_2 + 1)) t319 t322 t325 t326) else (if x9_2.length < 8796093022208 then (cellarerlaw07_PagerPlain.l0 k2 t311 t314 t315 (x9_2 ++ [(rd_T50 t311 x10_2).f0]) (wrap64 (x10_2 + 1)) t319 t322 t325 t326) else (none))) = some r := by rw [← hbq29] at H; exact H
          have Nbq29 := Aside0.mk hbq29
          clear hbq29
          by_cases c30 : (bq29 = true)
          ·subst c30
           have H1 : (cellarerlaw07_PagerPlain.l0 k2 t311 t314 t315 x9_2 (wrap64 (x10_2 + 1)) t319 t322 t325 t326) = some r := by rw [if_pos rfl] at H; exact H
           clear H
           have H := H1
           clear H1
           have H' := Aside0.mk H
           clear H
           have p330 : 0 ≤ (x10_2 : Int) := of_decide_eq_true (by first | (with_reducible assumption) | assumption)
           have q330 : x10_2 < (t311.length : Int) := of_decide_eq_true (by first | (with_reducible assumption) | assumption)
           obtain ⟨ad330, A330_1, c330_1, e330, hx330_0, hx330_1, hl330_1, hi330_1⟩ := at_T50 (Kd.S_reads' HO_0.out).2.2 x10_2 p330 q330
           cases e330
           obtain ⟨ce330, hce330, hMe330, hcc330⟩ := Kd.S_get HO_0.out z50 x10_2 p330 (by first | exact q330 | exact of_decide_eq_true (by first | (with_reducible assumption) | assumption) | (have e_ := (Kd.S_reads' HO_0.out).1; omega))
           obtain ⟨ve330_1, rfl, ge330_1⟩ := k50_openM hMe330
           have hv330_1 := hcc330 1 _ rfl
           rw [add_field _ _ 1 (by omega)] at hv330_1
           replace hv330_1 := Option.some.inj (hv330_1.symm.trans hx330_1)
           rw [hv330_1] at ge330_1
           have HL330_1 := Aside0.mk (show Kd.R k52 52 _ _ _ _ ((rd_T50 t311 x10_2).f1) from ge330_1)
           clear hv330_1 ge330_1
           clear hcc330 hce330
           have HR330_1 := Aside0.mk hi330_1
           have HC330_1 := Aside0.mk hl330_1
           clear hi330_1 hl330_1
           replace p330 := eq_true p330
           replace q330 := eq_true q330
           go_wp2_with (first | ((with_reducible refine gate_callee (f := 21) rfl ?_); refine goesL_ (some 56) rfl rfl Try.func21 (by kernel_rfl) rfl #[.string ((rd_T50 t311 x10_2).f0), .string t314] rfl (by (try simp only [List.map_toArray, List.map_cons, List.map_nil]); first | done | rfl | (simp only [List.length_drop, List.length_take]; rfl)) ?_; (with_reducible refine (cellarerref01_Under.calls ((rd_T50 t311 x10_2).f0) t314 true _ A26.out).mono ?_); rintro e w' ⟨rfl, ⟨nd, rfl⟩⟩; refine ⟨_, rfl, ?_⟩; have p332 : 0 ≤ (x10_2 : Int) := of_decide_eq_true (by first | (with_reducible assumption) | assumption); have q332 : x10_2 < (t311.length : Int) := of_decide_eq_true (by first | (with_reducible assumption) | assumption); obtain ⟨ad332, A332_1, c332_1, e332, hx332_0, hx332_1, hl332_1, hi332_1⟩ := at_T50 (Kd.S_reads' HO_0.out).2.2 x10_2 p332 q332; obtain rfl : ad330 = ad332 := (by injection e332); obtain ⟨ce332, hce332, hMe332, hcc332⟩ := Kd.S_get HO_0.out z50 x10_2 p332 (by first | exact q332 | exact of_decide_eq_true (by first | (with_reducible assumption) | assumption) | (have e_ := (Kd.S_reads' HO_0.out).1; omega)); obtain ⟨ve332_1, rfl, ge332_1⟩ := k50_openM hMe332; have hv332_1 := hcc332 1 _ rfl; rw [add_field _ _ 1 (by omega)] at hv332_1; replace hv332_1 := Option.some.inj (hv332_1.symm.trans hx332_1); rw [hv332_1] at ge332_1; have HL332_1 := Aside0.mk (show Kd.R k52 52 _ _ _ _ ((rd_T50 t311 x10_2).f1) from ge332_1); clear hv332_1 ge332_1; clear hcc332 hce332; have HR332_1 := Aside0.mk hi332_1; have HC332_1 := Aside0.mk hl332_1; clear hi332_1 hl332_1; replace p332 := eq_true p332; replace q332 := eq_true q332; have ea_ := Option.some.inj (hx330_1.symm.trans hx332_1); injection ea_ with ea_ en_ ec_; subst ea_; subst ec_; clear en_; have p333 : 0 ≤ (0 : Int) := (by omega); have q333 : 0 < (((rd_T50 t311 x10_2).f1).length : Int) := of_decide_eq_true (by first | (with_reducible assumption) | assumption); obtain ⟨ad333, e333, hx333_0, hx333_1, hx333_2, hx333_3⟩ := at_T52 (by repeat (first | (with_reducible exact HR332_1.out) | (with_reducible refine Kd.C_alloc ?_ _) | (with_reducible refine Kd.C_drewN ?_ _) | (with_reducible refine Kd.C_drew ?_) | exact HR332_1.out)) 0 p333 q333; (try rw [← Nbq29.out] at hx333_2); cases e333; have qi333 : (0 < ((rd_T50 t311 x10_2).f1).length) = True := eq_true (by omega); (try rw [show ((0 : Int)).toNat = 0 from rfl] at hx333_0); (try rw [show 0 * 4 = 0 from rfl] at hx333_0); (try rw [Addr.add_zero'] at hx333_0); (try rw [show ((0 : Int)).toNat = 0 from rfl] at hx333_1); (try rw [show 0 * 4 = 0 from rfl] at hx333_1); (try rw [Addr.add_zero'] at hx333_1); (try rw [show ((0 : Int)).toNat = 0 from rfl] at hx333_2); (try rw [show 0 * 4 = 0 from rfl] at hx333_2); (try rw [Addr.add_zero'] at hx333_2); (try rw [show ((0 : Int)).toNat = 0 from rfl] at hx333_3); (try rw [show 0 * 4 = 0 from rfl] at hx333_3); (try rw [Addr.add_zero'] at hx333_3); replace p333 := eq_true p333; replace q333 := eq_true q333))
           go_roundg k2
           case measure => have := HJ6.out; have := HK2.out; omega
           case rel => exact ⟨(x9_2), (wrap64 (x10_2 + 1)), (by first | rfl | (simp; done) | (simp [*]; done)), H', ⟨by have := HJ6.out; have := HK2.out; omega⟩, ⟨by (with_reducible repeat (first | apply Kd.S_alloc | apply Kd.S_drewN | apply Kd.S_drew)); exact HO_0.out⟩, ⟨by (with_reducible repeat (first | apply Kd.R_alloc | apply Kd.R_drewN | apply Kd.R_drew)); exact HO_5.out⟩, ⟨by (with_reducible repeat (first | apply Kd.R_alloc | apply Kd.R_drewN | apply Kd.R_drew)); exact HO_9.out⟩, ⟨by (with_reducible repeat (first | apply Kd.R_alloc | apply Kd.R_drewN | apply Kd.R_drew)); exact HO_329000.out⟩, ⟨by (with_reducible repeat (first | apply Kd.R_alloc | apply Kd.R_drewN | apply Kd.R_drew)); exact HO_329001.out⟩, ⟨by (with_reducible repeat (first | refine blk_drewN ?_ _ | refine blk_drew ?_ | refine blk_alloc ?_ _)); exact BK328.out⟩, ⟨by repeat (first | (with_reducible first | exact HB.out | apply below_alloc | apply pw_below_drewN | apply below_drew1 | refine below_set ?_ GE328.out) | exact HB.out)⟩⟩
          ·replace c30 := Bool.eq_false_iff.mpr c30
           subst c30
           have H1 : (if x9_2.length < 8796093022208 then (cellarerlaw07_PagerPlain.l0 k2 t311 t314 t315 (x9_2 ++ [(rd_T50 t311 x10_2).f0]) (wrap64 (x10_2 + 1)) t319 t322 t325 t326) else (none)) = some r := by rw [if_neg (show ¬ (false = true) by decide)] at H; exact H
           clear H
           have H := H1
           clear H1
           by_cases c31 : x9_2.length < 8796093022208
           ·rw [if_pos c31] at H
            have LMc31 := Aside0.mk c31
            clear c31
            obtain ⟨y335, hy335⟩ : ∃ y_ : List ByteArray, y_ = (x9_2 ++ [(rd_T50 t311 x10_2).f0]) := ⟨_, rfl⟩
            replace H : (cellarerlaw07_PagerPlain.l0 k2 t311 t314 t315 y335 (wrap64 (x10_2 + 1)) t319 t322 t325 t326) = some r := by first | (rw [hy335]; with_reducible exact H) | (have H2_ := (Option.bind_some _ _).symm.trans H; rw [hy335]; with_reducible exact H2_) | (have H2_ := (Option.bind_some _ _).symm.trans H; with_reducible exact H2_) | with_reducible exact H | (rw [hy335]; exact H) | exact H
            have Ny335 := Aside0.mk hy335
            clear hy335
            have H' := Aside0.mk H
            clear H
            have p330 : 0 ≤ (x10_2 : Int) := of_decide_eq_true (by first | (with_reducible assumption) | assumption)
            have q330 : x10_2 < (t311.length : Int) := of_decide_eq_true (by first | (with_reducible assumption) | assumption)
            obtain ⟨ad330, A330_1, c330_1, e330, hx330_0, hx330_1, hl330_1, hi330_1⟩ := at_T50 (Kd.S_reads' HO_0.out).2.2 x10_2 p330 q330
            cases e330
            obtain ⟨ce330, hce330, hMe330, hcc330⟩ := Kd.S_get HO_0.out z50 x10_2 p330 (by first | exact q330 | exact of_decide_eq_true (by first | (with_reducible assumption) | assumption) | (have e_ := (Kd.S_reads' HO_0.out).1; omega))
            obtain ⟨ve330_1, rfl, ge330_1⟩ := k50_openM hMe330
            have hv330_1 := hcc330 1 _ rfl
            rw [add_field _ _ 1 (by omega)] at hv330_1
            replace hv330_1 := Option.some.inj (hv330_1.symm.trans hx330_1)
            rw [hv330_1] at ge330_1
            have HL330_1 := Aside0.mk (show Kd.R k52 52 _ _ _ _ ((rd_T50 t311 x10_2).f1) from ge330_1)
            clear hv330_1 ge330_1
            clear hcc330 hce330
            have HR330_1 := Aside0.mk hi330_1
            have HC330_1 := Aside0.mk hl330_1
            clear hi330_1 hl330_1
            replace p330 := eq_true p330
            replace q330 := eq_true q330
            go_wp2_with (first | ((with_reducible refine gate_callee (f := 21) rfl ?_); refine goesL_ (some 56) rfl rfl Try.func21 (by kernel_rfl) rfl #[.string ((rd_T50 t311 x10_2).f0), .string t314] rfl (by (try simp only [List.map_toArray, List.map_cons, List.map_nil]); first | done | rfl | (simp only [List.length_drop, List.length_take]; rfl)) ?_; (with_reducible refine (cellarerref01_Under.calls ((rd_T50 t311 x10_2).f0) t314 true _ A26.out).mono ?_); rintro e w' ⟨rfl, ⟨nd, rfl⟩⟩; refine ⟨_, rfl, ?_⟩; have p332 : 0 ≤ (x10_2 : Int) := of_decide_eq_true (by first | (with_reducible assumption) | assumption); have q332 : x10_2 < (t311.length : Int) := of_decide_eq_true (by first | (with_reducible assumption) | assumption); obtain ⟨ad332, A332_1, c332_1, e332, hx332_0, hx332_1, hl332_1, hi332_1⟩ := at_T50 (Kd.S_reads' HO_0.out).2.2 x10_2 p332 q332; obtain rfl : ad330 = ad332 := (by injection e332); obtain ⟨ce332, hce332, hMe332, hcc332⟩ := Kd.S_get HO_0.out z50 x10_2 p332 (by first | exact q332 | exact of_decide_eq_true (by first | (with_reducible assumption) | assumption) | (have e_ := (Kd.S_reads' HO_0.out).1; omega)); obtain ⟨ve332_1, rfl, ge332_1⟩ := k50_openM hMe332; have hv332_1 := hcc332 1 _ rfl; rw [add_field _ _ 1 (by omega)] at hv332_1; replace hv332_1 := Option.some.inj (hv332_1.symm.trans hx332_1); rw [hv332_1] at ge332_1; have HL332_1 := Aside0.mk (show Kd.R k52 52 _ _ _ _ ((rd_T50 t311 x10_2).f1) from ge332_1); clear hv332_1 ge332_1; clear hcc332 hce332; have HR332_1 := Aside0.mk hi332_1; have HC332_1 := Aside0.mk hl332_1; clear hi332_1 hl332_1; replace p332 := eq_true p332; replace q332 := eq_true q332; have ea_ := Option.some.inj (hx330_1.symm.trans hx332_1); injection ea_ with ea_ en_ ec_; subst ea_; subst ec_; clear en_; have p333 : 0 ≤ (0 : Int) := (by omega); have q333 : 0 < (((rd_T50 t311 x10_2).f1).length : Int) := of_decide_eq_true (by first | (with_reducible assumption) | assumption); obtain ⟨ad333, e333, hx333_0, hx333_1, hx333_2, hx333_3⟩ := at_T52 (by repeat (first | (with_reducible exact HR332_1.out) | (with_reducible refine Kd.C_alloc ?_ _) | (with_reducible refine Kd.C_drewN ?_ _) | (with_reducible refine Kd.C_drew ?_) | exact HR332_1.out)) 0 p333 q333; (try rw [← Nbq29.out] at hx333_2); cases e333; have qi333 : (0 < ((rd_T50 t311 x10_2).f1).length) = True := eq_true (by omega); (try rw [show ((0 : Int)).toNat = 0 from rfl] at hx333_0); (try rw [show 0 * 4 = 0 from rfl] at hx333_0); (try rw [Addr.add_zero'] at hx333_0); (try rw [show ((0 : Int)).toNat = 0 from rfl] at hx333_1); (try rw [show 0 * 4 = 0 from rfl] at hx333_1); (try rw [Addr.add_zero'] at hx333_1); (try rw [show ((0 : Int)).toNat = 0 from rfl] at hx333_2); (try rw [show 0 * 4 = 0 from rfl] at hx333_2); (try rw [Addr.add_zero'] at hx333_2); (try rw [show ((0 : Int)).toNat = 0 from rfl] at hx333_3); (try rw [show 0 * 4 = 0 from rfl] at hx333_3); (try rw [Addr.add_zero'] at hx333_3); replace p333 := eq_true p333; replace q333 := eq_true q333; have p334 : 0 ≤ (x10_2 : Int) := of_decide_eq_true (by first | (with_reducible assumption) | assumption); have q334 : x10_2 < (t311.length : Int) := of_decide_eq_true (by first | (with_reducible assumption) | assumption); obtain ⟨ad334, A334_1, c334_1, e334, hx334_0, hx334_1, hl334_1, hi334_1⟩ := at_T50 (Kd.S_reads' HO_0.out).2.2 x10_2 p334 q334; obtain rfl : ad330 = ad334 := (by injection e334); obtain ⟨ce334, hce334, hMe334, hcc334⟩ := Kd.S_get HO_0.out z50 x10_2 p334 (by first | exact q334 | exact of_decide_eq_true (by first | (with_reducible assumption) | assumption) | (have e_ := (Kd.S_reads' HO_0.out).1; omega)); obtain ⟨ve334_1, rfl, ge334_1⟩ := k50_openM hMe334; have hv334_1 := hcc334 1 _ rfl; rw [add_field _ _ 1 (by omega)] at hv334_1; replace hv334_1 := Option.some.inj (hv334_1.symm.trans hx334_1); rw [hv334_1] at ge334_1; have HL334_1 := Aside0.mk (show Kd.R k52 52 _ _ _ _ ((rd_T50 t311 x10_2).f1) from ge334_1); clear hv334_1 ge334_1; clear hcc334 hce334; have HR334_1 := Aside0.mk hi334_1; have HC334_1 := Aside0.mk hl334_1; clear hi334_1 hl334_1; replace p334 := eq_true p334; replace q334 := eq_true q334; have ea_ := Option.some.inj (hx330_1.symm.trans hx334_1); injection ea_ with ea_ en_ ec_; subst ea_; subst ec_; clear en_) | ((with_reducible refine gate_builtin (b := .append) (xs := #[.tmp 68, .tmp 74]) rfl ?_); (try (refine gate_guard (by rfl) ?_; dsimp only)); at_builtin; refine Kd.R_append Kd.string (w0 := w) w.heap.size rfl (.tmp 68) (.tmp 74) 27 9 (.string ⟨#[]⟩) 16 rfl Try.underlying27 info9 rfl (by decide) (by omega) u9 x9_2 ((rd_T50 t311 x10_2).f0) [.string ((rd_T50 t311 x10_2).f0)] (fun k_ => some k_ ≠ (v317 : Value).ownBlock ∧ some k_ ≠ (.slice Ao13 t319.length co13 : Value).ownBlock ∧ some k_ ≠ (.slice Ao15 t322.length co15 : Value).ownBlock) (fun _ => False) rfl rfl ?aP (fun _ hk => hk.elim) ?aF ?aO ?aB ?aS ?aL ?_; (case aP => exact rfl); (case aB => exact (by repeat (first | (with_reducible first | exact HB.out | apply below_alloc | apply pw_below_drewN | apply below_drew1 | refine below_set ?_ GE328.out) | exact HB.out))); (case aF => exact (fun k_ hk => ⟨Kd.fresh' (Kd.R_lt (by (with_reducible repeat (first | apply Kd.R_alloc | apply Kd.R_drewN | apply Kd.R_drew)); exact HO_5.out)) k_ hk, Kd.fresh' (Kd.R_lt (by (with_reducible repeat (first | apply Kd.R_alloc | apply Kd.R_drewN | apply Kd.R_drew)); exact HO_329000.out)) k_ hk, Kd.fresh' (Kd.R_lt (by (with_reducible repeat (first | apply Kd.R_alloc | apply Kd.R_drewN | apply Kd.R_drew)); exact HO_329001.out)) k_ hk⟩)); (case aO => exact (by (with_reducible repeat (first | apply Kd.R_alloc | apply Kd.R_drewN | apply Kd.R_drew)); exact HO_9.out)); (case aS => exact (below_size (by repeat (first | (with_reducible first | exact HB.out | apply below_alloc | apply pw_below_drewN | apply below_drew1 | refine below_set ?_ GE328.out) | exact HB.out)))); (case aL => have := LMc31.out; omega); intro v336 w32 ho hb hg hat; rw [← Ny335.out] at ho; have n0_ := Aside0.mk (Kd.S_over' (by (with_reducible repeat (first | apply Kd.S_alloc | apply Kd.S_drewN | apply Kd.S_drew)); exact HO_0.out) (Kd.R_typed (by (with_reducible repeat (first | apply Kd.R_alloc | apply Kd.R_drewN | apply Kd.R_drew)); exact HO_9.out)) (by decide) hg); have n1_ := Aside0.mk (Kd.R_after (ok := (fun k_ => some k_ ≠ (.slice Ao13 t319.length co13 : Value).ownBlock ∧ some k_ ≠ (.slice Ao15 t322.length co15 : Value).ownBlock)) (by (with_reducible repeat (first | apply Kd.R_alloc | apply Kd.R_drewN | apply Kd.R_drew)); exact Kd.R_mono HO_5.out (fun _ hk => ⟨⟨hk.2.1, hk.2.2⟩, hk.1⟩)) hg hat); have n2_ := Aside0.mk (Kd.R_after (ok := (fun k_ => some k_ ≠ (v317 : Value).ownBlock ∧ some k_ ≠ (.slice Ao15 t322.length co15 : Value).ownBlock)) (by (with_reducible repeat (first | apply Kd.R_alloc | apply Kd.R_drewN | apply Kd.R_drew)); exact Kd.R_mono HO_329000.out (fun _ hk => ⟨⟨hk.1, hk.2.2⟩, hk.2.1⟩)) hg hat); have n3_ := Aside0.mk (Kd.R_after (ok := (fun k_ => some k_ ≠ (v317 : Value).ownBlock ∧ some k_ ≠ (.slice Ao13 t319.length co13 : Value).ownBlock)) (by (with_reducible repeat (first | apply Kd.R_alloc | apply Kd.R_drewN | apply Kd.R_drew)); exact Kd.R_mono HO_329001.out (fun _ hk => ⟨⟨hk.1, hk.2.2⟩, hk.2.1⟩)) hg hat); have n4_ := Aside0.mk (blk_grown (g := gb328) (o := .cells #[.slice Ao13 t319.length co13, .slice Ao15 t322.length co15, .bool t325, .string t326] 29 (0, 0)) (by (with_reducible repeat (first | refine blk_drewN ?_ _ | refine blk_drew ?_ | refine blk_alloc ?_ _)); exact BK328.out) hg (Kd.R_ne HO_9.out BK328.out (by decide))); have n5_ := Aside0.mk (Kd.R_over' (by (with_reducible repeat (first | apply Kd.R_alloc | apply Kd.R_drewN | apply Kd.R_drew)); exact HL330_1.out) (Kd.R_typed (by (with_reducible repeat (first | apply Kd.R_alloc | apply Kd.R_drewN | apply Kd.R_drew)); exact HO_9.out)) (by decide) hg); have n6_ := Aside0.mk (Kd.R_over' (by (with_reducible repeat (first | apply Kd.R_alloc | apply Kd.R_drewN | apply Kd.R_drew)); exact HL332_1.out) (Kd.R_typed (by (with_reducible repeat (first | apply Kd.R_alloc | apply Kd.R_drewN | apply Kd.R_drew)); exact HO_9.out)) (by decide) hg); have n7_ := Aside0.mk (Kd.R_over' (by (with_reducible repeat (first | apply Kd.R_alloc | apply Kd.R_drewN | apply Kd.R_drew)); exact HL334_1.out) (Kd.R_typed (by (with_reducible repeat (first | apply Kd.R_alloc | apply Kd.R_drewN | apply Kd.R_drew)); exact HO_9.out)) (by decide) hg); have n8_ := Aside0.mk (hb); have n9_ := Aside0.mk (ho); clear HO_0; clear HO_5; clear HO_329000; clear HO_329001; clear BK328; clear HL330_1; clear HL332_1; clear HL334_1; clear HB; clear HO_9; have HO_0 := n0_; have HO_5 := n1_; have HO_329000 := n2_; have HO_329001 := n3_; have BK328 := n4_; have HL330_1 := n5_; have HL332_1 := n6_; have HL334_1 := n7_; have HB := n8_; have HO337 := n9_; clear n0_ n1_ n2_ n3_ n4_ n5_ n6_ n7_ n8_ n9_; clear ho hb hg hat))
            go_roundg k2
            case measure => have := HJ6.out; have := HK2.out; omega
            case rel => exact ⟨(y335), (wrap64 (x10_2 + 1)), (by first | rfl | (simp; done) | (simp [*]; done)), H', ⟨by have := HJ6.out; have := HK2.out; omega⟩, ⟨by (with_reducible repeat (first | apply Kd.S_alloc | apply Kd.S_drewN | apply Kd.S_drew)); exact HO_0.out⟩, ⟨by (with_reducible repeat (first | apply Kd.R_alloc | apply Kd.R_drewN | apply Kd.R_drew)); exact Kd.R_mono HO_5.out (fun _ hk => ⟨hk.2, ⟨hk.1.1, hk.1.2⟩⟩)⟩, ⟨by (with_reducible repeat (first | apply Kd.R_alloc | apply Kd.R_drewN | apply Kd.R_drew)); exact HO337.out⟩, ⟨by (with_reducible repeat (first | apply Kd.R_alloc | apply Kd.R_drewN | apply Kd.R_drew)); exact Kd.R_mono HO_329000.out (fun _ hk => ⟨hk.1.1, ⟨hk.2, hk.1.2⟩⟩)⟩, ⟨by (with_reducible repeat (first | apply Kd.R_alloc | apply Kd.R_drewN | apply Kd.R_drew)); exact Kd.R_mono HO_329001.out (fun _ hk => ⟨hk.1.1, ⟨hk.2, hk.1.2⟩⟩)⟩, ⟨by (with_reducible repeat (first | refine blk_drewN ?_ _ | refine blk_drew ?_ | refine blk_alloc ?_ _)); exact BK328.out⟩, ⟨by repeat (first | (with_reducible first | exact HB.out | apply below_alloc | apply pw_below_drewN | apply below_drew1 | refine below_set ?_ GE328.out) | exact HB.out)⟩⟩
           ·rw [if_neg c31] at H
            exact absurd H (by simp)
         ·rw [if_neg c28] at H
          exact absurd H (by simp)
        ·replace c27 := Bool.eq_false_iff.mpr c27
         subst c27
         have H1 : (cellarerlaw07_PagerPlain.l0 k2 t311 t314 t315 x9_2 (wrap64 (x10_2 + 1)) t319 t322 t325 t326) = some r := by rw [if_neg (show ¬ (false = true) by decide)] at H; exact H
         clear H
         have H := H1
         clear H1
         have H' := Aside0.mk H
         clear H
         have p330 : 0 ≤ (x10_2 : Int) := of_decide_eq_true (by first | (with_reducible assumption) | assumption)
         have q330 : x10_2 < (t311.length : Int) := of_decide_eq_true (by first | (with_reducible assumption) | assumption)
         obtain ⟨ad330, A330_1, c330_1, e330, hx330_0, hx330_1, hl330_1, hi330_1⟩ := at_T50 (Kd.S_reads' HO_0.out).2.2 x10_2 p330 q330
         cases e330
         obtain ⟨ce330, hce330, hMe330, hcc330⟩ := Kd.S_get HO_0.out z50 x10_2 p330 (by first | exact q330 | exact of_decide_eq_true (by first | (with_reducible assumption) | assumption) | (have e_ := (Kd.S_reads' HO_0.out).1; omega))
         obtain ⟨ve330_1, rfl, ge330_1⟩ := k50_openM hMe330
         have hv330_1 := hcc330 1 _ rfl
         rw [add_field _ _ 1 (by omega)] at hv330_1
         replace hv330_1 := Option.some.inj (hv330_1.symm.trans hx330_1)
         rw [hv330_1] at ge330_1
         have HL330_1 := Aside0.mk (show Kd.R k52 52 _ _ _ _ ((rd_T50 t311 x10_2).f1) from ge330_1)
         clear hv330_1 ge330_1
         clear hcc330 hce330
         have HR330_1 := Aside0.mk hi330_1
         have HC330_1 := Aside0.mk hl330_1
         clear hi330_1 hl330_1
         replace p330 := eq_true p330
         replace q330 := eq_true q330
         go_wp2_with (first | ((with_reducible refine gate_callee (f := 21) rfl ?_); refine goesL_ (some 56) rfl rfl Try.func21 (by kernel_rfl) rfl #[.string ((rd_T50 t311 x10_2).f0), .string t314] rfl (by (try simp only [List.map_toArray, List.map_cons, List.map_nil]); first | done | rfl | (simp only [List.length_drop, List.length_take]; rfl)) ?_; (with_reducible refine (cellarerref01_Under.calls ((rd_T50 t311 x10_2).f0) t314 false _ A26.out).mono ?_); rintro e w' ⟨rfl, ⟨nd, rfl⟩⟩; refine ⟨_, rfl, ?_⟩))
         go_roundg k2
         case measure => have := HJ6.out; have := HK2.out; omega
         case rel => exact ⟨(x9_2), (wrap64 (x10_2 + 1)), (by first | rfl | (simp; done) | (simp [*]; done)), H', ⟨by have := HJ6.out; have := HK2.out; omega⟩, ⟨by (with_reducible repeat (first | apply Kd.S_alloc | apply Kd.S_drewN | apply Kd.S_drew)); exact HO_0.out⟩, ⟨by (with_reducible repeat (first | apply Kd.R_alloc | apply Kd.R_drewN | apply Kd.R_drew)); exact HO_5.out⟩, ⟨by (with_reducible repeat (first | apply Kd.R_alloc | apply Kd.R_drewN | apply Kd.R_drew)); exact HO_9.out⟩, ⟨by (with_reducible repeat (first | apply Kd.R_alloc | apply Kd.R_drewN | apply Kd.R_drew)); exact HO_329000.out⟩, ⟨by (with_reducible repeat (first | apply Kd.R_alloc | apply Kd.R_drewN | apply Kd.R_drew)); exact HO_329001.out⟩, ⟨by (with_reducible repeat (first | refine blk_drewN ?_ _ | refine blk_drew ?_ | refine blk_alloc ?_ _)); exact BK328.out⟩, ⟨by repeat (first | (with_reducible first | exact HB.out | apply below_alloc | apply pw_below_drewN | apply below_drew1 | refine below_set ?_ GE328.out) | exact HB.out)⟩⟩
       ·rw [if_neg c25] at H
        exact absurd H (by simp)
      ·rw [if_neg c24] at H
       have c24b0 : decide (x10_2 < (t311.length : Int)) = false := decide_eq_false c24
       clear c24
       replace H := Option.bind_eq_some_iff.mp H
       obtain ⟨t338, A330, H⟩ := H
       replace H : (if t338 = true then ((cellarerref02_Same.f k2 t319 x9_2).bind fun t339 => (if t339 = true then (if (t322.length : Int) = 0 then (if t325 = true then (some false) else ((cellarerlaw07_awake.f).bind fun t340 => (some t340))) else (some false)) else (some false))) else (some false)) = some r := H
       have A33 := Aside0.mk A330
       clear A330
       by_cases c34 : t338 = true
       ·subst c34
        have H1 : ((cellarerref02_Same.f k2 t319 x9_2).bind fun t339 => (if t339 = true then (if (t322.length : Int) = 0 then (if t325 = true then (some false) else ((cellarerlaw07_awake.f).bind fun t340 => (some t340))) else (some false)) else (some false))) = some r := by rw [if_pos rfl] at H; exact H
        clear H
        have H := H1
        clear H1
        replace H := Option.bind_eq_some_iff.mp H
        obtain ⟨t339, A350, H⟩ := H
        replace H : (if t339 = true then (if (t322.length : Int) = 0 then (if t325 = true then (some false) else ((cellarerlaw07_awake.f).bind fun t340 => (some t340))) else (some false)) else (some false)) = some r := H
        have A35 := Aside0.mk A350
        clear A350
        by_cases c36 : t339 = true
        ·subst c36
         have H1 : (if (t322.length : Int) = 0 then (if t325 = true then (some false) else ((cellarerlaw07_awake.f).bind fun t340 => (some t340))) else (some false)) = some r := by rw [if_pos rfl] at H; exact H
         clear H
         have H := H1
         clear H1
         by_cases c37 : (t322.length : Int) = 0
         ·rw [if_pos c37] at H
          have c37b0 : ((t322.length : Int) == 0) = true := beq_iff_eq.mpr c37
          have c37b1 : ((t322.length : Int) != 0) = false := bne_eq_false_iff_eq.mpr c37
          clear c37
          by_cases c38 : t325 = true
          ·subst c38
           have H1 : (some false) = some r := by rw [if_pos rfl] at H; exact H
           clear H
           have H := H1
           clear H1
           obtain rfl := Option.some.inj H
           obtain ⟨Ao39, co39, eo39⟩ := Kd.R_slice HO_5.out
           subst eo39
           obtain ⟨Ao40, co40, eo40⟩ := Kd.R_slice HO_9.out
           subst eo40
           go_wp2_with (first | ((with_reducible refine gate_callee (f := 15) rfl ?_); refine goesL_ (some 78) rfl rfl Try.func15 (by kernel_rfl) rfl #[.slice Ao39 t315.length co39, .slice Ao40 x9_2.length co40] rfl (by (try simp only [List.map_toArray, List.map_cons, List.map_nil]); first | done | rfl | (simp only [List.length_drop, List.length_take]; rfl)) ?_; (with_reducible refine (cellarerref02_Same.calls k2 _ _ t315 _ _ x9_2 true _ ?side1 ?side2 ?side3 ?side4 A33.out).mono ?_); (case side1 => repeat (first | exact (Kd.R_reads' HO_5.out).2.2 | (with_reducible refine Kd.C_alloc ?_ _) | (with_reducible refine Kd.C_drewN ?_ _) | (with_reducible refine Kd.C_drew ?_))); (case side2 => exact (Kd.R_reads' HO_5.out).2.1); (case side3 => repeat (first | exact (Kd.R_reads' HO_9.out).2.2 | (with_reducible refine Kd.C_alloc ?_ _) | (with_reducible refine Kd.C_drewN ?_ _) | (with_reducible refine Kd.C_drew ?_))); (case side4 => exact (Kd.R_reads' HO_9.out).2.1); rintro e w' ⟨rfl, ⟨nd, rfl⟩⟩; refine ⟨_, rfl, ?_⟩; have hcz41_0 : wr.cell? ⟨gb328, 0, none⟩ = some (.slice Ao13 t319.length co13) := (blk_cell BK328.out 0).trans rfl; have hcz41_1 : wr.cell? ⟨gb328, 1, none⟩ = some (.slice Ao15 t322.length co15) := (blk_cell BK328.out 1).trans rfl; have hcz41_2 : wr.cell? ⟨gb328, 2, none⟩ = some (.bool true) := (blk_cell BK328.out 2).trans rfl; have hcz41_3 : wr.cell? ⟨gb328, 3, none⟩ = some (.string t326) := (blk_cell BK328.out 3).trans rfl; have hfz41_0 := blk_frozen BK328.out 0; have hfz41_1 := blk_frozen BK328.out 1; have hfz41_2 := blk_frozen BK328.out 2; have hfz41_3 := blk_frozen BK328.out 3) | (go_at_call 15; (with_reducible refine (cellarerref02_Same.calls k2 _ _ t319 _ _ x9_2 true _ ?side1 ?side2 ?side3 ?side4 A35.out).mono ?_); (case side1 => repeat (first | exact (Kd.R_reads' HO_329000.out).2.2 | (with_reducible refine Kd.C_alloc ?_ _) | (with_reducible refine Kd.C_drewN ?_ _) | (with_reducible refine Kd.C_drew ?_))); (case side2 => exact (Kd.R_reads' HO_329000.out).2.1); (case side3 => repeat (first | exact (Kd.R_reads' HO_9.out).2.2 | (with_reducible refine Kd.C_alloc ?_ _) | (with_reducible refine Kd.C_drewN ?_ _) | (with_reducible refine Kd.C_drew ?_))); (case side4 => exact (Kd.R_reads' HO_9.out).2.1); rintro e w' ⟨rfl, ⟨nd, rfl⟩⟩))
           go_ret
           exact ⟨by first | rfl | (simp [errW_none, errW_some] <;> rfl) | (simp [*, errW_none, errW_some] <;> rfl), by repeat (first | (with_reducible first | exact HB.out | apply below_alloc | apply pw_below_drewN | apply below_drew1 | refine below_set ?_ GE328.out) | exact HB.out)⟩
          ·replace c38 := Bool.eq_false_iff.mpr c38
           subst c38
           have H1 : ((cellarerlaw07_awake.f).bind fun t340 => (some t340)) = some r := by rw [if_neg (show ¬ (false = true) by decide)] at H; exact H
           clear H
           have H := H1
           clear H1
           replace H := Option.bind_eq_some_iff.mp H
           obtain ⟨t340, A420, H⟩ := H
           replace H : (some t340) = some r := H
           have A42 := Aside0.mk A420
           clear A420
           obtain rfl := Option.some.inj H
           obtain ⟨Ao43, co43, eo43⟩ := Kd.R_slice HO_5.out
           subst eo43
           obtain ⟨Ao44, co44, eo44⟩ := Kd.R_slice HO_9.out
           subst eo44
           go_wp2_with (first | ((with_reducible refine gate_callee (f := 15) rfl ?_); refine goesL_ (some 78) rfl rfl Try.func15 (by kernel_rfl) rfl #[.slice Ao43 t315.length co43, .slice Ao44 x9_2.length co44] rfl (by (try simp only [List.map_toArray, List.map_cons, List.map_nil]); first | done | rfl | (simp only [List.length_drop, List.length_take]; rfl)) ?_; (with_reducible refine (cellarerref02_Same.calls k2 _ _ t315 _ _ x9_2 true _ ?side1 ?side2 ?side3 ?side4 A33.out).mono ?_); (case side1 => repeat (first | exact (Kd.R_reads' HO_5.out).2.2 | (with_reducible refine Kd.C_alloc ?_ _) | (with_reducible refine Kd.C_drewN ?_ _) | (with_reducible refine Kd.C_drew ?_))); (case side2 => exact (Kd.R_reads' HO_5.out).2.1); (case side3 => repeat (first | exact (Kd.R_reads' HO_9.out).2.2 | (with_reducible refine Kd.C_alloc ?_ _) | (with_reducible refine Kd.C_drewN ?_ _) | (with_reducible refine Kd.C_drew ?_))); (case side4 => exact (Kd.R_reads' HO_9.out).2.1); rintro e w' ⟨rfl, ⟨nd, rfl⟩⟩; refine ⟨_, rfl, ?_⟩; have hcz45_0 : wr.cell? ⟨gb328, 0, none⟩ = some (.slice Ao13 t319.length co13) := (blk_cell BK328.out 0).trans rfl; have hcz45_1 : wr.cell? ⟨gb328, 1, none⟩ = some (.slice Ao15 t322.length co15) := (blk_cell BK328.out 1).trans rfl; have hcz45_2 : wr.cell? ⟨gb328, 2, none⟩ = some (.bool false) := (blk_cell BK328.out 2).trans rfl; have hcz45_3 : wr.cell? ⟨gb328, 3, none⟩ = some (.string t326) := (blk_cell BK328.out 3).trans rfl; have hfz45_0 := blk_frozen BK328.out 0; have hfz45_1 := blk_frozen BK328.out 1; have hfz45_2 := blk_frozen BK328.out 2; have hfz45_3 := blk_frozen BK328.out 3) | (go_at_call 15; (with_reducible refine (cellarerref02_Same.calls k2 _ _ t319 _ _ x9_2 true _ ?side1 ?side2 ?side3 ?side4 A35.out).mono ?_); (case side1 => repeat (first | exact (Kd.R_reads' HO_329000.out).2.2 | (with_reducible refine Kd.C_alloc ?_ _) | (with_reducible refine Kd.C_drewN ?_ _) | (with_reducible refine Kd.C_drew ?_))); (case side2 => exact (Kd.R_reads' HO_329000.out).2.1); (case side3 => repeat (first | exact (Kd.R_reads' HO_9.out).2.2 | (with_reducible refine Kd.C_alloc ?_ _) | (with_reducible refine Kd.C_drewN ?_ _) | (with_reducible refine Kd.C_drew ?_))); (case side4 => exact (Kd.R_reads' HO_9.out).2.1); rintro e w' ⟨rfl, ⟨nd, rfl⟩⟩) | (go_at_call 14; (with_reducible refine (cellarerlaw07_awake.calls  t340 _ A42.out).mono ?_); rintro e w46 ⟨rfl, hb⟩; have n0_ := Aside0.mk (Kd.S_below (by (with_reducible repeat (first | apply Kd.S_alloc | apply Kd.S_drewN | apply Kd.S_drew)); exact HO_0.out) hb); have n1_ := Aside0.mk (Kd.R_below (by (with_reducible repeat (first | apply Kd.R_alloc | apply Kd.R_drewN | apply Kd.R_drew)); exact HO_5.out) hb); have n2_ := Aside0.mk (Kd.R_below (by (with_reducible repeat (first | apply Kd.R_alloc | apply Kd.R_drewN | apply Kd.R_drew)); exact HO_9.out) hb); have n3_ := Aside0.mk (Kd.R_below (by (with_reducible repeat (first | apply Kd.R_alloc | apply Kd.R_drewN | apply Kd.R_drew)); exact HO_329000.out) hb); have n4_ := Aside0.mk (Kd.R_below (by (with_reducible repeat (first | apply Kd.R_alloc | apply Kd.R_drewN | apply Kd.R_drew)); exact HO_329001.out) hb); have n5_ := Aside0.mk (blk_below (g := gb328) (o := .cells #[.slice Ao13 t319.length co13, .slice Ao15 t322.length co15, .bool false, .string t326] 29 (0, 0)) (by (with_reducible repeat (first | refine blk_drewN ?_ _ | refine blk_drew ?_ | refine blk_alloc ?_ _)); exact BK328.out) hb); have n6_ := Aside0.mk (below_step (by repeat (first | (with_reducible first | exact HB.out | apply below_alloc | apply pw_below_drewN | apply below_drew1 | refine below_set ?_ GE328.out) | exact HB.out)) hb); clear HO_0; clear HO_5; clear HO_9; clear HO_329000; clear HO_329001; clear BK328; clear HB; have HO_0 := n0_; have HO_5 := n1_; have HO_9 := n2_; have HO_329000 := n3_; have HO_329001 := n4_; have BK328 := n5_; have HB := n6_; clear n0_ n1_ n2_ n3_ n4_ n5_ n6_; (try clear hb); (try clear hb2); (try clear hk); (try clear hi)))
           go_ret
           exact ⟨by first | rfl | (simp [errW_none, errW_some] <;> rfl) | (simp [*, errW_none, errW_some] <;> rfl), by repeat (first | (with_reducible first | exact HB.out | apply below_alloc | apply pw_below_drewN | apply below_drew1 | refine below_set ?_ GE328.out) | exact HB.out)⟩
         ·rw [if_neg c37] at H
          have c37b0 : ((t322.length : Int) == 0) = false := beq_eq_false_iff_ne.mpr c37
          have c37b1 : ((t322.length : Int) != 0) = true := bne_iff_ne.mpr c37
          have c37b2 : ¬ (t322 = []) := fun h_ => c37 (by rw [h_]; rfl)
          obtain rfl := Option.some.inj H
          obtain ⟨Ao47, co47, eo47⟩ := Kd.R_slice HO_5.out
          subst eo47
          obtain ⟨Ao48, co48, eo48⟩ := Kd.R_slice HO_9.out
          subst eo48
          go_wp2_with (first | ((with_reducible refine gate_callee (f := 15) rfl ?_); refine goesL_ (some 78) rfl rfl Try.func15 (by kernel_rfl) rfl #[.slice Ao47 t315.length co47, .slice Ao48 x9_2.length co48] rfl (by (try simp only [List.map_toArray, List.map_cons, List.map_nil]); first | done | rfl | (simp only [List.length_drop, List.length_take]; rfl)) ?_; (with_reducible refine (cellarerref02_Same.calls k2 _ _ t315 _ _ x9_2 true _ ?side1 ?side2 ?side3 ?side4 A33.out).mono ?_); (case side1 => repeat (first | exact (Kd.R_reads' HO_5.out).2.2 | (with_reducible refine Kd.C_alloc ?_ _) | (with_reducible refine Kd.C_drewN ?_ _) | (with_reducible refine Kd.C_drew ?_))); (case side2 => exact (Kd.R_reads' HO_5.out).2.1); (case side3 => repeat (first | exact (Kd.R_reads' HO_9.out).2.2 | (with_reducible refine Kd.C_alloc ?_ _) | (with_reducible refine Kd.C_drewN ?_ _) | (with_reducible refine Kd.C_drew ?_))); (case side4 => exact (Kd.R_reads' HO_9.out).2.1); rintro e w' ⟨rfl, ⟨nd, rfl⟩⟩; refine ⟨_, rfl, ?_⟩; have hcz49_0 : wr.cell? ⟨gb328, 0, none⟩ = some (.slice Ao13 t319.length co13) := (blk_cell BK328.out 0).trans rfl; have hcz49_1 : wr.cell? ⟨gb328, 1, none⟩ = some (.slice Ao15 t322.length co15) := (blk_cell BK328.out 1).trans rfl; have hcz49_2 : wr.cell? ⟨gb328, 2, none⟩ = some (.bool t325) := (blk_cell BK328.out 2).trans rfl; have hcz49_3 : wr.cell? ⟨gb328, 3, none⟩ = some (.string t326) := (blk_cell BK328.out 3).trans rfl; have hfz49_0 := blk_frozen BK328.out 0; have hfz49_1 := blk_frozen BK328.out 1; have hfz49_2 := blk_frozen BK328.out 2; have hfz49_3 := blk_frozen BK328.out 3) | (go_at_call 15; (with_reducible refine (cellarerref02_Same.calls k2 _ _ t319 _ _ x9_2 true _ ?side1 ?side2 ?side3 ?side4 A35.out).mono ?_); (case side1 => repeat (first | exact (Kd.R_reads' HO_329000.out).2.2 | (with_reducible refine Kd.C_alloc ?_ _) | (with_reducible refine Kd.C_drewN ?_ _) | (with_reducible refine Kd.C_drew ?_))); (case side2 => exact (Kd.R_reads' HO_329000.out).2.1); (case side3 => repeat (first | exact (Kd.R_reads' HO_9.out).2.2 | (with_reducible refine Kd.C_alloc ?_ _) | (with_reducible refine Kd.C_drewN ?_ _) | (with_reducible refine Kd.C_drew ?_))); (case side4 => exact (Kd.R_reads' HO_9.out).2.1); rintro e w' ⟨rfl, ⟨nd, rfl⟩⟩))
          go_ret
          exact ⟨by first | rfl | (simp [errW_none, errW_some] <;> rfl) | (simp [*, errW_none, errW_some] <;> rfl), by repeat (first | (with_reducible first | exact HB.out | apply below_alloc | apply pw_below_drewN | apply below_drew1 | refine below_set ?_ GE328.out) | exact HB.out)⟩
        ·replace c36 := Bool.eq_false_iff.mpr c36
         subst c36
         have H1 : (some false) = some r := by rw [if_neg (show ¬ (false = true) by decide)] at H; exact H
         clear H
         have H := H1
         clear H1
         obtain rfl := Option.some.inj H
         obtain ⟨Ao50, co50, eo50⟩ := Kd.R_slice HO_5.out
         subst eo50
         obtain ⟨Ao51, co51, eo51⟩ := Kd.R_slice HO_9.out
         subst eo51
         go_wp2_with (first | ((with_reducible refine gate_callee (f := 15) rfl ?_); refine goesL_ (some 78) rfl rfl Try.func15 (by kernel_rfl) rfl #[.slice Ao50 t315.length co50, .slice Ao51 x9_2.length co51] rfl (by (try simp only [List.map_toArray, List.map_cons, List.map_nil]); first | done | rfl | (simp only [List.length_drop, List.length_take]; rfl)) ?_; (with_reducible refine (cellarerref02_Same.calls k2 _ _ t315 _ _ x9_2 true _ ?side1 ?side2 ?side3 ?side4 A33.out).mono ?_); (case side1 => repeat (first | exact (Kd.R_reads' HO_5.out).2.2 | (with_reducible refine Kd.C_alloc ?_ _) | (with_reducible refine Kd.C_drewN ?_ _) | (with_reducible refine Kd.C_drew ?_))); (case side2 => exact (Kd.R_reads' HO_5.out).2.1); (case side3 => repeat (first | exact (Kd.R_reads' HO_9.out).2.2 | (with_reducible refine Kd.C_alloc ?_ _) | (with_reducible refine Kd.C_drewN ?_ _) | (with_reducible refine Kd.C_drew ?_))); (case side4 => exact (Kd.R_reads' HO_9.out).2.1); rintro e w' ⟨rfl, ⟨nd, rfl⟩⟩; refine ⟨_, rfl, ?_⟩; have hcz52_0 : wr.cell? ⟨gb328, 0, none⟩ = some (.slice Ao13 t319.length co13) := (blk_cell BK328.out 0).trans rfl; have hcz52_1 : wr.cell? ⟨gb328, 1, none⟩ = some (.slice Ao15 t322.length co15) := (blk_cell BK328.out 1).trans rfl; have hcz52_2 : wr.cell? ⟨gb328, 2, none⟩ = some (.bool t325) := (blk_cell BK328.out 2).trans rfl; have hcz52_3 : wr.cell? ⟨gb328, 3, none⟩ = some (.string t326) := (blk_cell BK328.out 3).trans rfl; have hfz52_0 := blk_frozen BK328.out 0; have hfz52_1 := blk_frozen BK328.out 1; have hfz52_2 := blk_frozen BK328.out 2; have hfz52_3 := blk_frozen BK328.out 3) | (go_at_call 15; (with_reducible refine (cellarerref02_Same.calls k2 _ _ t319 _ _ x9_2 false _ ?side1 ?side2 ?side3 ?side4 A35.out).mono ?_); (case side1 => repeat (first | exact (Kd.R_reads' HO_329000.out).2.2 | (with_reducible refine Kd.C_alloc ?_ _) | (with_reducible refine Kd.C_drewN ?_ _) | (with_reducible refine Kd.C_drew ?_))); (case side2 => exact (Kd.R_reads' HO_329000.out).2.1); (case side3 => repeat (first | exact (Kd.R_reads' HO_9.out).2.2 | (with_reducible refine Kd.C_alloc ?_ _) | (with_reducible refine Kd.C_drewN ?_ _) | (with_reducible refine Kd.C_drew ?_))); (case side4 => exact (Kd.R_reads' HO_9.out).2.1); rintro e w' ⟨rfl, ⟨nd, rfl⟩⟩))
         go_ret
         exact ⟨by first | rfl | (simp [errW_none, errW_some] <;> rfl) | (simp [*, errW_none, errW_some] <;> rfl), by repeat (first | (with_reducible first | exact HB.out | apply below_alloc | apply pw_below_drewN | apply below_drew1 | refine below_set ?_ GE328.out) | exact HB.out)⟩
       ·replace c34 := Bool.eq_false_iff.mpr c34
        subst c34
        have H1 : (some false) = some r := by rw [if_neg (show ¬ (false = true) by decide)] at H; exact H
        clear H
        have H := H1
        clear H1
        obtain rfl := Option.some.inj H
        obtain ⟨Ao53, co53, eo53⟩ := Kd.R_slice HO_5.out
        subst eo53
        obtain ⟨Ao54, co54, eo54⟩ := Kd.R_slice HO_9.out
        subst eo54
        go_wp2_with (first | ((with_reducible refine gate_callee (f := 15) rfl ?_); refine goesL_ (some 78) rfl rfl Try.func15 (by kernel_rfl) rfl #[.slice Ao53 t315.length co53, .slice Ao54 x9_2.length co54] rfl (by (try simp only [List.map_toArray, List.map_cons, List.map_nil]); first | done | rfl | (simp only [List.length_drop, List.length_take]; rfl)) ?_; (with_reducible refine (cellarerref02_Same.calls k2 _ _ t315 _ _ x9_2 false _ ?side1 ?side2 ?side3 ?side4 A33.out).mono ?_); (case side1 => repeat (first | exact (Kd.R_reads' HO_5.out).2.2 | (with_reducible refine Kd.C_alloc ?_ _) | (with_reducible refine Kd.C_drewN ?_ _) | (with_reducible refine Kd.C_drew ?_))); (case side2 => exact (Kd.R_reads' HO_5.out).2.1); (case side3 => repeat (first | exact (Kd.R_reads' HO_9.out).2.2 | (with_reducible refine Kd.C_alloc ?_ _) | (with_reducible refine Kd.C_drewN ?_ _) | (with_reducible refine Kd.C_drew ?_))); (case side4 => exact (Kd.R_reads' HO_9.out).2.1); rintro e w' ⟨rfl, ⟨nd, rfl⟩⟩; refine ⟨_, rfl, ?_⟩))
        go_ret
        exact ⟨by first | rfl | (simp [errW_none, errW_some] <;> rfl) | (simp [*, errW_none, errW_some] <;> rfl), by repeat (first | (with_reducible first | exact HB.out | apply below_alloc | apply pw_below_drewN | apply below_drew1 | refine below_set ?_ GE328.out) | exact HB.out)⟩

/-- THE ONE PURE STATEMENT of cellarerlaw07_PagerPlain. -/
-- GIVEN cellarerlaw07_PagerPlain.Pure
def cellarerlaw07_PagerPlain.Pure : Prop := ∀ (l0 : List (S50)) (a1 : ByteArray), (l0.length ≤ maxLen ∧ ∀ y1_ ∈ l0, okS50 y1_) → a1.size ≤ maxLen → ∃ k, cellarerlaw07_PagerPlain.f k l0 a1 = some true

end Go.Proofs.Ytcnnijkgiioniaa.P
