/- For every input CellarerListed returns true, and each argument reads behind the call as it read before: no further condition. -/
import Derived.WalkKit
import Derived.ProofKit
import Derived.OpenShut
import Derived.ShutString
import Derived.ChangeOld
import Derived.Below
import Derived.SizedLaws
import Derived.Carry
import Derived.Lib.SmallJoins
import Derived.LaidMore
import Derived.Stop.Joined
import Derived.SevenTiedAt
import Derived.KernelRfl
import Derived.Test.YtpccbmechgkogaaGreatDoorProg
import Derived.Test.YtpccbmechgkogaaGreatDoorCards
import Derived.Test.YtpccbmechgkogaaGreatDoorRows
import Derived.Test.YtpccbmechgkogaaGreatDoorTie
import Derived.Test.YtpccbmechgkogaaGreatDoorV0
import Derived.Test.YtpccbmechgkogaaGreatDoorZ00
import Derived.Test.YtpccbmechgkogaaGreatDoorZ01
import Derived.Test.YtpccbmechgkogaaGreatDoorZ02
import Derived.Test.YtpccbmechgkogaaGreatDoorZ21
import Derived.Test.YtpccbmechgkogaaGreatDoorZ22
import Derived.Test.YtpccbmechgkogaaGreatDoorZ23
import Derived.Test.YtpccbmechgkogaaGreatDoorZ31
import Derived.Test.YtpccbmechgkogaaGreatDoorZ32
import Derived.Test.YtpccbmechgkogaaGreatDoorZ33
import Derived.Test.YtpccbmechgkogaaGreatDoorZ39
import Derived.Test.YtpccbmechgkogaaGreatDoorZ47
import Derived.Test.YtpccbmechgkogaaGreatDoorZ48
namespace Go.Proofs.YtpccbmechgkogaaGreatDoor.cellarerListed
open Go.ChangeShapes Go.WideShapes Go.ChangeAt Go.RowKit
open Go.ChangeMaps (open_string shut_string)
open Go.Proofs.YtpccbmechgkogaaGreatDoorW.Opens Go.Proofs.YtpccbmechgkogaaGreatDoorW.PrintWords
set_option linter.unusedVariables false
set_option linter.unusedSimpArgs false
set_option maxRecDepth 100000
def okI (y : P.S228) : Prop := (Lit.int .i64 y.f0).wf = true ∧ (Lit.int .u32 y.f1).wf = true
theorem opensI : Opens Tryz.prog P.k228 228 okI := by
 have h := Opens.struct (fun x : P.S228 => (x.f0, x.f1)) (fun p => (⟨p.1, p.2⟩ : P.S228)) (fun _ => rfl) Tryz.underlying228 (by kernel_rfl) (OpensF.cons rfl (Opens.int Tryz.underlying3 (by kernel_rfl)) (OpensF.one rfl (Opens.int Tryz.underlying60 (by kernel_rfl))))
 exact h.imp (fun _ h => h)
def okQ (y : P.S34) : Prop := (Lit.int .i64 y.f0).wf = true ∧ y.f1.size ≤ maxLen ∧ y.f2.size ≤ maxLen ∧ y.f3.size ≤ maxLen ∧ y.f4.size ≤ maxLen ∧ y.f5.size ≤ maxLen ∧ (Lit.int .u64 y.f6).wf = true ∧ (Lit.int .i64 y.f7).wf = true ∧ (y.f8.length ≤ maxLen ∧ ∀ z ∈ y.f8, okI z)
theorem opensQ : Opens Tryz.prog P.k34 34 okQ := by
 have h := Opens.struct (fun x : P.S34 => (x.f0, x.f1, x.f2, x.f3, x.f4, x.f5, x.f6, x.f7, x.f8)) (fun p => (⟨p.1, p.2.1, p.2.2.1, p.2.2.2.1, p.2.2.2.2.1, p.2.2.2.2.2.1, p.2.2.2.2.2.2.1, p.2.2.2.2.2.2.2.1, p.2.2.2.2.2.2.2.2⟩ : P.S34)) (fun _ => rfl) Tryz.underlying34 (by kernel_rfl)
  (OpensF.cons rfl (Opens.int Tryz.underlying3 (by kernel_rfl)) (OpensF.cons rfl (Opens.string Tryz.underlying9 (by kernel_rfl)) (OpensF.cons rfl (Opens.string Tryz.underlying9 (by kernel_rfl)) (OpensF.cons rfl (Opens.string Tryz.underlying9 (by kernel_rfl)) (OpensF.cons rfl (Opens.string Tryz.underlying9 (by kernel_rfl)) (OpensF.cons rfl (Opens.string Tryz.underlying9 (by kernel_rfl)) (OpensF.cons rfl (Opens.int Tryz.underlying26 (by kernel_rfl)) (OpensF.cons rfl (Opens.int Tryz.underlying3 (by kernel_rfl)) (OpensF.one rfl (Opens.slice Tryz.underlying32 (by kernel_rfl) opensI))))))))))
 exact h.imp (fun _ h => h)
theorem own : ownKnob Tryz.prog.godebug = none := by kernel_rfl
theorem laidOut : laidOutB Tryz.prog = true := by kernel_rfl
theorem door_met (os : Os) (args : Array Value) : laidMetH Tryz.prog [("math/bits.deBruijn32tab", Rows.laid_math_bits_deBruijn32tab), ("math/bits.deBruijn64tab", Rows.laid_math_bits_deBruijn64tab), ("internal/strconv.uint64pow10", Rows.laid_internal_strconv_uint64pow10)] ((World.doorLaid Tryz.prog 400 os).forCall (fun _ _ => 0) ⟨#[], args, []⟩).memory :=
 laidMetH_of_parts3 (fuel := 8) (laidMet_of_run' 8 (by kernel_rfl) (by kernel_rfl)) (by kernel_rfl) (by kernel_rfl)
set_option maxHeartbeats 1600000 in
theorem lifted (os : Os) (started : os.Started) (H : Type) (enc : TypeId × Value → H) :
  ReturnsInHanded {} Tryz.checked os 3 .any (fun w args => (Rows.cellarerListedSpec.pre enc Tryz.prog Tryz.f3 [] false w args ∧ laidMetH Tryz.prog [("math/bits.deBruijn32tab", Rows.laid_math_bits_deBruijn32tab), ("math/bits.deBruijn64tab", Rows.laid_math_bits_deBruijn64tab), ("internal/strconv.uint64pow10", Rows.laid_internal_strconv_uint64pow10)] w) ∧ sizedMet enc Tryz.prog Tryz.f3 (OpenSpec.ofChange Rows.cellarerListedSpec) false w args) (Rows.cellarerListedSpec.post enc Tryz.prog Tryz.f3 false true false false) := by
 refine returnsInHanded_of_change_and (C := Tryz.checked) (X := fun w _ => laidMetH Tryz.prog [("math/bits.deBruijn32tab", Rows.laid_math_bits_deBruijn32tab), ("math/bits.deBruijn64tab", Rows.laid_math_bits_deBruijn64tab), ("internal/strconv.uint64pow10", Rows.laid_internal_strconv_uint64pow10)] w) (fun _ _ _ hh h => h.of_heap hh) own started (by kernel_rfl) Tryz.func3
  (ChangeSpec.witness_shaped (enc := enc) (C := Tryz.checked) (os := os) (X := fun w _ => laidMetH Tryz.prog [("math/bits.deBruijn32tab", Rows.laid_math_bits_deBruijn32tab), ("math/bits.deBruijn64tab", Rows.laid_math_bits_deBruijn64tab), ("internal/strconv.uint64pow10", Rows.laid_internal_strconv_uint64pow10)] w) false (World.doorLaid Tryz.prog 400 os) #[.slice none 0 0] 8 rfl (World.shaped_of_RefB (by kernel_rfl) (by kernel_rfl)) (by kernel_rfl) (by kernel_rfl) (by kernel_rfl) (door_met os _)) ?_
 intro W base args ds gs before hval0 hW _ _ hL _
 have hval : ∀ (j : Nat) t v, Tryz.f3.params[j]? = some t → args[j]? = some v → Value.okWide Tryz.prog W .any base t v := hval0
 have hW' := hW
 obtain ⟨p, q, hA0, hV, rfl, hfz, hnd⟩ := hW
 have hA : DataW.TrodAll enc Tryz.prog W 0 (fun _ => true) true Tryz.f3.params.toList args.toList ds p := hA0
 rw [Tryz.params3] at hA hval
 obtain ⟨v0, vs0, d0, ds0, p0, q0, hargs, rfl, rfl, h0, r0⟩ := trodAll_cons hA
 obtain ⟨rfl, rfl, rfl⟩ := trodAll_nil r0
 obtain rfl : args = #[v0] := by cases args; simp_all
 obtain ⟨rfl, rfl⟩ := trodVars_none hV
 obtain ⟨a0, len0, cap0, rfl⟩ := okWide_slice Tryz.underlying22 (hval 0 22 v0 rfl rfl)
 have kk0 := h0
 have lt0 : ∀ x ∈ p0, x.block < W.heap.size := by obtain ⟨m, hm⟩ := kk0; exact DataW.trod_lt m _ _ _ hm
 obtain ⟨fuel0, hf0⟩ := h0
 obtain ⟨l0, hK0, ok0⟩ := (show Opens Tryz.prog (Kd.slice 34 P.k34) 22 _ from (Opens.slice Tryz.underlying22 (by kernel_rfl) opensQ)).2 _ _ _ _ _ _ _ hf0
 obtain ⟨A0, c0, he0, hc0, hr0⟩ := hK0
 simp [Value.cells] at he0
 obtain ⟨rfl, rfl, rfl⟩ := he0
 clear hA0 hval0
 refine (List10.list_any _ _ l0 W hr0 hc0 (fun q hq => (ok0.2 q hq).1)).mono fun e W' ⟨he, bel0⟩ => ?_
 have bel : Below W.heap.size W W' := bel0
 subst he
 exact ⟨_, rfl, _, _, _, [], _, [], hW', trodAll_mk1 (shut_bool Tryz.underlying4 _), (trodAll_cons_mk (Below.trod laidOut (by kernel_rfl) (of_decide_eq_true (by kernel_rfl)) kk0 bel lt0) trodAll_mk0), rfl, bel.frame _, fun h => by cases h⟩
theorem over : Rows.CellarerListedSaid :=
 OpenClaim.holds_of_wide 3 Tryz.f3 rfl rfl rfl rfl rfl rfl rfl ⟨rfl, rfl, rfl, rfl, rfl⟩ rfl rfl rfl rfl rfl (by kernel_rfl) Tryz.func3 (by kernel_rfl)
  (of_decide_eq_true (by kernel_rfl)) (by unfold Func.isWrapper; first | (rw [if_pos (by decide +kernel)]; kernel_rfl) | (rw [if_neg (by decide +kernel)]; exact ⟨rfl, rfl⟩))
  (fun os started H enc _ => lifted os started H enc)
open Go in
theorem proved : Rows.CellarerListedCardSaid :=
 Claim7.holds_tied_plain_at .later [] [.data, .data, .data] true (true, "a59a4175b4c48d821f444fd9419ccf13fed2e05470e24ba97a223ee60ad3b873") false
  over (fun _ h => by cases h) (by kernel_rfl) (fun _ h => by cases h) cellarerListed_row_tie rfl ⟨rfl, rfl⟩ (by kernel_rfl) rfl
  (fun f fn hf hfn => by
   obtain rfl : f = 3 := Option.some.inj ((show Tryz.prog.funcNamed "cellarer/cellarertop.CellarerListed" = some 3 by kernel_rfl).symm.trans hf) |>.symm
   obtain rfl : fn = Tryz.f3 := (Option.some.inj (Tryz.func3.symm.trans hfn)).symm
   exact ⟨by kernel_rfl, fun j t ht => by
    rw [Tryz.params3] at ht
    have hm : t ∈ [22] := by simpa using Array.mem_of_getElem? ht
    have hall : ([22].all fun u => !Tryz.prog.wantsStandIn u) = true := by kernel_rfl
    exact (show Tryz.prog.wantsStandIn t = false by simpa using List.all_eq_true.1 hall t hm)⟩)
  (by kernel_rfl)
#print axioms proved
end Go.Proofs.YtpccbmechgkogaaGreatDoor.cellarerListed
namespace Go.Proofs.YtpccbmechgkogaaGreatDoor
theorem cellarerListed_holds : Rows.CellarerListedCardSaid := cellarerListed.proved
end Go.Proofs.YtpccbmechgkogaaGreatDoor
