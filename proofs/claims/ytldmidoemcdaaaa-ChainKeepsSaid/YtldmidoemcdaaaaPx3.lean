/- Printed by a program of this session (wip/tools/gprint.py, over the kit's print) out of the translation: functions and their contracts. -/
import Derived.Test.YtldmidoemcdaaaaPx0
import Derived.Test.YtldmidoemcdaaaaVPut
namespace Go.Proofs.Ytldmidoemcdaaaa.P
open Go.RowKit Go.Proofs.YtldmidoemcdaaaaW.PrintWords Go.Proofs.YtldmidoemcdaaaaW.PrintLast Go.Proofs.YtldmidoemcdaaaaW.PrintMore
attribute [local go_sem] max2_int min2_int max_two min_two max_three min_three max_four min_four   -- for this text's walks alone
set_option linter.unusedVariables false
set_option linter.unusedSimpArgs false

/-! ### chain_Put: function 12 (given) -/
-- GIVEN chain_Put
def chain_Put.f (l0 : List (S25)) (a1 : Int) (a2_0 : Int) (a2_1 : ByteArray) (a2_2 : Bool) (a2_3 : Int) : Option (List (S25) × Int) := if (Lit.int .i64 a1).wf = true then some (Go.Proofs.Ytldmidoemcdaaaa.ChSpec.putF l0 a1 ⟨a2_0, a2_1, a2_2, a2_3⟩) else none
theorem chain_Put.calls (A0 : Option Addr) (c0 : Nat) (l0 : List (S25)) (a1 : Int) (a2_0 : Int) (a2_1 : ByteArray) (a2_2 : Bool) (a2_3 : Int) (r1 : List (S25)) (r2 : Int) (w : World) (hr0 : Kd.C k25 w A0 l0.length l0) (hc0 : l0.length ≤ c0) (h : chain_Put.f l0 a1 a2_0 a2_1 a2_2 a2_3 = some (r1, r2)) :
    Calls Try.prog 12 #[.slice A0 l0.length c0, .int .i64 a1, .agg #[.int .u64 a2_0, .string a2_1, .bool a2_2, .int .i64 a2_3]] w fun e w' => ∃ v0_ : Value, e = .returned (.tuple #[v0_, .int .i64 r2]) ∧ Kd.R k25 25 w' w.heap.size (fun _ => True) v0_ r1 ∧ Below w.heap.size w w' := by
  unfold chain_Put.f at h
  split at h
  · rename_i hs
    have h1 := Option.some.inj h
    have h2 := Go.Proofs.Ytldmidoemcdaaaa.VPut.put_any A0 c0 l0 a1 ⟨a2_0, a2_1, a2_2, a2_3⟩ w hr0 hc0 hs
    rw [h1] at h2
    exact h2
  · cases h


end Go.Proofs.Ytldmidoemcdaaaa.P
