/- Printed by a program of this session (wip/tools/gprint.py, over the kit's print) out of the translation: functions and their contracts. -/
import Derived.Test.YtabkbjhhhfeanaaDoorQx0
import Derived.Test.YtabkbjhhhfeanaaDoorOpens
import Derived.KernelRfl
namespace Go.Proofs.YtabkbjhhhfeanaaDoor.Q
open Go.RowKit Go.Proofs.YtabkbjhhhfeanaaDoorW.PrintWords Go.Proofs.YtabkbjhhhfeanaaDoorW.PrintLast Go.Proofs.YtabkbjhhhfeanaaDoorW.PrintMore
attribute [local go_sem] max2_int min2_int max_two min_two max_three min_three max_four min_four   -- for this text's walks alone
set_option linter.unusedVariables false
set_option linter.unusedSimpArgs false

open Go.Proofs.YtabkbjhhhfeanaaDoorW.Opens
def okS23 (y : S23) : Prop := (Lit.int .i64 y.f0).wf = true ∧ (Lit.int .i64 y.f1).wf = true ∧ True ∧ True
theorem opens23 : Opens Tryd.prog k23 23 okS23 := by
  have h := Opens.struct (fun x : S23 => (x.f0, x.f1, x.f2, x.f3)) (fun p => (⟨p.1, p.2.1, p.2.2.1, p.2.2.2⟩ : S23)) (fun _ => rfl) Tryd.underlying23 (by kernel_rfl) (OpensF.cons rfl (Opens.int Tryd.underlying3 (by kernel_rfl)) (OpensF.cons rfl (Opens.int Tryd.underlying3 (by kernel_rfl)) (OpensF.cons rfl (Opens.bool Tryd.underlying4 (by kernel_rfl)) (OpensF.one rfl (Opens.bool Tryd.underlying4 (by kernel_rfl))))))
  exact h.imp (fun _ h => h)
end Go.Proofs.YtabkbjhhhfeanaaDoor.Q
