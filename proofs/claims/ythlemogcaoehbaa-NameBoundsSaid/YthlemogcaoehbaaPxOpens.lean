/- Printed by a program of this session (wip/tools/gprint.py, over the kit's print) out of the translation: functions and their contracts. -/
import Derived.Test.YthlemogcaoehbaaPx0
import Derived.Test.YthlemogcaoehbaaOpens
import Derived.KernelRfl
namespace Go.Proofs.Ythlemogcaoehbaa.P
open Go.RowKit Go.Proofs.YthlemogcaoehbaaW.PrintWords Go.Proofs.YthlemogcaoehbaaW.PrintLast Go.Proofs.YthlemogcaoehbaaW.PrintMore
attribute [local go_sem] max2_int min2_int max_two min_two max_three min_three max_four min_four   -- for this text's walks alone
set_option linter.unusedVariables false
set_option linter.unusedSimpArgs false

open Go.Proofs.YthlemogcaoehbaaW.Opens
def okS32 (y : S32) : Prop := y.f0.size ≤ maxLen ∧ y.f1.size ≤ maxLen ∧ y.f2.size ≤ maxLen ∧ y.f3.size ≤ maxLen
theorem opens32 : Opens Try.prog k32 32 okS32 := by
  have h := Opens.struct (fun x : S32 => (x.f0, x.f1, x.f2, x.f3)) (fun p => (⟨p.1, p.2.1, p.2.2.1, p.2.2.2⟩ : S32)) (fun _ => rfl) Try.underlying32 (by kernel_rfl) (OpensF.cons rfl (Opens.string Try.underlying9 (by kernel_rfl)) (OpensF.cons rfl (Opens.string Try.underlying9 (by kernel_rfl)) (OpensF.cons rfl (Opens.string Try.underlying9 (by kernel_rfl)) (OpensF.one rfl (Opens.string Try.underlying9 (by kernel_rfl))))))
  exact h.imp (fun _ h => h)
end Go.Proofs.Ythlemogcaoehbaa.P
