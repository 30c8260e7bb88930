/- Printed by a program of this session (wip/tools/gprint.py, over the kit's print) out of the translation: functions and their contracts. -/
import Derived.Test.YtgolfeglabmkkaaPx0
import Derived.Test.YtgolfeglabmkkaaOpens
import Derived.KernelRfl
namespace Go.Proofs.Ytgolfeglabmkkaa.P
open Go.RowKit Go.Proofs.YtgolfeglabmkkaaW.PrintWords Go.Proofs.YtgolfeglabmkkaaW.PrintLast Go.Proofs.YtgolfeglabmkkaaW.PrintMore
attribute [local go_sem] max2_int min2_int max_two min_two max_three min_three max_four min_four   -- for this text's walks alone
set_option linter.unusedVariables false
set_option linter.unusedSimpArgs false

open Go.Proofs.YtgolfeglabmkkaaW.Opens
def okS50 (y : S50) : Prop := (Lit.int .u64 y.f0).wf = true ∧ y.f1.size ≤ maxLen ∧ True ∧ (Lit.int .i64 y.f3).wf = true
theorem opens50 : Opens Try.prog k50 50 okS50 := by
  have h := Opens.struct (fun x : S50 => (x.f0, x.f1, x.f2, x.f3)) (fun p => (⟨p.1, p.2.1, p.2.2.1, p.2.2.2⟩ : S50)) (fun _ => rfl) Try.underlying50 (by kernel_rfl) (OpensF.cons rfl (Opens.int Try.underlying48 (by kernel_rfl)) (OpensF.cons rfl (Opens.string Try.underlying9 (by kernel_rfl)) (OpensF.cons rfl (Opens.bool Try.underlying4 (by kernel_rfl)) (OpensF.one rfl (Opens.int Try.underlying3 (by kernel_rfl))))))
  exact h.imp (fun _ h => h)
def okS38 (y : S38) : Prop := y.f0.size ≤ maxLen ∧ (y.f1.length ≤ maxLen ∧ ∀ y1_ ∈ y.f1, okS50 y1_)
theorem opens38 : Opens Try.prog k38 38 okS38 := by
  have h := Opens.struct (fun x : S38 => (x.f0, x.f1)) (fun p => (⟨p.1, p.2⟩ : S38)) (fun _ => rfl) Try.underlying38 (by kernel_rfl) (OpensF.cons rfl (Opens.string Try.underlying9 (by kernel_rfl)) (OpensF.one rfl (Opens.slice Try.underlying23 (by kernel_rfl) opens50)))
  exact h.imp (fun _ h => h)
def okS43 (y : S43) : Prop := (y.f0.length ≤ maxLen ∧ ∀ y1_ ∈ y.f0, okS38 y1_) ∧ y.f1.size ≤ maxLen ∧ y.f2.size ≤ maxLen ∧ (y.f3.length ≤ maxLen ∧ ∀ y1_ ∈ y.f3, okS50 y1_)
theorem opens43 : Opens Try.prog k43 43 okS43 := by
  have h := Opens.struct (fun x : S43 => (x.f0, x.f1, x.f2, x.f3)) (fun p => (⟨p.1, p.2.1, p.2.2.1, p.2.2.2⟩ : S43)) (fun _ => rfl) Try.underlying43 (by kernel_rfl) (OpensF.cons rfl (Opens.slice Try.underlying22 (by kernel_rfl) opens38) (OpensF.cons rfl (Opens.string Try.underlying9 (by kernel_rfl)) (OpensF.cons rfl (Opens.string Try.underlying9 (by kernel_rfl)) (OpensF.one rfl (Opens.slice Try.underlying23 (by kernel_rfl) opens50)))))
  exact h.imp (fun _ h => h)
end Go.Proofs.Ytgolfeglabmkkaa.P
