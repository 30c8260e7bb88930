/- Printed by a program of this session (wip/tools/gprint.py, over the kit's print) out of the translation: functions and their contracts. -/
import Derived.KernelRfl
import Derived.Test.YtcnnijkgiioniaaProg
import Derived.Test.YtcnnijkgiioniaaCmp
import Derived.Test.YtcnnijkgiioniaaOpens
import Derived.Test.YtcnnijkgiioniaaPx0
import Derived.Test.YtcnnijkgiioniaaV0
namespace Go.Proofs.Ytcnnijkgiioniaa.P
open Go.RowKit Go.Proofs.YtcnnijkgiioniaaW.PrintWords Go.Proofs.YtcnnijkgiioniaaW.PrintLast Go.Proofs.YtcnnijkgiioniaaW.PrintMore
attribute [local go_sem] max2_int min2_int max_two min_two max_three min_three max_four min_four   -- for this text's walks alone
set_option linter.unusedVariables false
set_option linter.unusedSimpArgs false

open Go.Proofs.YtcnnijkgiioniaaW.Opens
set_option maxRecDepth 100000
def okS52 (y : S52) : Prop := (Lit.int .u64 y.f0).wf = true ∧ y.f1.size ≤ maxLen ∧ True ∧ (Lit.int .i64 y.f3).wf = true
theorem opens52 : Opens Try.prog k52 52 okS52 := by
  have h := Opens.struct (fun x : S52 => (x.f0, x.f1, x.f2, x.f3)) (fun p => (⟨p.1, p.2.1, p.2.2.1, p.2.2.2⟩ : S52)) (fun _ => rfl) Try.underlying52 (by kernel_rfl) (OpensF.cons rfl (Opens.int Try.underlying23 (by kernel_rfl)) (OpensF.cons rfl (Opens.string Try.underlying9 (by kernel_rfl)) (OpensF.cons rfl (Opens.bool Try.underlying4 (by kernel_rfl)) (OpensF.one rfl (Opens.int Try.underlying3 (by kernel_rfl))))))
  exact h.imp (fun _ h => h)
def okS50 (y : S50) : Prop := y.f0.size ≤ maxLen ∧ (y.f1.length ≤ maxLen ∧ ∀ y1_ ∈ y.f1, okS52 y1_)
theorem opens50 : Opens Try.prog k50 50 okS50 := by
  have h := Opens.struct (fun x : S50 => (x.f0, x.f1)) (fun p => (⟨p.1, p.2⟩ : S50)) (fun _ => rfl) Try.underlying50 (by kernel_rfl) (OpensF.cons rfl (Opens.string Try.underlying9 (by kernel_rfl)) (OpensF.one rfl (Opens.slice Try.underlying48 (by kernel_rfl) opens52)))
  exact h.imp (fun _ h => h)
def okS25 (y : S25) : Prop := (y.f0.length ≤ maxLen ∧ ∀ y1_ ∈ y.f0, okS50 y1_) ∧ y.f1.size ≤ maxLen ∧ y.f2.size ≤ maxLen ∧ y.f3.size ≤ maxLen ∧ (Lit.int .u64 y.f4).wf = true ∧ (Lit.int .i64 y.f5).wf = true
theorem opens25 : Opens Try.prog k25 25 okS25 := by
  have h := Opens.struct (fun x : S25 => (x.f0, x.f1, x.f2, x.f3, x.f4, x.f5)) (fun p => (⟨p.1, p.2.1, p.2.2.1, p.2.2.2.1, p.2.2.2.2.1, p.2.2.2.2.2⟩ : S25)) (fun _ => rfl) Try.underlying25 (by kernel_rfl) (OpensF.cons rfl (Opens.slice Try.underlying22 (by kernel_rfl) opens50) (OpensF.cons rfl (Opens.string Try.underlying9 (by kernel_rfl)) (OpensF.cons rfl (Opens.string Try.underlying9 (by kernel_rfl)) (OpensF.cons rfl (Opens.string Try.underlying9 (by kernel_rfl)) (OpensF.cons rfl (Opens.int Try.underlying23 (by kernel_rfl)) (OpensF.one rfl (Opens.int Try.underlying3 (by kernel_rfl))))))))
  exact h.imp (fun _ h => h)
end Go.Proofs.Ytcnnijkgiioniaa.P
