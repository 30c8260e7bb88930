/- Printed by a program of this session (wip/tools/gprint.py, over the kit's print) out of the translation: functions and their contracts. -/
import Derived.Test.YtldmidoemcdaaaaPx0
import Derived.Test.YtldmidoemcdaaaaOpens
import Derived.KernelRfl
namespace Go.Proofs.Ytldmidoemcdaaaa.P
open Go.RowKit Go.Proofs.YtldmidoemcdaaaaW.PrintWords Go.Proofs.YtldmidoemcdaaaaW.PrintLast Go.Proofs.YtldmidoemcdaaaaW.PrintMore
attribute [local go_sem] max2_int min2_int max_two min_two max_three min_three max_four min_four   -- for this text's walks alone
set_option linter.unusedVariables false
set_option linter.unusedSimpArgs false

open Go.Proofs.YtldmidoemcdaaaaW.Opens
set_option maxRecDepth 100000
def okS25 (y : S25) : Prop := (Lit.int .u64 y.f0).wf = true ∧ y.f1.size ≤ maxLen ∧ True ∧ (Lit.int .i64 y.f3).wf = true
theorem opens25 : Opens Try.prog k25 25 okS25 := by
  have h := Opens.struct (fun x : S25 => (x.f0, x.f1, x.f2, x.f3)) (fun p => (⟨p.1, p.2.1, p.2.2.1, p.2.2.2⟩ : S25)) (fun _ => rfl) Try.underlying25 (by kernel_rfl) (OpensF.cons rfl (Opens.int Try.underlying23 (by kernel_rfl)) (OpensF.cons rfl (Opens.string Try.underlying9 (by kernel_rfl)) (OpensF.cons rfl (Opens.bool Try.underlying4 (by kernel_rfl)) (OpensF.one rfl (Opens.int Try.underlying3 (by kernel_rfl))))))
  exact h.imp (fun _ h => h)
def okS42 (y : S42) : Prop := (Lit.int .u8 y.f0).wf = true ∧ True ∧ y.f2.size ≤ maxLen
theorem opens42 : Opens Try.prog k42 42 okS42 := by
  have h := Opens.struct (fun x : S42 => (x.f0, x.f1, x.f2)) (fun p => (⟨p.1, p.2.1, p.2.2⟩ : S42)) (fun _ => rfl) Try.underlying42 (by kernel_rfl) (OpensF.cons rfl (Opens.int Try.underlying5 (by kernel_rfl)) (OpensF.cons rfl (Opens.bool Try.underlying4 (by kernel_rfl)) (OpensF.one rfl (Opens.string Try.underlying9 (by kernel_rfl)))))
  exact h.imp (fun _ h => h)
def okS56 (y : S56) : Prop := (y.f0.length ≤ maxLen ∧ ∀ y1_ ∈ y.f0, okS25 y1_) ∧ (Lit.int .u64 y.f1).wf = true ∧ (Lit.int .u64 y.f2).wf = true ∧ okS25 y.f3
theorem opens56 : Opens Try.prog k56 56 okS56 := by
  have h := Opens.struct (fun x : S56 => (x.f0, x.f1, x.f2, x.f3)) (fun p => (⟨p.1, p.2.1, p.2.2.1, p.2.2.2⟩ : S56)) (fun _ => rfl) Try.underlying56 (by kernel_rfl) (OpensF.cons rfl (Opens.slice Try.underlying22 (by kernel_rfl) opens25) (OpensF.cons rfl (Opens.int Try.underlying23 (by kernel_rfl)) (OpensF.cons rfl (Opens.int Try.underlying23 (by kernel_rfl)) (OpensF.one rfl opens25))))
  exact h.imp (fun _ h => h)
end Go.Proofs.Ytldmidoemcdaaaa.P
