/- A key that begins with a prefix is not less than it, and less than what is behind all that do; one that does not is less than the prefix, or not less than that. -/
import Derived.Test.YthlemogcaoehbaaPx3
import Derived.Test.YthlemogcaoehbaaNmRef
set_option linter.unusedVariables false
set_option linter.unusedSimpArgs false
namespace Go.Proofs.Ythlemogcaoehbaa.Pure
open Go.RowKit Go.Proofs.Ythlemogcaoehbaa.P Go.Proofs.YthlemogcaoehbaaW.PrintWords Go.Proofs.YthlemogcaoehbaaW.PrintLast Go.Proofs.YthlemogcaoehbaaW.PrintMore Go.Proofs.Ythlemogcaoehbaa.PureKit Go.Proofs.Ythlemogcaoehbaa.Name Go.Proofs.Ythlemogcaoehbaa.NameW Go.Proofs.Ythlemogcaoehbaa.NmSpec Go.Proofs.Ythlemogcaoehbaa.NmRef
theorem NameBounds : cellarerlaw01_NameBounds.Pure := by
  intro k0 p0 _ _
  apply Ev.rounds
  unfold cellarerlaw01_NameBounds.f
  refine ev_is (key_few k0) (ev_is (key_few p0) ?_)
  have h1 := small_cutK k0
  have h2 := small_cutK p0
  generalize cutK k0 = key at *
  generalize cutK p0 = pre at *
  have quit : Ev (fun k => cellarerlaw01_NameBounds.j0 k key pre true) true := by
    refine ev_succ ?_
    simp only [cellarerlaw01_NameBounds.j0]
    exact ev_pos trivial (ev_bind awake_is (ev_now _))
  refine ev_is rfl ?_
  by_cases hk : keyB key = true
  · refine ev_pos hk (ev_is rfl ?_)
    by_cases hp : prefixB pre = true
    · rw [hp]
      have hpl := (keyB_iff.1 hk).2.2
      have hoa := oc_afterB hp
      have hin := @in_iff (oc pre) (oc key) hpl
      refine ev_succ ?_
      simp only [cellarerlaw01_NameBounds.j0]
      refine ev_neg (by simp) (ev_bind (after_is pre (by omega)) ?_)
      have hnil : (afterB pre).toList = [] ↔ afterL (oc pre) = [] := by rw [toList_nil, hoa]
      rw [less_oc, less_oc, hoa]
      have tail : ∀ c : Bool, (c = true ↔ oc pre <+: oc key) → Ev (fun k => cellarerlaw01_NameBounds.j1 k key pre (afterB pre) c) true := fun c hc => by
        refine ev_succ ?_
        simp only [cellarerlaw01_NameBounds.j1]
        refine ev_is (under_is key pre) (ev_pos ?_ ?_)
        · rw [beq_iff_eq, Bool.eq_iff_iff, hc, decide_eq_true_iff]
        · by_cases ha : (afterB pre).toList = []
          · exact ev_pos ha (ev_bind awake_is (ev_now _))
          · refine ev_neg ha (ev_pos ?_ (ev_bind awake_is (ev_now _)))
            rw [less_oc, hoa]
            exact less_after (List.prefix_refl _) (fun e => ha (hnil.2 e))
      by_cases hl : less (oc key) (oc pre) = true
      · refine ev_pos hl (tail false ?_)
        rw [← hin, hl]
        simp
      · have hl' : less (oc key) (oc pre) = false := by simpa using hl
        refine ev_neg hl ?_
        rw [hl'] at hin
        by_cases ha : (afterB pre).toList = []
        · refine ev_pos ha (tail true ?_)
          rw [← hin, hnil.1 ha]
          simp
        · refine ev_neg ha (tail _ ?_)
          rw [← hin]
          simp only [true_and]
          constructor
          · exact fun h => .inr h
          · rintro (h | h)
            · exact absurd (hnil.2 h) ha
            · exact h
    · rw [show prefixB pre = false by simpa using hp]
      exact quit
  · exact ev_neg hk quit
end Go.Proofs.Ythlemogcaoehbaa.Pure
