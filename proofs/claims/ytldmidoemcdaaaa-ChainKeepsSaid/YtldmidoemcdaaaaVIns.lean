/-
  slices.Insert of one version ahead of chain.versions of the call's own.
-/
import Derived.Test.YtldmidoemcdaaaaVApp
import Derived.Lib.Overlaps
set_option linter.unusedVariables false
namespace Go.Proofs.Ytldmidoemcdaaaa.VIns
open Go.RowKit Go.Proofs.Ytldmidoemcdaaaa.P Go.Proofs.YtldmidoemcdaaaaW.PrintWords Go.Proofs.Ytldmidoemcdaaaa.PureKit Go.Proofs.Ytldmidoemcdaaaa.IdxV Go.Proofs.Ytldmidoemcdaaaa.VDel Go.Proofs.Ytldmidoemcdaaaa.VCopy Go.Proofs.Ytldmidoemcdaaaa.VApp

set_option maxRecDepth 100000 in
set_option maxHeartbeats 1600000 in
/-- An empty chain: the version is appended. -/
theorem insert_empty (base : Nat) (A : Option Addr) (c0 : Nat) (w : World) (B : Option Addr) (cb : Nat) (x : S25)
    (hr : Kd.R k25 25 w base (fun _ => True) (.slice A 0 c0) []) (hx : Kd.C k25 w B 1 [x]) (hcb : 1 ≤ cb) (hbs : base ≤ w.heap.size) :
    Calls Try.prog 36 #[.slice A 0 c0, .int .i64 0, .slice B 1 cb] w fun e w' =>
      ∃ v', e = .returned v' ∧ Kd.R k25 25 w' base (fun _ => True) v' [x] ∧ Below base w w' := by
  obtain ⟨v1, w1, hrun, hR1, hB1⟩ := rows_run base w 60 (.slice A 0 c0) [] [x] B 1 cb hr hx hbs (by simp)
  have happ := (append_run w 60 22 25 25 60 Try.underlying60 Try.underlying22 (.slice A 0 c0) B 1 cb).trans hrun
  have HE := Aside0.mk (And.intro hR1 hB1)
  have HAP := Aside0.mk happ
  clear hr hx hbs hR1 hB1 hrun happ
  have hu := Try.underlying25
  go_enter Try.func36, Try.ntmps36
  go_wp2_with ((with_reducible refine gate_builtin (b := .append) (xs := #[.tmp 23, .tmp 24]) rfl ?_); at_builtin; refine wpList_append_run rfl (.tmp 23) (.tmp 24) 60 22 rfl rfl rfl HAP.out ?_)
  go_ret
  exact ⟨_, rfl, HE.out.1, HE.out.2⟩
end Go.Proofs.Ytldmidoemcdaaaa.VIns
