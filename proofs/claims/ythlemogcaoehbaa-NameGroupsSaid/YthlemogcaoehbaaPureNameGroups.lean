/- Any key's group, under any prefix and delimiter, is the document's, or there is none. -/
import Derived.Test.YthlemogcaoehbaaPx2
import Derived.Test.YthlemogcaoehbaaNmRef
set_option linter.unusedVariables false
set_option linter.unusedSimpArgs false
namespace Go.Proofs.Ythlemogcaoehbaa.Pure
open Go.RowKit Go.Proofs.Ythlemogcaoehbaa.P Go.Proofs.YthlemogcaoehbaaW.PrintWords Go.Proofs.YthlemogcaoehbaaW.PrintLast Go.Proofs.YthlemogcaoehbaaW.PrintMore Go.Proofs.Ythlemogcaoehbaa.PureKit Go.Proofs.Ythlemogcaoehbaa.Name Go.Proofs.Ythlemogcaoehbaa.NameW Go.Proofs.Ythlemogcaoehbaa.NmSpec Go.Proofs.Ythlemogcaoehbaa.NmRef
theorem NameGroups : cellarerlaw01_NameGroups.Pure := by
  intro k0 p0 d0 _ _ _
  apply Ev.rounds
  unfold cellarerlaw01_NameGroups.f
  refine ev_is (key_few k0) (ev_is (key_few p0) (ev_is (key_few d0) ?_))
  have h1 := small_cutK k0
  have h2 := small_cutK p0
  have h3 := small_cutK d0
  refine ev_bind (group_is _ _ _ (by omega) (by omega)) (ev_bind (ref_group _ _ _ (by omega)) (ev_pos rfl (ev_pos (by simp) (ev_bind awake_is (ev_now _)))))
end Go.Proofs.Ythlemogcaoehbaa.Pure
