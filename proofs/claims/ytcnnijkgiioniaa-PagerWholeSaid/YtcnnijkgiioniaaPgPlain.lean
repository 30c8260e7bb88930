/-
  layer 7: things without a delimiter; the same texts.
-/
import Derived.Test.YtcnnijkgiioniaaPgPure
import Derived.Test.YtcnnijkgiioniaaPx7
import Derived.Test.YtcnnijkgiioniaaPx10
namespace Go.Proofs.Ytcnnijkgiioniaa.PgPlain
open Go.RowKit Go.Proofs.Ytcnnijkgiioniaa.P Go.Proofs.YtcnnijkgiioniaaW.PrintWords Go.Proofs.YtcnnijkgiioniaaW.PrintLast Go.Proofs.YtcnnijkgiioniaaW.PrintMore Go.Proofs.Ytcnnijkgiioniaa.PureKit Go.Proofs.Ytcnnijkgiioniaa.IdxSpec Go.Proofs.Ytcnnijkgiioniaa.IdxLaws Go.Proofs.Ytcnnijkgiioniaa.PureRd Go.Proofs.Ytcnnijkgiioniaa.PureFew Go.Proofs.Ytcnnijkgiioniaa.PgSpec Go.Proofs.Ytcnnijkgiioniaa.PgT Go.Proofs.Ytcnnijkgiioniaa.PgK Go.Proofs.Ytcnnijkgiioniaa.PgKs Go.Proofs.Ytcnnijkgiioniaa.PgPure

theorem e0 : (ByteArray.toList (⟨#[]⟩ : ByteArray)) = [] := by rw [ByteArray.toList_eq]
/-- The keys that begin with the prefix, and whose latest version is no Mark. -/
def wantL (pre : ByteArray) (l : List PgSpec.E) : List ByteArray := (l.filter (hasT pre)).map fun x => x.f0
theorem vis_none (ts : List T) : vis ⟨#[]⟩ ts = ts := by
  unfold vis
  rw [List.filter_eq_self]
  intro x _
  unfold skipB
  rw [e0]
  rfl
end Go.Proofs.Ytcnnijkgiioniaa.PgPlain
