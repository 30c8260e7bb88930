/-
  layer 7: things without a delimiter; the same texts.
-/
import Derived.Test.YtcnnijkgiioniaaProg
import Derived.LoopIn
import Derived.LoopNIn
import Derived.Maps.OwnIn
import Derived.OwnWalkIn
import Derived.RangeFuncBound
import Derived.RangeFuncCalls
import Derived.RangeFuncLeaves
import Derived.RangeFuncNested
import Derived.Shelf.Abstract
import Derived.TacticsInMore
import Derived.Test.YtcnnijkgiioniaaCmp
import Derived.Test.YtcnnijkgiioniaaIdxE
import Derived.Test.YtcnnijkgiioniaaIdxSpec
import Derived.Test.YtcnnijkgiioniaaNmSpec
import Derived.Test.YtcnnijkgiioniaaPgSpec
import Derived.Test.YtcnnijkgiioniaaPureKit
import Derived.Test.YtcnnijkgiioniaaPureRd
import Derived.Test.YtcnnijkgiioniaaPx7e
import Derived.Test.YtcnnijkgiioniaaV0
namespace Go.Proofs.Ytcnnijkgiioniaa.PgPlain
open Go.RowKit Go.Proofs.Ytcnnijkgiioniaa.P Go.Proofs.YtcnnijkgiioniaaW.PrintWords Go.Proofs.YtcnnijkgiioniaaW.PrintLast Go.Proofs.YtcnnijkgiioniaaW.PrintMore Go.Proofs.Ytcnnijkgiioniaa.PureKit Go.Proofs.Ytcnnijkgiioniaa.IdxSpec Go.Proofs.Ytcnnijkgiioniaa.PureRd Go.Proofs.Ytcnnijkgiioniaa.PgSpec

theorem e0 : (ByteArray.toList (⟨#[]⟩ : ByteArray)) = [] := by rw [ByteArray.toList_eq]
theorem same_loop (a : List ByteArray) (ha : a.length ≤ 1000) : ∀ (rest pre : List ByteArray), a = pre ++ rest → Ev (fun k => cellarerref02_Same.l0 k a a (pre.length : Int)) true
  | [], pre, h => by
    refine ev_succ ?_
    simp only [cellarerref02_Same.l0]
    exact ev_neg (by rw [h]; simp) (ev_now _)
  | x :: rest, pre, h => by
    have hlen : a.length = pre.length + rest.length + 1 := by rw [h]; simp; omega
    have ih := same_loop a ha rest (pre ++ [x]) (by simp [h])
    refine ev_succ ?_
    simp only [cellarerref02_Same.l0]
    refine ev_pos (by omega) (ev_pos (by omega) (ev_pos (by omega) ?_))
    rw [wrap_id (by omega) (by omega)]
    have g : Ev (fun k => cellarerref02_Same.l0 k a a ((pre.length : Int) + 1)) true := by simpa using ih
    first | exact ev_pos rfl g | exact ev_pos trivial g | exact g
/-- The keys that begin with the prefix, and whose latest version is no Mark. -/
def wantL (pre : ByteArray) (l : List PgSpec.E) : List ByteArray := (l.filter (hasT pre)).map fun x => x.f0
end Go.Proofs.Ytcnnijkgiioniaa.PgPlain
