/-
  layer 7: things without a delimiter; the same texts.
-/
import Derived.Test.YtcnnijkgiioniaaPgPure
import Derived.Test.YtcnnijkgiioniaaPx7
import Derived.Test.YtcnnijkgiioniaaPx10
namespace Go.Proofs.Ytcnnijkgiioniaa.PgPlain
open Go.RowKit Go.Proofs.Ytcnnijkgiioniaa.P Go.Proofs.YtcnnijkgiioniaaW.PrintWords Go.Proofs.YtcnnijkgiioniaaW.PrintLast Go.Proofs.YtcnnijkgiioniaaW.PrintMore Go.Proofs.Ytcnnijkgiioniaa.PureKit Go.Proofs.Ytcnnijkgiioniaa.IdxSpec Go.Proofs.Ytcnnijkgiioniaa.IdxLaws Go.Proofs.Ytcnnijkgiioniaa.PureRd Go.Proofs.Ytcnnijkgiioniaa.PureFew Go.Proofs.Ytcnnijkgiioniaa.PgSpec Go.Proofs.Ytcnnijkgiioniaa.PgT Go.Proofs.Ytcnnijkgiioniaa.PgK Go.Proofs.Ytcnnijkgiioniaa.PgKs Go.Proofs.Ytcnnijkgiioniaa.PgPure

theorem e0 : (ByteArray.toList (⟨#[]⟩ : ByteArray)) = [] := by rw [ByteArray.toList_eq]
theorem same_loop (a : List ByteArray) (ha : a.length ≤ 1000) : ∀ (rest pre : List ByteArray), a = pre ++ rest → Ev (fun k => cellarerref02_Same.l0 k a a (pre.length : Int)) true
  | [], pre, h => by
    refine ev_succ ?_
    simp only [cellarerref02_Same.l0]
    exact ev_neg (by rw [h]; simp) (ev_now _)
  | x :: rest, pre, h => by
    have hlen : a.length = pre.length + rest.length + 1 := by rw [h]; simp; omega
    have ih := same_loop a ha rest (pre ++ [x]) (by simp [h])
    refine ev_succ ?_
    simp only [cellarerref02_Same.l0]
    refine ev_pos (by omega) (ev_pos (by omega) (ev_pos (by omega) ?_))
    rw [wrap_id (by omega) (by omega)]
    have g : Ev (fun k => cellarerref02_Same.l0 k a a ((pre.length : Int) + 1)) true := by simpa using ih
    first | exact ev_pos rfl g | exact ev_pos trivial g | exact g
theorem same_texts (a : List ByteArray) (ha : a.length ≤ 1000) : Ev (fun k => cellarerref02_Same.f k a a) true := by
  unfold cellarerref02_Same.f
  exact ev_pos rfl (same_loop a ha a [] rfl)
/-- The keys that begin with the prefix, and whose latest version is no Mark. -/
def wantL (pre : ByteArray) (l : List PgSpec.E) : List ByteArray := (l.filter (hasT pre)).map fun x => x.f0
theorem mark_is {x : PgSpec.E} (h : x.f1 ≠ []) : (rd_T52 x.f1 0).f2 = markB x := by
  unfold markB rd_T52
  cases hq : x.f1 with
  | nil => exact absurd hq h
  | cons y r => rfl
end Go.Proofs.Ytcnnijkgiioniaa.PgPlain
