/- Printed by a program of this session (wip/tools/gprint.py, over the kit's print) out of the translation: functions and their contracts. -/
import Derived.Test.YtcnnijkgiioniaaPx0
import Derived.Test.YtcnnijkgiioniaaPgKs
namespace Go.Proofs.Ytcnnijkgiioniaa.P
open Go.RowKit Go.Proofs.YtcnnijkgiioniaaW.PrintWords Go.Proofs.YtcnnijkgiioniaaW.PrintLast Go.Proofs.YtcnnijkgiioniaaW.PrintMore
attribute [local go_sem] max2_int min2_int max_two min_two max_three min_three max_four min_four   -- for this text's walks alone
set_option linter.unusedVariables false
set_option linter.unusedSimpArgs false

/-! ### pager_Keys: function 11 (given) -/
-- GIVEN pager_Keys
def pager_Keys.f (k : Nat) (l0 : List (S50)) (a1 : ByteArray) (a2 : ByteArray) (a3 : ByteArray) (a4 : Int) : Option (List ByteArray × List ByteArray × Bool × ByteArray × Int) := Go.Proofs.Ytcnnijkgiioniaa.PgKs.keysF k l0 a1 a2 a3 a4
theorem pager_Keys.mono : ∀ a0 a1 a2 a3 a4 k, LeO (pager_Keys.f k a0 a1 a2 a3 a4) (pager_Keys.f (k + 1) a0 a1 a2 a3 a4) := fun l0 a1 a2 a3 a4 k => Go.Proofs.Ytcnnijkgiioniaa.PgKs.keysF_mono l0 a1 a2 a3 a4 k
theorem pager_Keys.calls (k : Nat) (A0 : Option Addr) (c0 : Nat) (l0 : List (S50)) (a1 : ByteArray) (a2 : ByteArray) (a3 : ByteArray) (a4 : Int) (r1 : List ByteArray) (r2 : List ByteArray) (r3 : Bool) (r4 : ByteArray) (r5 : Int) (w : World) (hr0 : Kd.C k50 w A0 l0.length l0) (hc0 : l0.length ≤ c0) (h : pager_Keys.f k l0 a1 a2 a3 a4 = some (r1, r2, r3, r4, r5)) :
    Calls Try.prog 11 #[.slice A0 l0.length c0, .string a1, .string a2, .string a3, .int .i64 a4] w fun e w' => ∃ v0_ v1_ : Value, e = .returned (.tuple #[.agg #[v0_, v1_, .bool r3, .string r4], .int .i64 r5]) ∧ Kd.R Kd.string 9 w' w.heap.size (fun k_ => some k_ ≠ (v1_ : Value).ownBlock) v0_ r1 ∧ Kd.R Kd.string 9 w' w.heap.size (fun k_ => some k_ ≠ (v0_ : Value).ownBlock) v1_ r2 ∧ Below w.heap.size w w' :=
  Go.Proofs.Ytcnnijkgiioniaa.PgKs.keys_any k A0 c0 l0 a1 a2 a3 a4 r1 r2 r3 r4 r5 w hr0 hc0 h


end Go.Proofs.Ytcnnijkgiioniaa.P
