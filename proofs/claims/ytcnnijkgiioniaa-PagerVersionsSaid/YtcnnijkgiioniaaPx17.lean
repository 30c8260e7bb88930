/- Printed by a program of this session (wip/tools/gprint.py, over the kit's print) out of the translation: functions and their contracts. -/
import Derived.Test.YtcnnijkgiioniaaProg
import Derived.Test.YtcnnijkgiioniaaCmp
import Derived.Test.YtcnnijkgiioniaaPgRows
import Derived.Test.YtcnnijkgiioniaaPx0
import Derived.Test.YtcnnijkgiioniaaV0
namespace Go.Proofs.Ytcnnijkgiioniaa.P
open Go.RowKit Go.Proofs.YtcnnijkgiioniaaW.PrintWords Go.Proofs.YtcnnijkgiioniaaW.PrintLast Go.Proofs.YtcnnijkgiioniaaW.PrintMore
attribute [local go_sem] max2_int min2_int max_two min_two max_three min_three max_four min_four   -- for this text's walks alone
set_option linter.unusedVariables false
set_option linter.unusedSimpArgs false

/-! ### pager_Rows: function 22 (given) -/
-- GIVEN pager_Rows
def pager_Rows.f (k : Nat) (l0 : List (S50)) (a1 : ByteArray) (a2 : ByteArray) (a3 : Int) (a4 : Int) : Option (List (S65) × Bool × Int) := Go.Proofs.Ytcnnijkgiioniaa.PgRows.rowsF k l0 a1 a2 a3 a4
theorem pager_Rows.mono : ∀ a0 a1 a2 a3 a4 k, LeO (pager_Rows.f k a0 a1 a2 a3 a4) (pager_Rows.f (k + 1) a0 a1 a2 a3 a4) := fun l0 a1 a2 a3 a4 k => Go.Proofs.Ytcnnijkgiioniaa.PgRows.rowsF_mono l0 a1 a2 a3 a4 k
theorem pager_Rows.calls (k : Nat) (A0 : Option Addr) (c0 : Nat) (l0 : List (S50)) (a1 : ByteArray) (a2 : ByteArray) (a3 : Int) (a4 : Int) (r1 : List (S65)) (r2 : Bool) (r3 : Int) (w : World) (hr0 : Kd.C k50 w A0 l0.length l0) (hc0 : l0.length ≤ c0) (h : pager_Rows.f k l0 a1 a2 a3 a4 = some (r1, r2, r3)) :
    Calls Try.prog 22 #[.slice A0 l0.length c0, .string a1, .string a2, .int .u64 a3, .int .i64 a4] w fun e w' => ∃ v0_ : Value, e = .returned (.tuple #[v0_, .bool r2, .int .i64 r3]) ∧ Kd.V k65 65 w' w.heap.size (fun k_ => w.heap.size ≤ k_) v0_ r1 ∧ Below w.heap.size w w' :=
  Go.Proofs.Ytcnnijkgiioniaa.PgRows.rows_any k A0 c0 l0 a1 a2 a3 a4 r1 r2 r3 w hr0 hc0 h


end Go.Proofs.Ytcnnijkgiioniaa.P
