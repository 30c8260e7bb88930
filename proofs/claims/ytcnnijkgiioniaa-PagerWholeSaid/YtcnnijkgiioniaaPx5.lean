/- Printed by a program of this session (wip/tools/gprint.py, over the kit's print) out of the translation: functions and their contracts. -/
import Derived.Test.YtcnnijkgiioniaaPx0
import Derived.Test.YtcnnijkgiioniaaPgT
namespace Go.Proofs.Ytcnnijkgiioniaa.P
open Go.RowKit Go.Proofs.YtcnnijkgiioniaaW.PrintWords Go.Proofs.YtcnnijkgiioniaaW.PrintLast Go.Proofs.YtcnnijkgiioniaaW.PrintMore
attribute [local go_sem] max2_int min2_int max_two min_two max_three min_three max_four min_four   -- for this text's walks alone
set_option linter.unusedVariables false
set_option linter.unusedSimpArgs false

/-! ### pager_Things: function 12 (given) -/
-- GIVEN pager_Things
def pager_Things.f (k : Nat) (l0 : List (S50)) (a1 : ByteArray) (a2 : ByteArray) : Option (List ByteArray × Int) := Go.Proofs.Ytcnnijkgiioniaa.PgT.thingsF k l0 a1 a2
theorem pager_Things.mono : ∀ a0 a1 a2 k, LeO (pager_Things.f k a0 a1 a2) (pager_Things.f (k + 1) a0 a1 a2) := fun l0 a1 a2 k => Go.Proofs.Ytcnnijkgiioniaa.PgT.thingsF_mono l0 a1 a2 k
theorem pager_Things.calls (k : Nat) (A0 : Option Addr) (c0 : Nat) (l0 : List (S50)) (a1 : ByteArray) (a2 : ByteArray) (r1 : List ByteArray) (r2 : Int) (w : World) (hr0 : Kd.C k50 w A0 l0.length l0) (hc0 : l0.length ≤ c0) (h : pager_Things.f k l0 a1 a2 = some (r1, r2)) :
    Calls Try.prog 12 #[.slice A0 l0.length c0, .string a1, .string a2] w fun e w' => ∃ v0_ : Value, e = .returned (.tuple #[v0_, .int .i64 r2]) ∧ Kd.R Kd.string 9 w' w.heap.size (fun _ => True) v0_ r1 ∧ Below w.heap.size w w' :=
  Go.Proofs.Ytcnnijkgiioniaa.PgT.things_any k A0 c0 l0 a1 a2 r1 r2 w hr0 hc0 h


end Go.Proofs.Ytcnnijkgiioniaa.P
