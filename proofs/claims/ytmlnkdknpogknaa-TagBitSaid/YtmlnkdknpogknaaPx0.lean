/- Printed by a program of this session (wip/tools/gprint.py, over the kit's print) out of the translation: functions and their contracts. -/
import Derived.Test.YtmlnkdknpogknaaProg
import Derived.Below
import Derived.Deep.Draws
import Derived.Deep.AppendLies
import Derived.Maps.AppendAt
import Derived.OwnWalk
import Derived.Laws.BytesArg
import Derived.Laws.MakeOwn
import Derived.Laws.OwnMore
import Derived.Deep.OwnRows
import Derived.Tactics
import Derived.Lib.ConvBytes
import Derived.Laws.Slices
import Derived.WalkKit
import Derived.KernelRfl
import Derived.RowKit3
import Derived.Deep.LoopGhost
import Derived.Deep.QuietTactic
import Derived.BigQuiet
import Derived.WideLaws
import Derived.Deep.DeepCutAuto
import Derived.Deep.CutBlock
import Derived.Deep.RegionHeld3
import Derived.Laws.Rows
import Derived.Lib.AppendStr
import Derived.ArgAppend
import Derived.Laws.IdiomCopy
import Derived.OrdersHeld
import Derived.Laws.BitsLemmas
import Derived.RowKit
import Derived.Test.YtmlnkdknpogknaaWWords
import Derived.Test.YtmlnkdknpogknaaWLast
import Derived.Test.YtmlnkdknpogknaaWTab
import Derived.Test.YtmlnkdknpogknaaWFour
import Derived.Test.YtmlnkdknpogknaaWQPut
import Derived.Test.YtmlnkdknpogknaaWApart
import Derived.Test.YtmlnkdknpogknaaWArr
import Derived.Test.YtmlnkdknpogknaaWZeros
import Derived.Test.YtmlnkdknpogknaaWFoot
import Derived.Test.YtmlnkdknpogknaaWKept
import Derived.Test.YtmlnkdknpogknaaWShare
import Derived.Test.YtmlnkdknpogknaaWN
import Derived.Test.YtmlnkdknpogknaaWFootNe
import Derived.Test.YtmlnkdknpogknaaWAt
import Derived.Test.YtmlnkdknpogknaaWEqStruct
import Derived.Test.YtmlnkdknpogknaaWRepsOne
import Derived.Test.YtmlnkdknpogknaaWInv
import Derived.Test.YtmlnkdknpogknaaWInvWords
import Derived.Test.YtmlnkdknpogknaaWGuard
import Derived.Test.YtmlnkdknpogknaaWNEv
import Derived.Test.YtmlnkdknpogknaaWMore
namespace Go.Proofs.Ytmlnkdknpogknaa.P
open Go.RowKit Go.Proofs.YtmlnkdknpogknaaW.PrintWords Go.Proofs.YtmlnkdknpogknaaW.PrintLast Go.Proofs.YtmlnkdknpogknaaW.PrintMore
attribute [local go_sem] max2_int min2_int max_two min_two max_three min_three max_four min_four   -- for this text's walks alone
set_option linter.unusedVariables false
set_option linter.unusedSimpArgs false



def errW : Option Int → Value
  | none => .nilIface
  | some c => .iface 0 (.int .i64 c)
theorem errW_none : errW none = .nilIface := rfl
theorem errW_some (c : Int) : errW (some c) = .iface 0 (.int .i64 c) := rfl

theorem info5 : (Try.prog.info? 5).map (fun i => (i.zero, i.size, i.bytes)) = some (some (.int .u8 0), 1, 1) := by kernel_rfl
-- the values' own types

end Go.Proofs.Ytmlnkdknpogknaa.P
