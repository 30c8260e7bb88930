/- Printed by a program of this session (wip/tools/gprint.py, over the kit's print) out of the translation: functions and their contracts. -/
import Derived.Test.YtgolfeglabmkkaaPx0
import Derived.Test.YtgolfeglabmkkaaPut
namespace Go.Proofs.Ytgolfeglabmkkaa.P
open Go.RowKit Go.Proofs.YtgolfeglabmkkaaW.PrintWords Go.Proofs.YtgolfeglabmkkaaW.PrintLast Go.Proofs.YtgolfeglabmkkaaW.PrintMore
attribute [local go_sem] max2_int min2_int max_two min_two max_three min_three max_four min_four   -- for this text's walks alone
set_option linter.unusedVariables false
set_option linter.unusedSimpArgs false

/-! ### index_Put: function 12 (given) -/
-- GIVEN index_Put
def index_Put.f (l0 : List (S38)) (a1 : ByteArray) (l2 : List (S50)) : Option (List (S38) × Int) := Go.Proofs.Ytgolfeglabmkkaa.Put.putF l0 a1 l2
theorem index_Put.calls (P0_ : Nat → Prop) (A0 : Option Addr) (c0 : Nat) (l0 : List (S38)) (a1 : ByteArray) (A2 : Option Addr) (c2 : Nat) (l2 : List (S50)) (r1 : List (S38)) (r2 : Int) (w : World) (hs0 : Kd.V k38 38 w w.heap.size (fun k_ => P0_ k_) (.slice A0 l0.length c0) l0) (hr2 : Kd.C k50 w A2 l2.length l2) (hc2 : l2.length ≤ c2) (h : index_Put.f l0 a1 l2 = some (r1, r2)) :
    Calls Try.prog 12 #[.slice A0 l0.length c0, .string a1, .slice A2 l2.length c2] w fun e w' => ∃ v0_ : Value, e = .returned (.tuple #[v0_, .int .i64 r2]) ∧ Kd.V k38 38 w' w.heap.size (fun k_ => (P0_ k_ ∨ w.heap.size ≤ k_)) v0_ r1 ∧ Below w.heap.size w w' :=
  Go.Proofs.Ytgolfeglabmkkaa.Put.put_any P0_ A0 c0 l0 a1 A2 c2 l2 r1 r2 w hs0 hr2 hc2 h


end Go.Proofs.Ytgolfeglabmkkaa.P
