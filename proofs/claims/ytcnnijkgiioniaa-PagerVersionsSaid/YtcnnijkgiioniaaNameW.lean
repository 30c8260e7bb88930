/-
  name: A PREFIX, A DELIMITER: what calls '(name.kind).is'.
-/
import Derived.LoopTactic
import Derived.Deep.QuietTactic
import Derived.BigQuiet
import Derived.Test.YtcnnijkgiioniaaProg
import Derived.Test.YtcnnijkgiioniaaName
import Derived.Test.YtcnnijkgiioniaaPureKit
import Derived.Test.YtcnnijkgiioniaaV0
namespace Go.Proofs.Ytcnnijkgiioniaa.NameW
open Go.RowKit Go.Proofs.YtcnnijkgiioniaaW.PrintWords Go.Proofs.Ytcnnijkgiioniaa.PureKit Go.Proofs.Ytcnnijkgiioniaa.Name

/-- May an octet be in a bucket's name? -/
def wordB (c : Nat) : Bool := (decide (97 ≤ c) && decide (c ≤ 122)) || (decide (48 ≤ c) && decide (c ≤ 57)) || decide (c = 45)
def prefixB (s : ByteArray) : Bool := isB 0 60 plainB s
def delimB (s : ByteArray) : Bool := isB 0 1 plainB s
def bucketB (s : ByteArray) : Bool := isB 3 20 wordB s && !decide ((oc s).head? = some 45) && !decide ((oc s).getLast? = some 45)

theorem prefix_any (s : ByteArray) (w : World) : Calls Try.prog 42 #[.string s] w fun e w' => e = .returned (.bool (prefixB s)) ∧ Below w.heap.size w w' := by
  have C := is_plain 0 60 s w (by decide)
  have hu := Try.underlying85
  go_enter Try.func42, Try.ntmps42
  go_wp2_with fail
  refine C.mono ?_
  rintro e w1 ⟨rfl, hb⟩
  have HB := Aside0.mk hb
  clear hb C
  go_wp2
  go_ret
  exact ⟨rfl, HB.out⟩
theorem delim_any (s : ByteArray) (w : World) : Calls Try.prog 27 #[.string s] w fun e w' => e = .returned (.bool (delimB s)) ∧ Below w.heap.size w w' := by
  have C := is_plain 0 1 s w (by decide)
  have hu := Try.underlying85
  go_enter Try.func27, Try.ntmps27
  go_wp2_with fail
  refine C.mono ?_
  rintro e w1 ⟨rfl, hb⟩
  have HB := Aside0.mk hb
  clear hb C
  go_wp2
  go_ret
  exact ⟨rfl, HB.out⟩
end Go.Proofs.Ytcnnijkgiioniaa.NameW
