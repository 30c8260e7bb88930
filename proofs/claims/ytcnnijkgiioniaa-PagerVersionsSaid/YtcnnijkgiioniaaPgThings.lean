/-
  pager.things hands back an iterator that SeqStopsK.
-/
import Derived.Test.YtcnnijkgiioniaaProg
import Derived.Test.YtcnnijkgiioniaaCmp
import Derived.Test.YtcnnijkgiioniaaNmSpec
import Derived.Test.YtcnnijkgiioniaaPgIt
import Derived.Test.YtcnnijkgiioniaaPgSpec
import Derived.Test.YtcnnijkgiioniaaPx0
import Derived.Test.YtcnnijkgiioniaaV0
set_option linter.unusedVariables false
set_option linter.unusedSimpArgs false
namespace Go.Proofs.Ytcnnijkgiioniaa.PgThings
open Go.RowKit Go.Shelf Go.Proofs.Ytcnnijkgiioniaa.P Go.Proofs.YtcnnijkgiioniaaW.PrintWords Go.Proofs.YtcnnijkgiioniaaW.PrintLast Go.Proofs.YtcnnijkgiioniaaW.PrintMore Go.Proofs.Ytcnnijkgiioniaa.PureKit Go.Proofs.Ytcnnijkgiioniaa.Name Go.Proofs.Ytcnnijkgiioniaa.NameW Go.Proofs.Ytcnnijkgiioniaa.NmSpec Go.Proofs.Ytcnnijkgiioniaa.PgSpec Go.Proofs.Ytcnnijkgiioniaa.PgIt

/-- The world behind. -/
def laid (w : World) (v : Value) (pre delim : ByteArray) : World := ((w.alloc (.cells #[v] 22)).alloc (.cells #[.string pre] 9)).alloc (.cells #[.string delim] 9)
theorem things_calls (v : Value) (pre delim : ByteArray) (w : World) (hv : v.oneCell' = true) :
    Calls Try.prog 28 #[v, .string pre, .string delim] w fun e w' => e = .returned (.func (.func 46) #[] #[.pointer (some ⟨w.heap.size, 0, none⟩), .pointer (some ⟨w.heap.size + 1, 0, none⟩), .pointer (some ⟨w.heap.size + 2, 0, none⟩)]) ∧ w' = laid w v pre delim := by
  go_enter Try.func28, Try.ntmps28
  go_wp2
  go_ret
  exact ⟨rfl, rfl⟩
theorem things_stops (m : Nat) (b : Nat) (A : Option Addr) (c : Nat) (l : List E) (pre delim : ByteArray) (w : World) (hm : 1 ≤ m)
    (hbl : w.cell? ⟨b, 0, none⟩ = some (.slice A l.length c)) (hbp : w.cell? ⟨b + 1, 0, none⟩ = some (.string pre)) (hbd : w.cell? ⟨b + 2, 0, none⟩ = some (.string delim))
    (hr : Kd.C k50 w A l.length l) (hn : ∀ x ∈ l, x.f1 ≠ []) (hlen : l.length ≤ 100) (hkey : ∀ x ∈ l, x.f0.size ≤ 1000) (hpre : pre.size ≤ 1000) :
    SeqStopsK Fence.wide m Try.prog 46 #[.pointer (some ⟨b, 0, none⟩), .pointer (some ⟨b + 1, 0, none⟩), .pointer (some ⟨b + 2, 0, none⟩)]
      (fun x : T => #[Value.agg #[.string x.f0, .bool x.f1]]) Keeps (fun ys => ys = thingsL pre delim l) (fun p => p <+: thingsL pre delim l) (thingsL pre delim l).length w := fun lk J Jx W hW hJa _ hY h0 =>
  callsIn_wide.2 (it_calls (m - 1) b (b + 1) (b + 2) A c l pre delim lk J Jx W hJa (fun p x W1 hj hl => hY p x W1 hj hl)
    (pw_cell_below hW hbl) (pw_cell_below hW hbp) (pw_cell_below hW hbd) (Kd.C_below hr hW) hn hlen hkey hpre h0)
end Go.Proofs.Ytcnnijkgiioniaa.PgThings
