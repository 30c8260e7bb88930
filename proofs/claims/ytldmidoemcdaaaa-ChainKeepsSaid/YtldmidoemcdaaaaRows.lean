/-
  No cell of these rows narrows 'for every input' (looked for: loops, veiled, ifaces, maps, wideKeys, modest, calm, conditions, laid).
  DERIVED. THE GIVEN ROWS OF THIS SEAT. 7 by the template 'for every input the law returns true; each argument reads behind the call as it read before'; 0 by the template 'total and deterministic' (their statements: YtldmidoemcdaaaaTotals.lean).
  GIVEN WITH THE SEED: the statements are not yours to turn. If you find one false, say at which input.
  Laid BY PROGRAM, IN A SANDBOX (cutbox-rows.mjs): the forced cells as the released guide's own fill.sh prints them over the translation db5479c1262852a7… (all of the seat's roots in one cut). By AI agents, Wed Nov 11 2026. No macro, syntax, notation, axiom, sorry.
-/
import Derived.Test.YtldmidoemcdaaaaChecked
import GoSem.Claim
import GoSem.ClaimJoined
import GoSem.ClaimMapViews
import Derived.JoinedTies
import Derived.KernelRfl
namespace Go.Proofs.Ytldmidoemcdaaaa
/- THE CELL 'sum', in the pinned program and in every row, IS THE sha256 OF THE DUMP (.gsa) THAT YtldmidoemcdaaaaProg.lean LOADS. Nothing in Lean hashes anything: it is a label: what it is worth is what the hold of that sum in a sandbox is worth. -/
noncomputable def Try.pinned : Pinned := { name := "ytldmidoemcdaaaa", sum := "db5479c1262852a73663a86c20cab8242dcc59e466812381fde824c5486eebdc", checked := Try.checked }
namespace Rows
def none {H : Type} : Left H := { results := [], args := [] }

/-- 'cellarerlaw05.ChainPuts': WHATEVER THE INPUT: true; the input reads as it did. -/
def chainPutsSpec : ChangeSpec := { name := "chainPuts", fn := fun _ => fun
  | [d1, d2, d3] => { results := [.lit (.bool true)], args := [d1, d2, d3] }
  | _ => none }
def chainPutsRow : OpenClaim := { program := "ytldmidoemcdaaaa", sum := "db5479c1262852a73663a86c20cab8242dcc59e466812381fde824c5486eebdc", func := "cellarer/cellarerlaw05.ChainPuts", spec := "chainPuts", inPlace := ["slices.overlaps[cellarer/api.Version]"], unfollowed := true, recurses := true, apart := false }
def ChainPutsSaid : Prop := chainPutsRow.holds Try.pinned (OpenSpec.ofChange chainPutsSpec)

/-- ITS FALSE NEIGHBOUR: 'it returns false'. Refute it at one input. -/
def chainPutsWrong : ChangeSpec := { name := "chainPuts", fn := fun _ => fun
  | [d1, d2, d3] => { results := [.lit (.bool false)], args := [d1, d2, d3] }
  | _ => none }
def ChainPutsWrongFalsely : Prop := chainPutsRow.holds Try.pinned (OpenSpec.ofChange chainPutsWrong)

/-- 'cellarerlaw05.ChainOff': WHATEVER THE INPUT: true; the input reads as it did. -/
def chainOffSpec : ChangeSpec := { name := "chainOff", fn := fun _ => fun
  | [d] => { results := [.lit (.bool true)], args := [d] }
  | _ => none }
def chainOffRow : OpenClaim := { program := "ytldmidoemcdaaaa", sum := "db5479c1262852a73663a86c20cab8242dcc59e466812381fde824c5486eebdc", func := "cellarer/cellarerlaw05.ChainOff", spec := "chainOff", inPlace := ["slices.overlaps[cellarer/api.Version]"], unfollowed := true, recurses := true, apart := false }
def ChainOffSaid : Prop := chainOffRow.holds Try.pinned (OpenSpec.ofChange chainOffSpec)

/-- ITS FALSE NEIGHBOUR: 'it returns false'. Refute it at one input. -/
def chainOffWrong : ChangeSpec := { name := "chainOff", fn := fun _ => fun
  | [d] => { results := [.lit (.bool false)], args := [d] }
  | _ => none }
def ChainOffWrongFalsely : Prop := chainOffRow.holds Try.pinned (OpenSpec.ofChange chainOffWrong)

/-- 'cellarerlaw05.ChainHeld': WHATEVER THE INPUT: true; the input reads as it did. -/
def chainHeldSpec : ChangeSpec := { name := "chainHeld", fn := fun _ => fun
  | [d1, d2] => { results := [.lit (.bool true)], args := [d1, d2] }
  | _ => none }
def chainHeldRow : OpenClaim := { program := "ytldmidoemcdaaaa", sum := "db5479c1262852a73663a86c20cab8242dcc59e466812381fde824c5486eebdc", func := "cellarer/cellarerlaw05.ChainHeld", spec := "chainHeld", inPlace := ["slices.overlaps[cellarer/api.Version]"], unfollowed := true, recurses := true, apart := false }
def ChainHeldSaid : Prop := chainHeldRow.holds Try.pinned (OpenSpec.ofChange chainHeldSpec)

/-- ITS FALSE NEIGHBOUR: 'it returns false'. Refute it at one input. -/
def chainHeldWrong : ChangeSpec := { name := "chainHeld", fn := fun _ => fun
  | [d1, d2] => { results := [.lit (.bool false)], args := [d1, d2] }
  | _ => none }
def ChainHeldWrongFalsely : Prop := chainHeldRow.holds Try.pinned (OpenSpec.ofChange chainHeldWrong)

/-- 'cellarerlaw05.ChainGets': WHATEVER THE INPUT: true; the input reads as it did. -/
def chainGetsSpec : ChangeSpec := { name := "chainGets", fn := fun _ => fun
  | [d1, d2] => { results := [.lit (.bool true)], args := [d1, d2] }
  | _ => none }
def chainGetsRow : OpenClaim := { program := "ytldmidoemcdaaaa", sum := "db5479c1262852a73663a86c20cab8242dcc59e466812381fde824c5486eebdc", func := "cellarer/cellarerlaw05.ChainGets", spec := "chainGets", inPlace := ["slices.overlaps[cellarer/api.Version]"], unfollowed := true, recurses := true, apart := false }
def ChainGetsSaid : Prop := chainGetsRow.holds Try.pinned (OpenSpec.ofChange chainGetsSpec)

/-- ITS FALSE NEIGHBOUR: 'it returns false'. Refute it at one input. -/
def chainGetsWrong : ChangeSpec := { name := "chainGets", fn := fun _ => fun
  | [d1, d2] => { results := [.lit (.bool false)], args := [d1, d2] }
  | _ => none }
def ChainGetsWrongFalsely : Prop := chainGetsRow.holds Try.pinned (OpenSpec.ofChange chainGetsWrong)

/-- 'cellarerlaw05.ChainKeeps': WHATEVER THE INPUT: true; the input reads as it did. -/
def chainKeepsSpec : ChangeSpec := { name := "chainKeeps", fn := fun _ => fun
  | [d] => { results := [.lit (.bool true)], args := [d] }
  | _ => none }
def chainKeepsRow : OpenClaim := { program := "ytldmidoemcdaaaa", sum := "db5479c1262852a73663a86c20cab8242dcc59e466812381fde824c5486eebdc", func := "cellarer/cellarerlaw05.ChainKeeps", spec := "chainKeeps", inPlace := ["slices.overlaps[cellarer/api.Version]"], unfollowed := true, recurses := true, apart := false }
def ChainKeepsSaid : Prop := chainKeepsRow.holds Try.pinned (OpenSpec.ofChange chainKeepsSpec)

/-- ITS FALSE NEIGHBOUR: 'it returns false'. Refute it at one input. -/
def chainKeepsWrong : ChangeSpec := { name := "chainKeeps", fn := fun _ => fun
  | [d] => { results := [.lit (.bool false)], args := [d] }
  | _ => none }
def ChainKeepsWrongFalsely : Prop := chainKeepsRow.holds Try.pinned (OpenSpec.ofChange chainKeepsWrong)

/-- 'cellarerlaw05.ChainTurns': WHATEVER THE INPUT: true; the input reads as it did. -/
def chainTurnsSpec : ChangeSpec := { name := "chainTurns", fn := fun _ => fun
  | [d] => { results := [.lit (.bool true)], args := [d] }
  | _ => none }
def chainTurnsRow : OpenClaim := { program := "ytldmidoemcdaaaa", sum := "db5479c1262852a73663a86c20cab8242dcc59e466812381fde824c5486eebdc", func := "cellarer/cellarerlaw05.ChainTurns", spec := "chainTurns", inPlace := ["slices.overlaps[cellarer/api.Version]"], unfollowed := true, recurses := true, apart := false }
def ChainTurnsSaid : Prop := chainTurnsRow.holds Try.pinned (OpenSpec.ofChange chainTurnsSpec)

/-- ITS FALSE NEIGHBOUR: 'it returns false'. Refute it at one input. -/
def chainTurnsWrong : ChangeSpec := { name := "chainTurns", fn := fun _ => fun
  | [d] => { results := [.lit (.bool false)], args := [d] }
  | _ => none }
def ChainTurnsWrongFalsely : Prop := chainTurnsRow.holds Try.pinned (OpenSpec.ofChange chainTurnsWrong)

/-- 'cellarerlaw05.ChainFirst': WHATEVER THE INPUT: true; the input reads as it did. -/
def chainFirstSpec : ChangeSpec := { name := "chainFirst", fn := fun _ => fun
  | [d1, d2] => { results := [.lit (.bool true)], args := [d1, d2] }
  | _ => none }
def chainFirstRow : OpenClaim := { program := "ytldmidoemcdaaaa", sum := "db5479c1262852a73663a86c20cab8242dcc59e466812381fde824c5486eebdc", func := "cellarer/cellarerlaw05.ChainFirst", spec := "chainFirst", inPlace := ["slices.overlaps[cellarer/api.Version]"], unfollowed := true, recurses := true, apart := false }
def ChainFirstSaid : Prop := chainFirstRow.holds Try.pinned (OpenSpec.ofChange chainFirstSpec)

/-- ITS FALSE NEIGHBOUR: 'it returns false'. Refute it at one input. -/
def chainFirstWrong : ChangeSpec := { name := "chainFirst", fn := fun _ => fun
  | [d1, d2] => { results := [.lit (.bool false)], args := [d1, d2] }
  | _ => none }
def ChainFirstWrongFalsely : Prop := chainFirstRow.holds Try.pinned (OpenSpec.ofChange chainFirstWrong)

/- THE SECOND FORM. 'bulk': how many values and letters a reading holds, each counted each time it is reached (what is shared counts as often as it is met; a slice's spare places count too). A statement '..UptoSaid' is the law's where the arguments, and the package variables that the reading takes, are together of bulk at most 1048576: NARROWER than '..Said'. Prove '..Said' where nothing that the law and all that it calls make is longer than what came in: it says more and counts as full. Else prove '..UptoSaid'. A law counts once. -/
mutual
def uptoBulk {H : Type} : DataW H → Nat
  | .lit (.string bytes) => bytes.length + 1
  | .lit _ => 1
  | .nil => 1
  | .ptr d => uptoBulk d + 1
  | .slice elems spare => uptoBulkAll elems + uptoBulkAll spare + 1
  | .agg parts => uptoBulkAll parts + 1
  | .iface _ d => uptoBulk d + 1
  | .map entries => uptoBulkEntries entries + 1
  | .held _ => 1
def uptoBulkAll {H : Type} : List (DataW H) → Nat
  | [] => 0
  | d :: r => uptoBulk d + uptoBulkAll r
def uptoBulkEntries {H : Type} : List (Lit × DataW H) → Nat
  | [] => 0
  | x :: r => uptoBulkEntry x + uptoBulkEntries r
def uptoBulkEntry {H : Type} : Lit × DataW H → Nat
  | (.string bytes, d) => bytes.length + uptoBulk d + 1
  | (_, d) => uptoBulk d + 1
 end
def uptoSmall : (H : Type) → List (DataW H) → Bool := fun _ ds => decide (uptoBulkAll ds ≤ 1048576)
def OpenSpec.upto (s : _root_.Go.ChangeSpec) : _root_.Go.OpenSpec := { _root_.Go.OpenSpec.ofChange s with cond := some uptoSmall }

/-- 'cellarerlaw05.ChainPuts', WHERE WHAT IT READS IS OF BULK AT MOST 1048576: true; the input reads as it did. -/
def chainPutsUptoRow : OpenClaim := { program := "ytldmidoemcdaaaa", sum := "db5479c1262852a73663a86c20cab8242dcc59e466812381fde824c5486eebdc", func := "cellarer/cellarerlaw05.ChainPuts", spec := "chainPuts", inPlace := ["slices.overlaps[cellarer/api.Version]"], unfollowed := true, recurses := true, apart := false, narrowed := true }
def ChainPutsUptoSaid : Prop := chainPutsUptoRow.holds Try.pinned (OpenSpec.upto chainPutsSpec)

/-- 'cellarerlaw05.ChainOff', WHERE WHAT IT READS IS OF BULK AT MOST 1048576: true; the input reads as it did. -/
def chainOffUptoRow : OpenClaim := { program := "ytldmidoemcdaaaa", sum := "db5479c1262852a73663a86c20cab8242dcc59e466812381fde824c5486eebdc", func := "cellarer/cellarerlaw05.ChainOff", spec := "chainOff", inPlace := ["slices.overlaps[cellarer/api.Version]"], unfollowed := true, recurses := true, apart := false, narrowed := true }
def ChainOffUptoSaid : Prop := chainOffUptoRow.holds Try.pinned (OpenSpec.upto chainOffSpec)

/-- 'cellarerlaw05.ChainHeld', WHERE WHAT IT READS IS OF BULK AT MOST 1048576: true; the input reads as it did. -/
def chainHeldUptoRow : OpenClaim := { program := "ytldmidoemcdaaaa", sum := "db5479c1262852a73663a86c20cab8242dcc59e466812381fde824c5486eebdc", func := "cellarer/cellarerlaw05.ChainHeld", spec := "chainHeld", inPlace := ["slices.overlaps[cellarer/api.Version]"], unfollowed := true, recurses := true, apart := false, narrowed := true }
def ChainHeldUptoSaid : Prop := chainHeldUptoRow.holds Try.pinned (OpenSpec.upto chainHeldSpec)

/-- 'cellarerlaw05.ChainGets', WHERE WHAT IT READS IS OF BULK AT MOST 1048576: true; the input reads as it did. -/
def chainGetsUptoRow : OpenClaim := { program := "ytldmidoemcdaaaa", sum := "db5479c1262852a73663a86c20cab8242dcc59e466812381fde824c5486eebdc", func := "cellarer/cellarerlaw05.ChainGets", spec := "chainGets", inPlace := ["slices.overlaps[cellarer/api.Version]"], unfollowed := true, recurses := true, apart := false, narrowed := true }
def ChainGetsUptoSaid : Prop := chainGetsUptoRow.holds Try.pinned (OpenSpec.upto chainGetsSpec)

/-- 'cellarerlaw05.ChainKeeps', WHERE WHAT IT READS IS OF BULK AT MOST 1048576: true; the input reads as it did. -/
def chainKeepsUptoRow : OpenClaim := { program := "ytldmidoemcdaaaa", sum := "db5479c1262852a73663a86c20cab8242dcc59e466812381fde824c5486eebdc", func := "cellarer/cellarerlaw05.ChainKeeps", spec := "chainKeeps", inPlace := ["slices.overlaps[cellarer/api.Version]"], unfollowed := true, recurses := true, apart := false, narrowed := true }
def ChainKeepsUptoSaid : Prop := chainKeepsUptoRow.holds Try.pinned (OpenSpec.upto chainKeepsSpec)

/-- 'cellarerlaw05.ChainTurns', WHERE WHAT IT READS IS OF BULK AT MOST 1048576: true; the input reads as it did. -/
def chainTurnsUptoRow : OpenClaim := { program := "ytldmidoemcdaaaa", sum := "db5479c1262852a73663a86c20cab8242dcc59e466812381fde824c5486eebdc", func := "cellarer/cellarerlaw05.ChainTurns", spec := "chainTurns", inPlace := ["slices.overlaps[cellarer/api.Version]"], unfollowed := true, recurses := true, apart := false, narrowed := true }
def ChainTurnsUptoSaid : Prop := chainTurnsUptoRow.holds Try.pinned (OpenSpec.upto chainTurnsSpec)

/-- 'cellarerlaw05.ChainFirst', WHERE WHAT IT READS IS OF BULK AT MOST 1048576: true; the input reads as it did. -/
def chainFirstUptoRow : OpenClaim := { program := "ytldmidoemcdaaaa", sum := "db5479c1262852a73663a86c20cab8242dcc59e466812381fde824c5486eebdc", func := "cellarer/cellarerlaw05.ChainFirst", spec := "chainFirst", inPlace := ["slices.overlaps[cellarer/api.Version]"], unfollowed := true, recurses := true, apart := false, narrowed := true }
def ChainFirstUptoSaid : Prop := chainFirstUptoRow.holds Try.pinned (OpenSpec.upto chainFirstSpec)

end Rows
end Go.Proofs.Ytldmidoemcdaaaa
