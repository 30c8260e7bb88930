/-
  No cell of these rows narrows 'for every input' (looked for: loops, veiled, ifaces, maps, wideKeys, modest, calm, conditions, laid).
  DERIVED. THE GIVEN ROWS OF THIS SEAT. 7 by the template 'for every input the law returns true; each argument reads behind the call as it read before'; 0 by the template 'total and deterministic' (their statements: YthlemogcaoehbaaTotals.lean).
  GIVEN WITH THE SEED: the statements are not yours to turn. If you find one false, say at which input.
  Laid BY PROGRAM, IN A SANDBOX (cutbox-rows.mjs): the forced cells as the released guide's own fill.sh prints them over the translation f664373247b3b0f4… (all of the seat's roots in one cut). By AI agents, Wed Nov 11 2026. No macro, syntax, notation, axiom, sorry.
-/
import Derived.Test.YthlemogcaoehbaaChecked
import GoSem.Claim
import GoSem.ClaimJoined
import GoSem.ClaimMapViews
import Derived.JoinedTies
import Derived.KernelRfl
namespace Go.Proofs.Ythlemogcaoehbaa
/- THE CELL 'sum', in the pinned program and in every row, IS THE sha256 OF THE DUMP (.gsa) THAT YthlemogcaoehbaaProg.lean LOADS. Nothing in Lean hashes anything: it is a label: what it is worth is what the hold of that sum in a sandbox is worth. -/
noncomputable def Try.pinned : Pinned := { name := "ythlemogcaoehbaa", sum := "f664373247b3b0f41637d83bc0c553817853d84cb2e75482994f5e78331ab685", checked := Try.checked }
namespace Rows
def none {H : Type} : Left H := { results := [], args := [] }

/-- 'cellarerlaw01.NameGroups': WHATEVER THE INPUT: true; the input reads as it did. -/
def nameGroupsSpec : ChangeSpec := { name := "nameGroups", fn := fun _ => fun
  | [d1, d2, d3] => { results := [.lit (.bool true)], args := [d1, d2, d3] }
  | _ => none }
def nameGroupsRow : OpenClaim := { program := "ythlemogcaoehbaa", sum := "f664373247b3b0f41637d83bc0c553817853d84cb2e75482994f5e78331ab685", func := "cellarer/cellarerlaw01.NameGroups", spec := "nameGroups", inPlace := ["internal/bytealg.IndexByteString", "internal/bytealg.IndexString"], unfollowed := true, recurses := true, named := ["internal/bytealg.MaxLen"], apart := false }
def NameGroupsSaid : Prop := nameGroupsRow.holds Try.pinned (OpenSpec.ofChange nameGroupsSpec)

/-- ITS FALSE NEIGHBOUR: 'it returns false'. Refute it at one input. -/
def nameGroupsWrong : ChangeSpec := { name := "nameGroups", fn := fun _ => fun
  | [d1, d2, d3] => { results := [.lit (.bool false)], args := [d1, d2, d3] }
  | _ => none }
def NameGroupsWrongFalsely : Prop := nameGroupsRow.holds Try.pinned (OpenSpec.ofChange nameGroupsWrong)

/-- 'cellarerlaw01.NameBuckets': WHATEVER THE INPUT: true; the input reads as it did. -/
def nameBucketsSpec : ChangeSpec := { name := "nameBuckets", fn := fun _ => fun
  | [d1, d2] => { results := [.lit (.bool true)], args := [d1, d2] }
  | _ => none }
def nameBucketsRow : OpenClaim := { program := "ythlemogcaoehbaa", sum := "f664373247b3b0f41637d83bc0c553817853d84cb2e75482994f5e78331ab685", func := "cellarer/cellarerlaw01.NameBuckets", spec := "nameBuckets", inPlace := ["internal/bytealg.IndexByteString", "internal/bytealg.IndexString"], unfollowed := true, recurses := true, named := ["internal/bytealg.MaxLen"], apart := false }
def NameBucketsSaid : Prop := nameBucketsRow.holds Try.pinned (OpenSpec.ofChange nameBucketsSpec)

/-- ITS FALSE NEIGHBOUR: 'it returns false'. Refute it at one input. -/
def nameBucketsWrong : ChangeSpec := { name := "nameBuckets", fn := fun _ => fun
  | [d1, d2] => { results := [.lit (.bool false)], args := [d1, d2] }
  | _ => none }
def NameBucketsWrongFalsely : Prop := nameBucketsRow.holds Try.pinned (OpenSpec.ofChange nameBucketsWrong)

/-- 'cellarerlaw01.NameKinds': WHATEVER THE INPUT: true; the input reads as it did. -/
def nameKindsSpec : ChangeSpec := { name := "nameKinds", fn := fun _ => fun
  | [d1, d2] => { results := [.lit (.bool true)], args := [d1, d2] }
  | _ => none }
def nameKindsRow : OpenClaim := { program := "ythlemogcaoehbaa", sum := "f664373247b3b0f41637d83bc0c553817853d84cb2e75482994f5e78331ab685", func := "cellarer/cellarerlaw01.NameKinds", spec := "nameKinds", inPlace := ["internal/bytealg.IndexByteString", "internal/bytealg.IndexString"], unfollowed := true, recurses := true, named := ["internal/bytealg.MaxLen"], apart := false }
def NameKindsSaid : Prop := nameKindsRow.holds Try.pinned (OpenSpec.ofChange nameKindsSpec)

/-- ITS FALSE NEIGHBOUR: 'it returns false'. Refute it at one input. -/
def nameKindsWrong : ChangeSpec := { name := "nameKinds", fn := fun _ => fun
  | [d1, d2] => { results := [.lit (.bool false)], args := [d1, d2] }
  | _ => none }
def NameKindsWrongFalsely : Prop := nameKindsRow.holds Try.pinned (OpenSpec.ofChange nameKindsWrong)

/-- 'cellarerlaw01.NameShares': WHATEVER THE INPUT: true; the input reads as it did. -/
def nameSharesSpec : ChangeSpec := { name := "nameShares", fn := fun _ => fun
  | [d] => { results := [.lit (.bool true)], args := [d] }
  | _ => none }
def nameSharesRow : OpenClaim := { program := "ythlemogcaoehbaa", sum := "f664373247b3b0f41637d83bc0c553817853d84cb2e75482994f5e78331ab685", func := "cellarer/cellarerlaw01.NameShares", spec := "nameShares", inPlace := ["internal/bytealg.IndexByteString", "internal/bytealg.IndexString"], unfollowed := true, recurses := true, named := ["internal/bytealg.MaxLen"], apart := false }
def NameSharesSaid : Prop := nameSharesRow.holds Try.pinned (OpenSpec.ofChange nameSharesSpec)

/-- ITS FALSE NEIGHBOUR: 'it returns false'. Refute it at one input. -/
def nameSharesWrong : ChangeSpec := { name := "nameShares", fn := fun _ => fun
  | [d] => { results := [.lit (.bool false)], args := [d] }
  | _ => none }
def NameSharesWrongFalsely : Prop := nameSharesRow.holds Try.pinned (OpenSpec.ofChange nameSharesWrong)

/-- 'cellarerlaw01.NameBounds': WHATEVER THE INPUT: true; the input reads as it did. -/
def nameBoundsSpec : ChangeSpec := { name := "nameBounds", fn := fun _ => fun
  | [d1, d2] => { results := [.lit (.bool true)], args := [d1, d2] }
  | _ => none }
def nameBoundsRow : OpenClaim := { program := "ythlemogcaoehbaa", sum := "f664373247b3b0f41637d83bc0c553817853d84cb2e75482994f5e78331ab685", func := "cellarer/cellarerlaw01.NameBounds", spec := "nameBounds", inPlace := ["internal/bytealg.IndexByteString", "internal/bytealg.IndexString"], unfollowed := true, recurses := true, named := ["internal/bytealg.MaxLen"], apart := false }
def NameBoundsSaid : Prop := nameBoundsRow.holds Try.pinned (OpenSpec.ofChange nameBoundsSpec)

/-- ITS FALSE NEIGHBOUR: 'it returns false'. Refute it at one input. -/
def nameBoundsWrong : ChangeSpec := { name := "nameBounds", fn := fun _ => fun
  | [d1, d2] => { results := [.lit (.bool false)], args := [d1, d2] }
  | _ => none }
def NameBoundsWrongFalsely : Prop := nameBoundsRow.holds Try.pinned (OpenSpec.ofChange nameBoundsWrong)

/-- 'cellarerlaw01.NameKeys': WHATEVER THE INPUT: true; the input reads as it did. -/
def nameKeysSpec : ChangeSpec := { name := "nameKeys", fn := fun _ => fun
  | [d1, d2] => { results := [.lit (.bool true)], args := [d1, d2] }
  | _ => none }
def nameKeysRow : OpenClaim := { program := "ythlemogcaoehbaa", sum := "f664373247b3b0f41637d83bc0c553817853d84cb2e75482994f5e78331ab685", func := "cellarer/cellarerlaw01.NameKeys", spec := "nameKeys", inPlace := ["internal/bytealg.IndexByteString", "internal/bytealg.IndexString"], unfollowed := true, recurses := true, named := ["internal/bytealg.MaxLen"], apart := false }
def NameKeysSaid : Prop := nameKeysRow.holds Try.pinned (OpenSpec.ofChange nameKeysSpec)

/-- ITS FALSE NEIGHBOUR: 'it returns false'. Refute it at one input. -/
def nameKeysWrong : ChangeSpec := { name := "nameKeys", fn := fun _ => fun
  | [d1, d2] => { results := [.lit (.bool false)], args := [d1, d2] }
  | _ => none }
def NameKeysWrongFalsely : Prop := nameKeysRow.holds Try.pinned (OpenSpec.ofChange nameKeysWrong)

/-- 'cellarerlaw01.NameCuts': WHATEVER THE INPUT: true; the input reads as it did. -/
def nameCutsSpec : ChangeSpec := { name := "nameCuts", fn := fun _ => fun
  | [d1, d2, d3] => { results := [.lit (.bool true)], args := [d1, d2, d3] }
  | _ => none }
def nameCutsRow : OpenClaim := { program := "ythlemogcaoehbaa", sum := "f664373247b3b0f41637d83bc0c553817853d84cb2e75482994f5e78331ab685", func := "cellarer/cellarerlaw01.NameCuts", spec := "nameCuts", inPlace := ["internal/bytealg.IndexByteString", "internal/bytealg.IndexString"], unfollowed := true, recurses := true, named := ["internal/bytealg.MaxLen"], apart := false }
def NameCutsSaid : Prop := nameCutsRow.holds Try.pinned (OpenSpec.ofChange nameCutsSpec)

/-- ITS FALSE NEIGHBOUR: 'it returns false'. Refute it at one input. -/
def nameCutsWrong : ChangeSpec := { name := "nameCuts", fn := fun _ => fun
  | [d1, d2, d3] => { results := [.lit (.bool false)], args := [d1, d2, d3] }
  | _ => none }
def NameCutsWrongFalsely : Prop := nameCutsRow.holds Try.pinned (OpenSpec.ofChange nameCutsWrong)

/- THE SECOND FORM. 'bulk': how many values and letters a reading holds, each counted each time it is reached (what is shared counts as often as it is met; a slice's spare places count too). A statement '..UptoSaid' is the law's where the arguments, and the package variables that the reading takes, are together of bulk at most 1048576: NARROWER than '..Said'. Prove '..Said' where nothing that the law and all that it calls make is longer than what came in: it says more and counts as full. Else prove '..UptoSaid'. A law counts once. -/
mutual
def uptoBulk {H : Type} : DataW H → Nat
  | .lit (.string bytes) => bytes.length + 1
  | .lit _ => 1
  | .nil => 1
  | .ptr d => uptoBulk d + 1
  | .slice elems spare => uptoBulkAll elems + uptoBulkAll spare + 1
  | .agg parts => uptoBulkAll parts + 1
  | .iface _ d => uptoBulk d + 1
  | .map entries => uptoBulkEntries entries + 1
  | .held _ => 1
def uptoBulkAll {H : Type} : List (DataW H) → Nat
  | [] => 0
  | d :: r => uptoBulk d + uptoBulkAll r
def uptoBulkEntries {H : Type} : List (Lit × DataW H) → Nat
  | [] => 0
  | x :: r => uptoBulkEntry x + uptoBulkEntries r
def uptoBulkEntry {H : Type} : Lit × DataW H → Nat
  | (.string bytes, d) => bytes.length + uptoBulk d + 1
  | (_, d) => uptoBulk d + 1
 end
def uptoSmall : (H : Type) → List (DataW H) → Bool := fun _ ds => decide (uptoBulkAll ds ≤ 1048576)
def OpenSpec.upto (s : _root_.Go.ChangeSpec) : _root_.Go.OpenSpec := { _root_.Go.OpenSpec.ofChange s with cond := some uptoSmall }

/-- 'cellarerlaw01.NameGroups', WHERE WHAT IT READS IS OF BULK AT MOST 1048576: true; the input reads as it did. -/
def nameGroupsUptoRow : OpenClaim := { program := "ythlemogcaoehbaa", sum := "f664373247b3b0f41637d83bc0c553817853d84cb2e75482994f5e78331ab685", func := "cellarer/cellarerlaw01.NameGroups", spec := "nameGroups", inPlace := ["internal/bytealg.IndexByteString", "internal/bytealg.IndexString"], unfollowed := true, recurses := true, named := ["internal/bytealg.MaxLen"], apart := false, narrowed := true }
def NameGroupsUptoSaid : Prop := nameGroupsUptoRow.holds Try.pinned (OpenSpec.upto nameGroupsSpec)

/-- 'cellarerlaw01.NameBuckets', WHERE WHAT IT READS IS OF BULK AT MOST 1048576: true; the input reads as it did. -/
def nameBucketsUptoRow : OpenClaim := { program := "ythlemogcaoehbaa", sum := "f664373247b3b0f41637d83bc0c553817853d84cb2e75482994f5e78331ab685", func := "cellarer/cellarerlaw01.NameBuckets", spec := "nameBuckets", inPlace := ["internal/bytealg.IndexByteString", "internal/bytealg.IndexString"], unfollowed := true, recurses := true, named := ["internal/bytealg.MaxLen"], apart := false, narrowed := true }
def NameBucketsUptoSaid : Prop := nameBucketsUptoRow.holds Try.pinned (OpenSpec.upto nameBucketsSpec)

/-- 'cellarerlaw01.NameKinds', WHERE WHAT IT READS IS OF BULK AT MOST 1048576: true; the input reads as it did. -/
def nameKindsUptoRow : OpenClaim := { program := "ythlemogcaoehbaa", sum := "f664373247b3b0f41637d83bc0c553817853d84cb2e75482994f5e78331ab685", func := "cellarer/cellarerlaw01.NameKinds", spec := "nameKinds", inPlace := ["internal/bytealg.IndexByteString", "internal/bytealg.IndexString"], unfollowed := true, recurses := true, named := ["internal/bytealg.MaxLen"], apart := false, narrowed := true }
def NameKindsUptoSaid : Prop := nameKindsUptoRow.holds Try.pinned (OpenSpec.upto nameKindsSpec)

/-- 'cellarerlaw01.NameShares', WHERE WHAT IT READS IS OF BULK AT MOST 1048576: true; the input reads as it did. -/
def nameSharesUptoRow : OpenClaim := { program := "ythlemogcaoehbaa", sum := "f664373247b3b0f41637d83bc0c553817853d84cb2e75482994f5e78331ab685", func := "cellarer/cellarerlaw01.NameShares", spec := "nameShares", inPlace := ["internal/bytealg.IndexByteString", "internal/bytealg.IndexString"], unfollowed := true, recurses := true, named := ["internal/bytealg.MaxLen"], apart := false, narrowed := true }
def NameSharesUptoSaid : Prop := nameSharesUptoRow.holds Try.pinned (OpenSpec.upto nameSharesSpec)

/-- 'cellarerlaw01.NameBounds', WHERE WHAT IT READS IS OF BULK AT MOST 1048576: true; the input reads as it did. -/
def nameBoundsUptoRow : OpenClaim := { program := "ythlemogcaoehbaa", sum := "f664373247b3b0f41637d83bc0c553817853d84cb2e75482994f5e78331ab685", func := "cellarer/cellarerlaw01.NameBounds", spec := "nameBounds", inPlace := ["internal/bytealg.IndexByteString", "internal/bytealg.IndexString"], unfollowed := true, recurses := true, named := ["internal/bytealg.MaxLen"], apart := false, narrowed := true }
def NameBoundsUptoSaid : Prop := nameBoundsUptoRow.holds Try.pinned (OpenSpec.upto nameBoundsSpec)

/-- 'cellarerlaw01.NameKeys', WHERE WHAT IT READS IS OF BULK AT MOST 1048576: true; the input reads as it did. -/
def nameKeysUptoRow : OpenClaim := { program := "ythlemogcaoehbaa", sum := "f664373247b3b0f41637d83bc0c553817853d84cb2e75482994f5e78331ab685", func := "cellarer/cellarerlaw01.NameKeys", spec := "nameKeys", inPlace := ["internal/bytealg.IndexByteString", "internal/bytealg.IndexString"], unfollowed := true, recurses := true, named := ["internal/bytealg.MaxLen"], apart := false, narrowed := true }
def NameKeysUptoSaid : Prop := nameKeysUptoRow.holds Try.pinned (OpenSpec.upto nameKeysSpec)

/-- 'cellarerlaw01.NameCuts', WHERE WHAT IT READS IS OF BULK AT MOST 1048576: true; the input reads as it did. -/
def nameCutsUptoRow : OpenClaim := { program := "ythlemogcaoehbaa", sum := "f664373247b3b0f41637d83bc0c553817853d84cb2e75482994f5e78331ab685", func := "cellarer/cellarerlaw01.NameCuts", spec := "nameCuts", inPlace := ["internal/bytealg.IndexByteString", "internal/bytealg.IndexString"], unfollowed := true, recurses := true, named := ["internal/bytealg.MaxLen"], apart := false, narrowed := true }
def NameCutsUptoSaid : Prop := nameCutsUptoRow.holds Try.pinned (OpenSpec.upto nameCutsSpec)

end Rows
end Go.Proofs.Ythlemogcaoehbaa
