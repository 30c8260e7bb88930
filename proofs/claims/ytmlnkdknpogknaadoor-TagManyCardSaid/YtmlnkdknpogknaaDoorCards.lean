/-
  DERIVED. GIVEN WITH THE SEED: THE CARDS: each row of YtmlnkdknpogknaaDoorRows.lean that lists a variable, with what it lists TIED to the program's text (the seventh form; the later family's looks); each row that meets fmt, with fmt's text TOLD by the authors' own Lean function (tested against real Go, not proved from fmt's source: count such statements apart). THE CARD IS WHAT COUNTS. Prove the row's statement (the work); the ties are given (YtmlnkdknpogknaaDoorTie.lean); close each card by the builder's one call (the guide's Derived/Test/ToyasCard.lean, 'card_holds'). Laid BY PROGRAM, IN A SANDBOX (cutbox-door.mjs). By AI agents, Wed Nov 11 2026. No macro, syntax, notation, axiom, sorry.
-/
import Derived.Test.YtmlnkdknpogknaaDoorRows
import GoSem.ClaimSeven
namespace Go.Proofs.YtmlnkdknpogknaaDoor
namespace Rows

/-- THE TIED CARD OF 'cellarerlaw04.TagSigns'. -/
def tagSignsCard : Claim7 := { stood := { row := tagSignsRow, standIns := [], harness := (true, "a90c67b3e9db6f2868a88a1a9a6ae4e7893e35383ed6fc7253756c0b5ada1d53"), looks := true }, kinds := [], alts := [], laidByText := true, laidKinds := [.data, .data, .data, .sentinel, .sentinel], laidTests := true, laidLooks := .later }
def TagSignsCardSaid : Prop := Claim7.holds Tryd.pinned (.plain (OpenSpec.ofChange tagSignsSpec)) tagSignsCard

/-- THE TIED CARD OF 'cellarerlaw04.TagTexts'. -/
def tagTextsCard : Claim7 := { stood := { row := tagTextsRow, standIns := [], harness := (true, "a90c67b3e9db6f2868a88a1a9a6ae4e7893e35383ed6fc7253756c0b5ada1d53"), looks := true }, kinds := [], alts := [], laidByText := true, laidKinds := [.data, .data, .data, .sentinel, .sentinel], laidTests := true, laidLooks := .later }
def TagTextsCardSaid : Prop := Claim7.holds Tryd.pinned (.plain (OpenSpec.ofChange tagTextsSpec)) tagTextsCard

/-- THE TIED CARD OF 'cellarerlaw04.TagMany'. -/
def tagManyCard : Claim7 := { stood := { row := tagManyRow, standIns := [], harness := (true, "a90c67b3e9db6f2868a88a1a9a6ae4e7893e35383ed6fc7253756c0b5ada1d53"), looks := true }, kinds := [], alts := [], laidByText := true, laidKinds := [.data, .data, .data, .sentinel, .sentinel], laidTests := true, laidLooks := .later }
def TagManyCardSaid : Prop := Claim7.holds Tryd.pinned (.plain (OpenSpec.ofChange tagManySpec)) tagManyCard

/-- THE SECOND FORM's CARD OF 'cellarerlaw04.TagSigns'. -/
def tagSignsUptoCard : Claim7 := { stood := { row := tagSignsUptoRow, standIns := [], harness := (true, "a90c67b3e9db6f2868a88a1a9a6ae4e7893e35383ed6fc7253756c0b5ada1d53"), looks := true }, kinds := [], alts := [], laidByText := true, laidKinds := [.data, .data, .data, .sentinel, .sentinel], laidTests := true, laidLooks := .later }
def TagSignsUptoCardSaid : Prop := Claim7.holds Tryd.pinned (.plain (OpenSpec.upto tagSignsSpec)) tagSignsUptoCard

/-- THE SECOND FORM's CARD OF 'cellarerlaw04.TagTexts'. -/
def tagTextsUptoCard : Claim7 := { stood := { row := tagTextsUptoRow, standIns := [], harness := (true, "a90c67b3e9db6f2868a88a1a9a6ae4e7893e35383ed6fc7253756c0b5ada1d53"), looks := true }, kinds := [], alts := [], laidByText := true, laidKinds := [.data, .data, .data, .sentinel, .sentinel], laidTests := true, laidLooks := .later }
def TagTextsUptoCardSaid : Prop := Claim7.holds Tryd.pinned (.plain (OpenSpec.upto tagTextsSpec)) tagTextsUptoCard

/-- THE SECOND FORM's CARD OF 'cellarerlaw04.TagMany'. -/
def tagManyUptoCard : Claim7 := { stood := { row := tagManyUptoRow, standIns := [], harness := (true, "a90c67b3e9db6f2868a88a1a9a6ae4e7893e35383ed6fc7253756c0b5ada1d53"), looks := true }, kinds := [], alts := [], laidByText := true, laidKinds := [.data, .data, .data, .sentinel, .sentinel], laidTests := true, laidLooks := .later }
def TagManyUptoCardSaid : Prop := Claim7.holds Tryd.pinned (.plain (OpenSpec.upto tagManySpec)) tagManyUptoCard
end Rows
end Go.Proofs.YtmlnkdknpogknaaDoor
