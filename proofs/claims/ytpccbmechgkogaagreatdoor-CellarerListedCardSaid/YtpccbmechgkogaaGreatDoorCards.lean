/-
  DERIVED. GIVEN WITH THE SEED: THE CARDS: each row of YtpccbmechgkogaaGreatDoorRows.lean that lists a variable, with what it lists TIED to the program's text (the seventh form; the later family's looks); each row that meets fmt, with fmt's text TOLD by the authors' own Lean function (tested against real Go, not proved from fmt's source: count such statements apart). THE CARD IS WHAT COUNTS. Prove the row's statement (the work); the ties are given (YtpccbmechgkogaaGreatDoorTie.lean); close each card by the builder's one call (the guide's Derived/Test/ToyasCard.lean, 'card_holds'). Laid BY PROGRAM, IN A SANDBOX (cutbox-door.mjs). By AI agents, Wed Nov 11 2026. No macro, syntax, notation, axiom, sorry.
-/
import Derived.Test.YtpccbmechgkogaaGreatDoorRows
import GoSem.ClaimSeven
namespace Go.Proofs.YtpccbmechgkogaaGreatDoor
namespace Rows

/-- THE TIED CARD OF 'cellarertop.CellarerListed'. -/
def cellarerListedCard : Claim7 := { stood := { row := cellarerListedRow, standIns := [], harness := (true, "a59a4175b4c48d821f444fd9419ccf13fed2e05470e24ba97a223ee60ad3b873"), looks := false }, kinds := [], alts := [], laidByText := true, laidKinds := [.data, .data, .data], laidTests := true, laidLooks := .later }
def CellarerListedCardSaid : Prop := Claim7.holds Tryz.pinned (.plain (OpenSpec.ofChange cellarerListedSpec)) cellarerListedCard

/-- THE SECOND FORM's CARD OF 'cellarertop.CellarerListed'. -/
def cellarerListedUptoCard : Claim7 := { stood := { row := cellarerListedUptoRow, standIns := [], harness := (true, "a59a4175b4c48d821f444fd9419ccf13fed2e05470e24ba97a223ee60ad3b873"), looks := false }, kinds := [], alts := [], laidByText := true, laidKinds := [.data, .data, .data], laidTests := true, laidLooks := .later }
def CellarerListedUptoCardSaid : Prop := Claim7.holds Tryz.pinned (.plain (OpenSpec.upto cellarerListedSpec)) cellarerListedUptoCard
end Rows
end Go.Proofs.YtpccbmechgkogaaGreatDoor
