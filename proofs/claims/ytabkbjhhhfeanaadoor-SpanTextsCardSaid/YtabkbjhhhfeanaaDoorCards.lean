/-
  DERIVED. GIVEN WITH THE SEED: THE CARDS: each row of YtabkbjhhhfeanaaDoorRows.lean that lists a variable, with what it lists TIED to the program's text (the seventh form; the later family's looks); each row that meets fmt, with fmt's text TOLD by the authors' own Lean function (tested against real Go, not proved from fmt's source: count such statements apart). THE CARD IS WHAT COUNTS. Prove the row's statement (the work); the ties are given (YtabkbjhhhfeanaaDoorTie.lean); close each card by the builder's one call (the guide's Derived/Test/ToyasCard.lean, 'card_holds'). Laid BY PROGRAM, IN A SANDBOX (cutbox-door.mjs). By AI agents, Wed Nov 11 2026. No macro, syntax, notation, axiom, sorry.
-/
import Derived.Test.YtabkbjhhhfeanaaDoorRows
import GoSem.ClaimSeven
namespace Go.Proofs.YtabkbjhhhfeanaaDoor
namespace Rows

/-- THE TIED CARD OF 'cellarerlaw03.SpanOfs'. -/
def spanOfsCard : Claim7 := { stood := { row := spanOfsRow, standIns := [], harness := (true, "d2d5d39d6dbbc24024a722d9d5b07398c3beb83ad5766e99eb1fcb61ef288b92"), looks := true }, kinds := [], alts := [], laidByText := true, laidKinds := [.data, .data, .data, .sentinel, .sentinel], laidTests := true, laidLooks := .later }
def SpanOfsCardSaid : Prop := Claim7.holds Tryd.pinned (.plain (OpenSpec.ofChange spanOfsSpec)) spanOfsCard

/-- THE TIED CARD OF 'cellarerlaw03.SpanParts'. -/
def spanPartsCard : Claim7 := { stood := { row := spanPartsRow, standIns := [], harness := (true, "d2d5d39d6dbbc24024a722d9d5b07398c3beb83ad5766e99eb1fcb61ef288b92"), looks := true }, kinds := [], alts := [], laidByText := true, laidKinds := [.data, .data, .data, .sentinel, .sentinel], laidTests := true, laidLooks := .later }
def SpanPartsCardSaid : Prop := Claim7.holds Tryd.pinned (.plain (OpenSpec.ofChange spanPartsSpec)) spanPartsCard

/-- THE TIED CARD OF 'cellarerlaw03.SpanWithin'. -/
def spanWithinCard : Claim7 := { stood := { row := spanWithinRow, standIns := [], harness := (true, "d2d5d39d6dbbc24024a722d9d5b07398c3beb83ad5766e99eb1fcb61ef288b92"), looks := true }, kinds := [], alts := [], laidByText := true, laidKinds := [.data, .data, .data, .sentinel, .sentinel], laidTests := true, laidLooks := .later }
def SpanWithinCardSaid : Prop := Claim7.holds Tryd.pinned (.plain (OpenSpec.ofChange spanWithinSpec)) spanWithinCard

/-- THE TIED CARD OF 'cellarerlaw03.SpanWhole'. -/
def spanWholeCard : Claim7 := { stood := { row := spanWholeRow, standIns := [], harness := (true, "d2d5d39d6dbbc24024a722d9d5b07398c3beb83ad5766e99eb1fcb61ef288b92"), looks := true }, kinds := [], alts := [], laidByText := true, laidKinds := [.data, .data, .data, .sentinel, .sentinel], laidTests := true, laidLooks := .later }
def SpanWholeCardSaid : Prop := Claim7.holds Tryd.pinned (.plain (OpenSpec.ofChange spanWholeSpec)) spanWholeCard

/-- THE TIED CARD OF 'cellarerlaw03.SpanTwice'. -/
def spanTwiceCard : Claim7 := { stood := { row := spanTwiceRow, standIns := [], harness := (true, "d2d5d39d6dbbc24024a722d9d5b07398c3beb83ad5766e99eb1fcb61ef288b92"), looks := true }, kinds := [], alts := [], laidByText := true, laidKinds := [.data, .data, .data, .sentinel, .sentinel], laidTests := true, laidLooks := .later }
def SpanTwiceCardSaid : Prop := Claim7.holds Tryd.pinned (.plain (OpenSpec.ofChange spanTwiceSpec)) spanTwiceCard

/-- THE TIED CARD OF 'cellarerlaw03.SpanOctets'. -/
def spanOctetsCard : Claim7 := { stood := { row := spanOctetsRow, standIns := [], harness := (true, "d2d5d39d6dbbc24024a722d9d5b07398c3beb83ad5766e99eb1fcb61ef288b92"), looks := true }, kinds := [], alts := [], laidByText := true, laidKinds := [.data, .data, .data, .sentinel, .sentinel], laidTests := true, laidLooks := .later }
def SpanOctetsCardSaid : Prop := Claim7.holds Tryd.pinned (.plain (OpenSpec.ofChange spanOctetsSpec)) spanOctetsCard

/-- THE TIED CARD OF 'cellarerlaw03.SpanTexts'. -/
def spanTextsCard : Claim7 := { stood := { row := spanTextsRow, standIns := [], harness := (true, "d2d5d39d6dbbc24024a722d9d5b07398c3beb83ad5766e99eb1fcb61ef288b92"), looks := true }, kinds := [], alts := [], laidByText := true, laidKinds := [.data, .data, .data, .sentinel, .sentinel], laidTests := true, laidLooks := .later }
def SpanTextsCardSaid : Prop := Claim7.holds Tryd.pinned (.plain (OpenSpec.ofChange spanTextsSpec)) spanTextsCard

/-- THE SECOND FORM's CARD OF 'cellarerlaw03.SpanOfs'. -/
def spanOfsUptoCard : Claim7 := { stood := { row := spanOfsUptoRow, standIns := [], harness := (true, "d2d5d39d6dbbc24024a722d9d5b07398c3beb83ad5766e99eb1fcb61ef288b92"), looks := true }, kinds := [], alts := [], laidByText := true, laidKinds := [.data, .data, .data, .sentinel, .sentinel], laidTests := true, laidLooks := .later }
def SpanOfsUptoCardSaid : Prop := Claim7.holds Tryd.pinned (.plain (OpenSpec.upto spanOfsSpec)) spanOfsUptoCard

/-- THE SECOND FORM's CARD OF 'cellarerlaw03.SpanParts'. -/
def spanPartsUptoCard : Claim7 := { stood := { row := spanPartsUptoRow, standIns := [], harness := (true, "d2d5d39d6dbbc24024a722d9d5b07398c3beb83ad5766e99eb1fcb61ef288b92"), looks := true }, kinds := [], alts := [], laidByText := true, laidKinds := [.data, .data, .data, .sentinel, .sentinel], laidTests := true, laidLooks := .later }
def SpanPartsUptoCardSaid : Prop := Claim7.holds Tryd.pinned (.plain (OpenSpec.upto spanPartsSpec)) spanPartsUptoCard

/-- THE SECOND FORM's CARD OF 'cellarerlaw03.SpanWithin'. -/
def spanWithinUptoCard : Claim7 := { stood := { row := spanWithinUptoRow, standIns := [], harness := (true, "d2d5d39d6dbbc24024a722d9d5b07398c3beb83ad5766e99eb1fcb61ef288b92"), looks := true }, kinds := [], alts := [], laidByText := true, laidKinds := [.data, .data, .data, .sentinel, .sentinel], laidTests := true, laidLooks := .later }
def SpanWithinUptoCardSaid : Prop := Claim7.holds Tryd.pinned (.plain (OpenSpec.upto spanWithinSpec)) spanWithinUptoCard

/-- THE SECOND FORM's CARD OF 'cellarerlaw03.SpanWhole'. -/
def spanWholeUptoCard : Claim7 := { stood := { row := spanWholeUptoRow, standIns := [], harness := (true, "d2d5d39d6dbbc24024a722d9d5b07398c3beb83ad5766e99eb1fcb61ef288b92"), looks := true }, kinds := [], alts := [], laidByText := true, laidKinds := [.data, .data, .data, .sentinel, .sentinel], laidTests := true, laidLooks := .later }
def SpanWholeUptoCardSaid : Prop := Claim7.holds Tryd.pinned (.plain (OpenSpec.upto spanWholeSpec)) spanWholeUptoCard

/-- THE SECOND FORM's CARD OF 'cellarerlaw03.SpanTwice'. -/
def spanTwiceUptoCard : Claim7 := { stood := { row := spanTwiceUptoRow, standIns := [], harness := (true, "d2d5d39d6dbbc24024a722d9d5b07398c3beb83ad5766e99eb1fcb61ef288b92"), looks := true }, kinds := [], alts := [], laidByText := true, laidKinds := [.data, .data, .data, .sentinel, .sentinel], laidTests := true, laidLooks := .later }
def SpanTwiceUptoCardSaid : Prop := Claim7.holds Tryd.pinned (.plain (OpenSpec.upto spanTwiceSpec)) spanTwiceUptoCard

/-- THE SECOND FORM's CARD OF 'cellarerlaw03.SpanOctets'. -/
def spanOctetsUptoCard : Claim7 := { stood := { row := spanOctetsUptoRow, standIns := [], harness := (true, "d2d5d39d6dbbc24024a722d9d5b07398c3beb83ad5766e99eb1fcb61ef288b92"), looks := true }, kinds := [], alts := [], laidByText := true, laidKinds := [.data, .data, .data, .sentinel, .sentinel], laidTests := true, laidLooks := .later }
def SpanOctetsUptoCardSaid : Prop := Claim7.holds Tryd.pinned (.plain (OpenSpec.upto spanOctetsSpec)) spanOctetsUptoCard

/-- THE SECOND FORM's CARD OF 'cellarerlaw03.SpanTexts'. -/
def spanTextsUptoCard : Claim7 := { stood := { row := spanTextsUptoRow, standIns := [], harness := (true, "d2d5d39d6dbbc24024a722d9d5b07398c3beb83ad5766e99eb1fcb61ef288b92"), looks := true }, kinds := [], alts := [], laidByText := true, laidKinds := [.data, .data, .data, .sentinel, .sentinel], laidTests := true, laidLooks := .later }
def SpanTextsUptoCardSaid : Prop := Claim7.holds Tryd.pinned (.plain (OpenSpec.upto spanTextsSpec)) spanTextsUptoCard
end Rows
end Go.Proofs.YtabkbjhhhfeanaaDoor
