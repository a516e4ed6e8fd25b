/-
  DERIVED. GIVEN WITH THE SEED: THE CARDS: each row of YtgdpojleejdfaaaDoorRows.lean that lists a variable, with what it lists TIED to the program's text (the seventh form; the later family's looks); each row that meets fmt, with fmt's text TOLD by the authors' own Lean function (tested against real Go, not proved from fmt's source: count such statements apart). THE CARD IS WHAT COUNTS. Prove the row's statement (the work); the ties are given (YtgdpojleejdfaaaDoorTie.lean); close each card by the builder's one call (the guide's Derived/Test/ToyasCard.lean, 'card_holds'). Laid BY PROGRAM, IN A SANDBOX (cutbox-door.mjs). By AI agents, Wed Nov 11 2026. No macro, syntax, notation, axiom, sorry.
-/
import Derived.Test.YtgdpojleejdfaaaDoorRows
import GoSem.ClaimSeven
namespace Go.Proofs.YtgdpojleejdfaaaDoor
namespace Rows

/-- THE TIED CARD OF 'tmplpipelaw11.LexTextIsLiteral'. -/
def lexTextIsLiteralCard : Claim7 := { stood := { row := lexTextIsLiteralRow, standIns := [], harness := (true, "2a440196210400f6be62f69bb635f593857fe3af54fdc94819d83879729df00d"), looks := true }, kinds := [], alts := [], laidByText := true, laidKinds := [.data, .data, .pinned], laidTests := true, laidLooks := .later }
def LexTextIsLiteralCardSaid : Prop := Claim7.holds Tryd.pinned (.plain (OpenSpec.ofChange lexTextIsLiteralSpec)) lexTextIsLiteralCard

/-- THE TIED CARD OF 'tmplpipelaw11.LexOffsets'. -/
def lexOffsetsCard : Claim7 := { stood := { row := lexOffsetsRow, standIns := [], harness := (true, "2a440196210400f6be62f69bb635f593857fe3af54fdc94819d83879729df00d"), looks := true }, kinds := [], alts := [], laidByText := true, laidKinds := [.data, .data, .pinned], laidTests := true, laidLooks := .later }
def LexOffsetsCardSaid : Prop := Claim7.holds Tryd.pinned (.plain (OpenSpec.ofChange lexOffsetsSpec)) lexOffsetsCard

/-- THE TIED CARD OF 'tmplpipelaw11.LexConcatenation'. -/
def lexConcatenationCard : Claim7 := { stood := { row := lexConcatenationRow, standIns := [], harness := (true, "2a440196210400f6be62f69bb635f593857fe3af54fdc94819d83879729df00d"), looks := true }, kinds := [], alts := [], laidByText := true, laidKinds := [.data, .data, .pinned], laidTests := true, laidLooks := .later }
def LexConcatenationCardSaid : Prop := Claim7.holds Tryd.pinned (.plain (OpenSpec.ofChange lexConcatenationSpec)) lexConcatenationCard

/-- THE TIED CARD OF 'tmplpipelaw12.ParseMatchesReference'. -/
def parseMatchesReferenceCard : Claim7 := { stood := { row := parseMatchesReferenceRow, standIns := [], harness := (true, "2a440196210400f6be62f69bb635f593857fe3af54fdc94819d83879729df00d"), looks := true }, kinds := [], alts := [], laidByText := true, laidKinds := [.data, .data, .pinned], laidTests := true, laidLooks := .later }
def ParseMatchesReferenceCardSaid : Prop := Claim7.holds Tryd.pinned (.plain (OpenSpec.ofChange parseMatchesReferenceSpec)) parseMatchesReferenceCard

/-- THE TIED CARD OF 'tmplpipelaw12.ParseConcatenation'. -/
def parseConcatenationCard : Claim7 := { stood := { row := parseConcatenationRow, standIns := [], harness := (true, "2a440196210400f6be62f69bb635f593857fe3af54fdc94819d83879729df00d"), looks := true }, kinds := [], alts := [], laidByText := true, laidKinds := [.data, .data, .pinned], laidTests := true, laidLooks := .later }
def ParseConcatenationCardSaid : Prop := Claim7.holds Tryd.pinned (.plain (OpenSpec.ofChange parseConcatenationSpec)) parseConcatenationCard

/-- THE TIED CARD OF 'tmplpipelaw11.LexMatchesReference'. -/
def lexMatchesReferenceCard : Claim7 := { stood := { row := lexMatchesReferenceRow, standIns := [], harness := (true, "2a440196210400f6be62f69bb635f593857fe3af54fdc94819d83879729df00d"), looks := true }, kinds := [], alts := [], laidByText := true, laidKinds := [.data, .data, .pinned], laidTests := true, laidLooks := .later }
def LexMatchesReferenceCardSaid : Prop := Claim7.holds Tryd.pinned (.plain (OpenSpec.ofChange lexMatchesReferenceSpec)) lexMatchesReferenceCard

/-- THE TIED CARD OF 'tmplpipelaw11.LexFormatRoundTrip'. -/
def lexFormatRoundTripCard : Claim7 := { stood := { row := lexFormatRoundTripRow, standIns := [], harness := (true, "2a440196210400f6be62f69bb635f593857fe3af54fdc94819d83879729df00d"), looks := true }, kinds := [], alts := [], laidByText := true, laidKinds := [.data, .data, .pinned], laidTests := true, laidLooks := .later }
def LexFormatRoundTripCardSaid : Prop := Claim7.holds Tryd.pinned (.plain (OpenSpec.ofChange lexFormatRoundTripSpec)) lexFormatRoundTripCard

/-- THE TIED CARD OF 'tmplpipelaw12.ParseCountMatchesReference'. -/
def parseCountMatchesReferenceCard : Claim7 := { stood := { row := parseCountMatchesReferenceRow, standIns := [], harness := (true, "2a440196210400f6be62f69bb635f593857fe3af54fdc94819d83879729df00d"), looks := true }, kinds := [], alts := [], laidByText := true, laidKinds := [.data, .data, .pinned], laidTests := true, laidLooks := .later }
def ParseCountMatchesReferenceCardSaid : Prop := Claim7.holds Tryd.pinned (.plain (OpenSpec.ofChange parseCountMatchesReferenceSpec)) parseCountMatchesReferenceCard

/-- THE TIED CARD OF 'tmplpipelaw12.ParseOffsets'. -/
def parseOffsetsCard : Claim7 := { stood := { row := parseOffsetsRow, standIns := [], harness := (true, "2a440196210400f6be62f69bb635f593857fe3af54fdc94819d83879729df00d"), looks := true }, kinds := [], alts := [], laidByText := true, laidKinds := [.data, .data, .pinned], laidTests := true, laidLooks := .later }
def ParseOffsetsCardSaid : Prop := Claim7.holds Tryd.pinned (.plain (OpenSpec.ofChange parseOffsetsSpec)) parseOffsetsCard

/-- THE TIED CARD OF 'tmplpipelaw13.PrinterRoundTrip'. -/
def printerRoundTripCard : Claim7 := { stood := { row := printerRoundTripRow, standIns := [], harness := (true, "2a440196210400f6be62f69bb635f593857fe3af54fdc94819d83879729df00d"), looks := true }, kinds := [], alts := [], laidByText := true, laidKinds := [.data, .data, .pinned], laidTests := true, laidLooks := .later }
def PrinterRoundTripCardSaid : Prop := Claim7.holds Tryd.pinned (.plain (OpenSpec.ofChange printerRoundTripSpec)) printerRoundTripCard

/-- THE TIED CARD OF 'tmplpipelaw12.ParseManyNodes'. -/
def parseManyNodesCard : Claim7 := { stood := { row := parseManyNodesRow, standIns := [], harness := (true, "2a440196210400f6be62f69bb635f593857fe3af54fdc94819d83879729df00d"), looks := true }, kinds := [], alts := [], laidByText := true, laidKinds := [.data, .data, .pinned], laidTests := true, laidLooks := .later }
def ParseManyNodesCardSaid : Prop := Claim7.holds Tryd.pinned (.plain (OpenSpec.ofChange parseManyNodesSpec)) parseManyNodesCard

/-- THE SECOND FORM's CARD OF 'tmplpipelaw11.LexTextIsLiteral'. -/
def lexTextIsLiteralUptoCard : Claim7 := { stood := { row := lexTextIsLiteralUptoRow, standIns := [], harness := (true, "2a440196210400f6be62f69bb635f593857fe3af54fdc94819d83879729df00d"), looks := true }, kinds := [], alts := [], laidByText := true, laidKinds := [.data, .data, .pinned], laidTests := true, laidLooks := .later }
def LexTextIsLiteralUptoCardSaid : Prop := Claim7.holds Tryd.pinned (.plain (OpenSpec.upto lexTextIsLiteralSpec)) lexTextIsLiteralUptoCard

/-- THE SECOND FORM's CARD OF 'tmplpipelaw11.LexOffsets'. -/
def lexOffsetsUptoCard : Claim7 := { stood := { row := lexOffsetsUptoRow, standIns := [], harness := (true, "2a440196210400f6be62f69bb635f593857fe3af54fdc94819d83879729df00d"), looks := true }, kinds := [], alts := [], laidByText := true, laidKinds := [.data, .data, .pinned], laidTests := true, laidLooks := .later }
def LexOffsetsUptoCardSaid : Prop := Claim7.holds Tryd.pinned (.plain (OpenSpec.upto lexOffsetsSpec)) lexOffsetsUptoCard

/-- THE SECOND FORM's CARD OF 'tmplpipelaw11.LexConcatenation'. -/
def lexConcatenationUptoCard : Claim7 := { stood := { row := lexConcatenationUptoRow, standIns := [], harness := (true, "2a440196210400f6be62f69bb635f593857fe3af54fdc94819d83879729df00d"), looks := true }, kinds := [], alts := [], laidByText := true, laidKinds := [.data, .data, .pinned], laidTests := true, laidLooks := .later }
def LexConcatenationUptoCardSaid : Prop := Claim7.holds Tryd.pinned (.plain (OpenSpec.upto lexConcatenationSpec)) lexConcatenationUptoCard

/-- THE SECOND FORM's CARD OF 'tmplpipelaw12.ParseMatchesReference'. -/
def parseMatchesReferenceUptoCard : Claim7 := { stood := { row := parseMatchesReferenceUptoRow, standIns := [], harness := (true, "2a440196210400f6be62f69bb635f593857fe3af54fdc94819d83879729df00d"), looks := true }, kinds := [], alts := [], laidByText := true, laidKinds := [.data, .data, .pinned], laidTests := true, laidLooks := .later }
def ParseMatchesReferenceUptoCardSaid : Prop := Claim7.holds Tryd.pinned (.plain (OpenSpec.upto parseMatchesReferenceSpec)) parseMatchesReferenceUptoCard

/-- THE SECOND FORM's CARD OF 'tmplpipelaw12.ParseConcatenation'. -/
def parseConcatenationUptoCard : Claim7 := { stood := { row := parseConcatenationUptoRow, standIns := [], harness := (true, "2a440196210400f6be62f69bb635f593857fe3af54fdc94819d83879729df00d"), looks := true }, kinds := [], alts := [], laidByText := true, laidKinds := [.data, .data, .pinned], laidTests := true, laidLooks := .later }
def ParseConcatenationUptoCardSaid : Prop := Claim7.holds Tryd.pinned (.plain (OpenSpec.upto parseConcatenationSpec)) parseConcatenationUptoCard

/-- THE SECOND FORM's CARD OF 'tmplpipelaw11.LexMatchesReference'. -/
def lexMatchesReferenceUptoCard : Claim7 := { stood := { row := lexMatchesReferenceUptoRow, standIns := [], harness := (true, "2a440196210400f6be62f69bb635f593857fe3af54fdc94819d83879729df00d"), looks := true }, kinds := [], alts := [], laidByText := true, laidKinds := [.data, .data, .pinned], laidTests := true, laidLooks := .later }
def LexMatchesReferenceUptoCardSaid : Prop := Claim7.holds Tryd.pinned (.plain (OpenSpec.upto lexMatchesReferenceSpec)) lexMatchesReferenceUptoCard

/-- THE SECOND FORM's CARD OF 'tmplpipelaw11.LexFormatRoundTrip'. -/
def lexFormatRoundTripUptoCard : Claim7 := { stood := { row := lexFormatRoundTripUptoRow, standIns := [], harness := (true, "2a440196210400f6be62f69bb635f593857fe3af54fdc94819d83879729df00d"), looks := true }, kinds := [], alts := [], laidByText := true, laidKinds := [.data, .data, .pinned], laidTests := true, laidLooks := .later }
def LexFormatRoundTripUptoCardSaid : Prop := Claim7.holds Tryd.pinned (.plain (OpenSpec.upto lexFormatRoundTripSpec)) lexFormatRoundTripUptoCard

/-- THE SECOND FORM's CARD OF 'tmplpipelaw12.ParseCountMatchesReference'. -/
def parseCountMatchesReferenceUptoCard : Claim7 := { stood := { row := parseCountMatchesReferenceUptoRow, standIns := [], harness := (true, "2a440196210400f6be62f69bb635f593857fe3af54fdc94819d83879729df00d"), looks := true }, kinds := [], alts := [], laidByText := true, laidKinds := [.data, .data, .pinned], laidTests := true, laidLooks := .later }
def ParseCountMatchesReferenceUptoCardSaid : Prop := Claim7.holds Tryd.pinned (.plain (OpenSpec.upto parseCountMatchesReferenceSpec)) parseCountMatchesReferenceUptoCard

/-- THE SECOND FORM's CARD OF 'tmplpipelaw12.ParseOffsets'. -/
def parseOffsetsUptoCard : Claim7 := { stood := { row := parseOffsetsUptoRow, standIns := [], harness := (true, "2a440196210400f6be62f69bb635f593857fe3af54fdc94819d83879729df00d"), looks := true }, kinds := [], alts := [], laidByText := true, laidKinds := [.data, .data, .pinned], laidTests := true, laidLooks := .later }
def ParseOffsetsUptoCardSaid : Prop := Claim7.holds Tryd.pinned (.plain (OpenSpec.upto parseOffsetsSpec)) parseOffsetsUptoCard

/-- THE SECOND FORM's CARD OF 'tmplpipelaw13.PrinterRoundTrip'. -/
def printerRoundTripUptoCard : Claim7 := { stood := { row := printerRoundTripUptoRow, standIns := [], harness := (true, "2a440196210400f6be62f69bb635f593857fe3af54fdc94819d83879729df00d"), looks := true }, kinds := [], alts := [], laidByText := true, laidKinds := [.data, .data, .pinned], laidTests := true, laidLooks := .later }
def PrinterRoundTripUptoCardSaid : Prop := Claim7.holds Tryd.pinned (.plain (OpenSpec.upto printerRoundTripSpec)) printerRoundTripUptoCard

/-- THE SECOND FORM's CARD OF 'tmplpipelaw12.ParseManyNodes'. -/
def parseManyNodesUptoCard : Claim7 := { stood := { row := parseManyNodesUptoRow, standIns := [], harness := (true, "2a440196210400f6be62f69bb635f593857fe3af54fdc94819d83879729df00d"), looks := true }, kinds := [], alts := [], laidByText := true, laidKinds := [.data, .data, .pinned], laidTests := true, laidLooks := .later }
def ParseManyNodesUptoCardSaid : Prop := Claim7.holds Tryd.pinned (.plain (OpenSpec.upto parseManyNodesSpec)) parseManyNodesUptoCard
end Rows
end Go.Proofs.YtgdpojleejdfaaaDoor
