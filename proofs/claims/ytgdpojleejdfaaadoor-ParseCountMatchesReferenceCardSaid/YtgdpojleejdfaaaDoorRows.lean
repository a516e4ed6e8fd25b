/-
  NARROWER THAN 'FOR EVERY INPUT', by the rows' own cells (each row's printed sentence says how): LexTextIsLiteral: laid · LexOffsets: laid · LexConcatenation: laid · ParseMatchesReference: laid · ParseConcatenation: laid · LexMatchesReference: laid · LexFormatRoundTrip: laid · ParseCountMatchesReference: loops, laid · ParseOffsets: laid · PrinterRoundTrip: laid · ParseManyNodes: laid.
  DERIVED. THE GIVEN ROWS OF THIS SEAT. 11 by the template 'for every input the law returns true; each argument reads behind the call as it read before'; 0 by the template 'total and deterministic' (their statements: YtgdpojleejdfaaaDoorTotals.lean).
  GIVEN WITH THE SEED: the statements are not yours to turn. If you find one false, say at which input.
  Laid BY PROGRAM, IN A SANDBOX (cutbox-rows.mjs): the forced cells as the released guide's own fill.sh prints them over the translation 0bc655db50759fe9… (all of the seat's roots in one cut). By AI agents, Wed Nov 11 2026. No macro, syntax, notation, axiom, sorry.
-/
import Derived.Test.YtgdpojleejdfaaaDoorChecked
import GoSem.PinnedTables
import GoSem.Claim
import GoSem.ClaimJoined
import GoSem.ClaimMapViews
import Derived.JoinedTies
import Derived.KernelRfl
namespace Go.Proofs.YtgdpojleejdfaaaDoor
/- THE CELL 'sum', in the pinned program and in every row, IS THE sha256 OF THE DUMP (.gsa) THAT YtgdpojleejdfaaaDoorProg.lean LOADS. Nothing in Lean hashes anything: it is a label: what it is worth is what the hold of that sum in a sandbox is worth. -/
noncomputable def Tryd.pinned : Pinned := { name := "ytgdpojleejdfaaadoor", sum := "0bc655db50759fe9a822c6f1cf6f5dabb409d6ece62303f34fea74fc9b4b3ea1", checked := Tryd.checked }
namespace Rows
def none {H : Type} : Left H := { results := [], args := [] }

/- WHAT THE LISTED PACKAGE-LEVEL VARIABLES READ AS WHEN THE CALL BEGINS. Each datum BY PROGRAM (the guide's laid-datum.mjs) off the statement by which the dump's own 'gosem.cut.vars' lays the variable. In a bare row this is a premise. The card (YtgdpojleejdfaaaDoorCards.lean) ties it to the program's text. -/
def laid_unicode_utf8_acceptRanges {H : Type} : DataW H := .agg [.agg [.lit (.int .u8 128), .lit (.int .u8 191)], .agg [.lit (.int .u8 160), .lit (.int .u8 191)], .agg [.lit (.int .u8 128), .lit (.int .u8 159)], .agg [.lit (.int .u8 144), .lit (.int .u8 191)], .agg [.lit (.int .u8 128), .lit (.int .u8 143)], .agg [.lit (.int .u8 0), .lit (.int .u8 0)], .agg [.lit (.int .u8 0), .lit (.int .u8 0)], .agg [.lit (.int .u8 0), .lit (.int .u8 0)], .agg [.lit (.int .u8 0), .lit (.int .u8 0)], .agg [.lit (.int .u8 0), .lit (.int .u8 0)], .agg [.lit (.int .u8 0), .lit (.int .u8 0)], .agg [.lit (.int .u8 0), .lit (.int .u8 0)], .agg [.lit (.int .u8 0), .lit (.int .u8 0)], .agg [.lit (.int .u8 0), .lit (.int .u8 0)], .agg [.lit (.int .u8 0), .lit (.int .u8 0)], .agg [.lit (.int .u8 0), .lit (.int .u8 0)]]
def laid_tmplpipe_lex_shapes {H : Type} : DataW H := .agg [.agg [.lit (.bool false), .lit (.int .i64 0), .lit (.int .i64 0)], .agg [.lit (.bool false), .lit (.int .i64 1), .lit (.int .i64 1)], .agg [.lit (.bool false), .lit (.int .i64 1), .lit (.int .i64 1)], .agg [.lit (.bool false), .lit (.int .i64 1), .lit (.int .i64 1)], .agg [.lit (.bool true), .lit (.int .i64 0), .lit (.int .i64 1)], .agg [.lit (.bool false), .lit (.int .i64 0), .lit (.int .i64 0)], .agg [.lit (.bool true), .lit (.int .i64 0), .lit (.int .i64 0)], .agg [.lit (.bool false), .lit (.int .i64 0), .lit (.int .i64 0)], .agg [.lit (.bool false), .lit (.int .i64 0), .lit (.int .i64 0)]]
/-- One of Go's own tables, pinned by name: the form's constant. -/
def laid_unicode_utf8_first : DataW Unit := Go.Pinned.utf8First

/-- 'tmplpipelaw11.LexTextIsLiteral': WHATEVER THE INPUT: true; the input reads as it did. -/
def lexTextIsLiteralSpec : ChangeSpec := { name := "lexTextIsLiteral", fn := fun _ => fun
  | [d] => { results := [.lit (.bool true)], args := [d] }
  | _ => none }
def lexTextIsLiteralRow : OpenClaim := { program := "ytgdpojleejdfaaadoor", sum := "0bc655db50759fe9a822c6f1cf6f5dabb409d6ece62303f34fea74fc9b4b3ea1", func := "tmplpipe/tmplpipelaw11.LexTextIsLiteral", spec := "lexTextIsLiteral", inPlace := ["internal/bytealg.IndexByteString", "internal/bytealg.IndexString", "internal/bytealg.CountString"], unfollowed := true, recurses := true, named := ["internal/bytealg.MaxLen", "tmplpipe/lex.shapes", "unicode/utf8.first", "unicode/utf8.acceptRanges"], apart := false, laid := [("unicode/utf8.acceptRanges", laid_unicode_utf8_acceptRanges), ("tmplpipe/lex.shapes", laid_tmplpipe_lex_shapes), ("unicode/utf8.first", laid_unicode_utf8_first)] }
def LexTextIsLiteralSaid : Prop := lexTextIsLiteralRow.holds Tryd.pinned (OpenSpec.ofChange lexTextIsLiteralSpec)

/-- ITS FALSE NEIGHBOUR: 'it returns false'. Refute it at one input. -/
def lexTextIsLiteralWrong : ChangeSpec := { name := "lexTextIsLiteral", fn := fun _ => fun
  | [d] => { results := [.lit (.bool false)], args := [d] }
  | _ => none }
def LexTextIsLiteralWrongFalsely : Prop := lexTextIsLiteralRow.holds Tryd.pinned (OpenSpec.ofChange lexTextIsLiteralWrong)

/-- 'tmplpipelaw11.LexOffsets': WHATEVER THE INPUT: true; the input reads as it did. -/
def lexOffsetsSpec : ChangeSpec := { name := "lexOffsets", fn := fun _ => fun
  | [d] => { results := [.lit (.bool true)], args := [d] }
  | _ => none }
def lexOffsetsRow : OpenClaim := { program := "ytgdpojleejdfaaadoor", sum := "0bc655db50759fe9a822c6f1cf6f5dabb409d6ece62303f34fea74fc9b4b3ea1", func := "tmplpipe/tmplpipelaw11.LexOffsets", spec := "lexOffsets", inPlace := ["internal/bytealg.IndexByteString", "internal/bytealg.IndexString", "internal/bytealg.CountString"], unfollowed := true, recurses := true, named := ["internal/bytealg.MaxLen", "tmplpipe/lex.shapes", "unicode/utf8.first", "unicode/utf8.acceptRanges"], apart := false, laid := [("unicode/utf8.acceptRanges", laid_unicode_utf8_acceptRanges), ("tmplpipe/lex.shapes", laid_tmplpipe_lex_shapes), ("unicode/utf8.first", laid_unicode_utf8_first)] }
def LexOffsetsSaid : Prop := lexOffsetsRow.holds Tryd.pinned (OpenSpec.ofChange lexOffsetsSpec)

/-- ITS FALSE NEIGHBOUR: 'it returns false'. Refute it at one input. -/
def lexOffsetsWrong : ChangeSpec := { name := "lexOffsets", fn := fun _ => fun
  | [d] => { results := [.lit (.bool false)], args := [d] }
  | _ => none }
def LexOffsetsWrongFalsely : Prop := lexOffsetsRow.holds Tryd.pinned (OpenSpec.ofChange lexOffsetsWrong)

/-- 'tmplpipelaw11.LexConcatenation': WHATEVER THE INPUT: true; the input reads as it did. -/
def lexConcatenationSpec : ChangeSpec := { name := "lexConcatenation", fn := fun _ => fun
  | [d1, d2] => { results := [.lit (.bool true)], args := [d1, d2] }
  | _ => none }
def lexConcatenationRow : OpenClaim := { program := "ytgdpojleejdfaaadoor", sum := "0bc655db50759fe9a822c6f1cf6f5dabb409d6ece62303f34fea74fc9b4b3ea1", func := "tmplpipe/tmplpipelaw11.LexConcatenation", spec := "lexConcatenation", inPlace := ["internal/bytealg.IndexByteString", "internal/bytealg.IndexString", "internal/bytealg.CountString"], unfollowed := true, recurses := true, named := ["internal/bytealg.MaxLen", "tmplpipe/lex.shapes", "unicode/utf8.first", "unicode/utf8.acceptRanges"], apart := false, laid := [("unicode/utf8.acceptRanges", laid_unicode_utf8_acceptRanges), ("tmplpipe/lex.shapes", laid_tmplpipe_lex_shapes), ("unicode/utf8.first", laid_unicode_utf8_first)] }
def LexConcatenationSaid : Prop := lexConcatenationRow.holds Tryd.pinned (OpenSpec.ofChange lexConcatenationSpec)

/-- ITS FALSE NEIGHBOUR: 'it returns false'. Refute it at one input. -/
def lexConcatenationWrong : ChangeSpec := { name := "lexConcatenation", fn := fun _ => fun
  | [d1, d2] => { results := [.lit (.bool false)], args := [d1, d2] }
  | _ => none }
def LexConcatenationWrongFalsely : Prop := lexConcatenationRow.holds Tryd.pinned (OpenSpec.ofChange lexConcatenationWrong)

/-- 'tmplpipelaw12.ParseMatchesReference': WHATEVER THE INPUT: true; the input reads as it did. -/
def parseMatchesReferenceSpec : ChangeSpec := { name := "parseMatchesReference", fn := fun _ => fun
  | [d] => { results := [.lit (.bool true)], args := [d] }
  | _ => none }
def parseMatchesReferenceRow : OpenClaim := { program := "ytgdpojleejdfaaadoor", sum := "0bc655db50759fe9a822c6f1cf6f5dabb409d6ece62303f34fea74fc9b4b3ea1", func := "tmplpipe/tmplpipelaw12.ParseMatchesReference", spec := "parseMatchesReference", inPlace := ["internal/bytealg.IndexByteString", "internal/bytealg.IndexString", "internal/bytealg.CountString"], unfollowed := true, recurses := true, named := ["internal/bytealg.MaxLen", "tmplpipe/lex.shapes", "unicode/utf8.first", "unicode/utf8.acceptRanges"], apart := false, laid := [("unicode/utf8.acceptRanges", laid_unicode_utf8_acceptRanges), ("tmplpipe/lex.shapes", laid_tmplpipe_lex_shapes), ("unicode/utf8.first", laid_unicode_utf8_first)] }
def ParseMatchesReferenceSaid : Prop := parseMatchesReferenceRow.holds Tryd.pinned (OpenSpec.ofChange parseMatchesReferenceSpec)

/-- ITS FALSE NEIGHBOUR: 'it returns false'. Refute it at one input. -/
def parseMatchesReferenceWrong : ChangeSpec := { name := "parseMatchesReference", fn := fun _ => fun
  | [d] => { results := [.lit (.bool false)], args := [d] }
  | _ => none }
def ParseMatchesReferenceWrongFalsely : Prop := parseMatchesReferenceRow.holds Tryd.pinned (OpenSpec.ofChange parseMatchesReferenceWrong)

/-- 'tmplpipelaw12.ParseConcatenation': WHATEVER THE INPUT: true; the input reads as it did. -/
def parseConcatenationSpec : ChangeSpec := { name := "parseConcatenation", fn := fun _ => fun
  | [d1, d2] => { results := [.lit (.bool true)], args := [d1, d2] }
  | _ => none }
def parseConcatenationRow : OpenClaim := { program := "ytgdpojleejdfaaadoor", sum := "0bc655db50759fe9a822c6f1cf6f5dabb409d6ece62303f34fea74fc9b4b3ea1", func := "tmplpipe/tmplpipelaw12.ParseConcatenation", spec := "parseConcatenation", inPlace := ["internal/bytealg.IndexByteString", "internal/bytealg.IndexString", "internal/bytealg.CountString"], unfollowed := true, recurses := true, named := ["internal/bytealg.MaxLen", "tmplpipe/lex.shapes", "unicode/utf8.first", "unicode/utf8.acceptRanges"], apart := false, laid := [("unicode/utf8.acceptRanges", laid_unicode_utf8_acceptRanges), ("tmplpipe/lex.shapes", laid_tmplpipe_lex_shapes), ("unicode/utf8.first", laid_unicode_utf8_first)] }
def ParseConcatenationSaid : Prop := parseConcatenationRow.holds Tryd.pinned (OpenSpec.ofChange parseConcatenationSpec)

/-- ITS FALSE NEIGHBOUR: 'it returns false'. Refute it at one input. -/
def parseConcatenationWrong : ChangeSpec := { name := "parseConcatenation", fn := fun _ => fun
  | [d1, d2] => { results := [.lit (.bool false)], args := [d1, d2] }
  | _ => none }
def ParseConcatenationWrongFalsely : Prop := parseConcatenationRow.holds Tryd.pinned (OpenSpec.ofChange parseConcatenationWrong)

/-- 'tmplpipelaw11.LexMatchesReference': WHATEVER THE INPUT: true; the input reads as it did. -/
def lexMatchesReferenceSpec : ChangeSpec := { name := "lexMatchesReference", fn := fun _ => fun
  | [d] => { results := [.lit (.bool true)], args := [d] }
  | _ => none }
def lexMatchesReferenceRow : OpenClaim := { program := "ytgdpojleejdfaaadoor", sum := "0bc655db50759fe9a822c6f1cf6f5dabb409d6ece62303f34fea74fc9b4b3ea1", func := "tmplpipe/tmplpipelaw11.LexMatchesReference", spec := "lexMatchesReference", inPlace := ["internal/bytealg.IndexByteString", "internal/bytealg.IndexString", "internal/bytealg.CountString", "internal/abi.NoEscape", "internal/bytealg.MakeNoZero"], unfollowed := true, recurses := true, named := ["internal/bytealg.MaxLen", "tmplpipe/lex.shapes", "unicode/utf8.first", "unicode/utf8.acceptRanges"], apart := false, laid := [("unicode/utf8.acceptRanges", laid_unicode_utf8_acceptRanges), ("tmplpipe/lex.shapes", laid_tmplpipe_lex_shapes), ("unicode/utf8.first", laid_unicode_utf8_first)] }
def LexMatchesReferenceSaid : Prop := lexMatchesReferenceRow.holds Tryd.pinned (OpenSpec.ofChange lexMatchesReferenceSpec)

/-- ITS FALSE NEIGHBOUR: 'it returns false'. Refute it at one input. -/
def lexMatchesReferenceWrong : ChangeSpec := { name := "lexMatchesReference", fn := fun _ => fun
  | [d] => { results := [.lit (.bool false)], args := [d] }
  | _ => none }
def LexMatchesReferenceWrongFalsely : Prop := lexMatchesReferenceRow.holds Tryd.pinned (OpenSpec.ofChange lexMatchesReferenceWrong)

/-- 'tmplpipelaw11.LexFormatRoundTrip': WHATEVER THE INPUT: true; the input reads as it did. -/
def lexFormatRoundTripSpec : ChangeSpec := { name := "lexFormatRoundTrip", fn := fun _ => fun
  | [d] => { results := [.lit (.bool true)], args := [d] }
  | _ => none }
def lexFormatRoundTripRow : OpenClaim := { program := "ytgdpojleejdfaaadoor", sum := "0bc655db50759fe9a822c6f1cf6f5dabb409d6ece62303f34fea74fc9b4b3ea1", func := "tmplpipe/tmplpipelaw11.LexFormatRoundTrip", spec := "lexFormatRoundTrip", inPlace := ["internal/bytealg.IndexByteString", "internal/bytealg.IndexString", "internal/bytealg.CountString", "internal/abi.NoEscape", "internal/bytealg.MakeNoZero"], unfollowed := true, recurses := true, named := ["internal/bytealg.MaxLen", "tmplpipe/lex.shapes", "unicode/utf8.first", "unicode/utf8.acceptRanges"], apart := false, laid := [("unicode/utf8.acceptRanges", laid_unicode_utf8_acceptRanges), ("tmplpipe/lex.shapes", laid_tmplpipe_lex_shapes), ("unicode/utf8.first", laid_unicode_utf8_first)] }
def LexFormatRoundTripSaid : Prop := lexFormatRoundTripRow.holds Tryd.pinned (OpenSpec.ofChange lexFormatRoundTripSpec)

/-- ITS FALSE NEIGHBOUR: 'it returns false'. Refute it at one input. -/
def lexFormatRoundTripWrong : ChangeSpec := { name := "lexFormatRoundTrip", fn := fun _ => fun
  | [d] => { results := [.lit (.bool false)], args := [d] }
  | _ => none }
def LexFormatRoundTripWrongFalsely : Prop := lexFormatRoundTripRow.holds Tryd.pinned (OpenSpec.ofChange lexFormatRoundTripWrong)

/-- 'tmplpipelaw12.ParseCountMatchesReference': WHATEVER THE INPUT: true; the input reads as it did. -/
def parseCountMatchesReferenceSpec : ChangeSpec := { name := "parseCountMatchesReference", fn := fun _ => fun
  | [d] => { results := [.lit (.bool true)], args := [d] }
  | _ => none }
def parseCountMatchesReferenceRow : OpenClaim := { program := "ytgdpojleejdfaaadoor", sum := "0bc655db50759fe9a822c6f1cf6f5dabb409d6ece62303f34fea74fc9b4b3ea1", func := "tmplpipe/tmplpipelaw12.ParseCountMatchesReference", spec := "parseCountMatchesReference", inPlace := ["internal/bytealg.IndexByteString", "internal/bytealg.IndexString", "internal/bytealg.CountString"], unfollowed := true, recurses := true, named := ["internal/bytealg.MaxLen", "tmplpipe/lex.shapes", "unicode/utf8.first", "unicode/utf8.acceptRanges"], loops := true, apart := false, laid := [("unicode/utf8.acceptRanges", laid_unicode_utf8_acceptRanges), ("tmplpipe/lex.shapes", laid_tmplpipe_lex_shapes), ("unicode/utf8.first", laid_unicode_utf8_first)] }
def ParseCountMatchesReferenceSaid : Prop := parseCountMatchesReferenceRow.holds Tryd.pinned (OpenSpec.ofChange parseCountMatchesReferenceSpec)

/-- ITS FALSE NEIGHBOUR: 'it returns false'. Refute it at one input. -/
def parseCountMatchesReferenceWrong : ChangeSpec := { name := "parseCountMatchesReference", fn := fun _ => fun
  | [d] => { results := [.lit (.bool false)], args := [d] }
  | _ => none }
def ParseCountMatchesReferenceWrongFalsely : Prop := parseCountMatchesReferenceRow.holds Tryd.pinned (OpenSpec.ofChange parseCountMatchesReferenceWrong)

/-- 'tmplpipelaw12.ParseOffsets': WHATEVER THE INPUT: true; the input reads as it did. -/
def parseOffsetsSpec : ChangeSpec := { name := "parseOffsets", fn := fun _ => fun
  | [d] => { results := [.lit (.bool true)], args := [d] }
  | _ => none }
def parseOffsetsRow : OpenClaim := { program := "ytgdpojleejdfaaadoor", sum := "0bc655db50759fe9a822c6f1cf6f5dabb409d6ece62303f34fea74fc9b4b3ea1", func := "tmplpipe/tmplpipelaw12.ParseOffsets", spec := "parseOffsets", inPlace := ["internal/bytealg.IndexByteString", "internal/bytealg.IndexString", "internal/bytealg.CountString"], unfollowed := true, recurses := true, named := ["internal/bytealg.MaxLen", "tmplpipe/lex.shapes", "unicode/utf8.first", "unicode/utf8.acceptRanges"], apart := false, laid := [("unicode/utf8.acceptRanges", laid_unicode_utf8_acceptRanges), ("tmplpipe/lex.shapes", laid_tmplpipe_lex_shapes), ("unicode/utf8.first", laid_unicode_utf8_first)] }
def ParseOffsetsSaid : Prop := parseOffsetsRow.holds Tryd.pinned (OpenSpec.ofChange parseOffsetsSpec)

/-- ITS FALSE NEIGHBOUR: 'it returns false'. Refute it at one input. -/
def parseOffsetsWrong : ChangeSpec := { name := "parseOffsets", fn := fun _ => fun
  | [d] => { results := [.lit (.bool false)], args := [d] }
  | _ => none }
def ParseOffsetsWrongFalsely : Prop := parseOffsetsRow.holds Tryd.pinned (OpenSpec.ofChange parseOffsetsWrong)

/-- 'tmplpipelaw13.PrinterRoundTrip': WHATEVER THE INPUT: true; the input reads as it did. -/
def printerRoundTripSpec : ChangeSpec := { name := "printerRoundTrip", fn := fun _ => fun
  | [d] => { results := [.lit (.bool true)], args := [d] }
  | _ => none }
def printerRoundTripRow : OpenClaim := { program := "ytgdpojleejdfaaadoor", sum := "0bc655db50759fe9a822c6f1cf6f5dabb409d6ece62303f34fea74fc9b4b3ea1", func := "tmplpipe/tmplpipelaw13.PrinterRoundTrip", spec := "printerRoundTrip", inPlace := ["internal/abi.NoEscape", "internal/bytealg.MakeNoZero", "internal/bytealg.IndexByteString", "internal/bytealg.IndexString", "internal/bytealg.CountString"], unfollowed := true, recurses := true, named := ["internal/bytealg.MaxLen", "tmplpipe/lex.shapes", "unicode/utf8.first", "unicode/utf8.acceptRanges"], apart := false, laid := [("unicode/utf8.acceptRanges", laid_unicode_utf8_acceptRanges), ("tmplpipe/lex.shapes", laid_tmplpipe_lex_shapes), ("unicode/utf8.first", laid_unicode_utf8_first)] }
def PrinterRoundTripSaid : Prop := printerRoundTripRow.holds Tryd.pinned (OpenSpec.ofChange printerRoundTripSpec)

/-- ITS FALSE NEIGHBOUR: 'it returns false'. Refute it at one input. -/
def printerRoundTripWrong : ChangeSpec := { name := "printerRoundTrip", fn := fun _ => fun
  | [d] => { results := [.lit (.bool false)], args := [d] }
  | _ => none }
def PrinterRoundTripWrongFalsely : Prop := printerRoundTripRow.holds Tryd.pinned (OpenSpec.ofChange printerRoundTripWrong)

/-- 'tmplpipelaw12.ParseManyNodes': WHATEVER THE INPUT: true; the input reads as it did. -/
def parseManyNodesSpec : ChangeSpec := { name := "parseManyNodes", fn := fun _ => fun
  | [d] => { results := [.lit (.bool true)], args := [d] }
  | _ => none }
def parseManyNodesRow : OpenClaim := { program := "ytgdpojleejdfaaadoor", sum := "0bc655db50759fe9a822c6f1cf6f5dabb409d6ece62303f34fea74fc9b4b3ea1", func := "tmplpipe/tmplpipelaw12.ParseManyNodes", spec := "parseManyNodes", inPlace := ["internal/abi.NoEscape", "internal/bytealg.MakeNoZero", "internal/bytealg.IndexByteString", "internal/bytealg.IndexString", "internal/bytealg.CountString"], unfollowed := true, recurses := true, named := ["internal/bytealg.MaxLen", "tmplpipe/lex.shapes", "unicode/utf8.first", "unicode/utf8.acceptRanges"], apart := false, laid := [("unicode/utf8.acceptRanges", laid_unicode_utf8_acceptRanges), ("tmplpipe/lex.shapes", laid_tmplpipe_lex_shapes), ("unicode/utf8.first", laid_unicode_utf8_first)] }
def ParseManyNodesSaid : Prop := parseManyNodesRow.holds Tryd.pinned (OpenSpec.ofChange parseManyNodesSpec)

/-- ITS FALSE NEIGHBOUR: 'it returns false'. Refute it at one input. -/
def parseManyNodesWrong : ChangeSpec := { name := "parseManyNodes", fn := fun _ => fun
  | [d] => { results := [.lit (.bool false)], args := [d] }
  | _ => none }
def ParseManyNodesWrongFalsely : Prop := parseManyNodesRow.holds Tryd.pinned (OpenSpec.ofChange parseManyNodesWrong)

/- THE SECOND FORM. 'bulk': how many values and letters a reading holds, each counted each time it is reached (what is shared counts as often as it is met; a slice's spare places count too). A statement '..UptoSaid' is the law's where the arguments, and the package variables that the reading takes, are together of bulk at most 1048576: NARROWER than '..Said'. Prove '..Said' where nothing that the law and all that it calls make is longer than what came in: it says more and counts as full. Else prove '..UptoSaid'. A law counts once. -/
mutual
def uptoBulk {H : Type} : DataW H → Nat
  | .lit (.string bytes) => bytes.length + 1
  | .lit _ => 1
  | .nil => 1
  | .ptr d => uptoBulk d + 1
  | .slice elems spare => uptoBulkAll elems + uptoBulkAll spare + 1
  | .agg parts => uptoBulkAll parts + 1
  | .iface _ d => uptoBulk d + 1
  | .map entries => uptoBulkEntries entries + 1
  | .held _ => 1
def uptoBulkAll {H : Type} : List (DataW H) → Nat
  | [] => 0
  | d :: r => uptoBulk d + uptoBulkAll r
def uptoBulkEntries {H : Type} : List (Lit × DataW H) → Nat
  | [] => 0
  | x :: r => uptoBulkEntry x + uptoBulkEntries r
def uptoBulkEntry {H : Type} : Lit × DataW H → Nat
  | (.string bytes, d) => bytes.length + uptoBulk d + 1
  | (_, d) => uptoBulk d + 1
 end
def uptoSmall : (H : Type) → List (DataW H) → Bool := fun _ ds => decide (uptoBulkAll ds ≤ 1048576)
def OpenSpec.upto (s : _root_.Go.ChangeSpec) : _root_.Go.OpenSpec := { _root_.Go.OpenSpec.ofChange s with cond := some uptoSmall }

/-- 'tmplpipelaw11.LexTextIsLiteral', WHERE WHAT IT READS IS OF BULK AT MOST 1048576: true; the input reads as it did. -/
def lexTextIsLiteralUptoRow : OpenClaim := { program := "ytgdpojleejdfaaadoor", sum := "0bc655db50759fe9a822c6f1cf6f5dabb409d6ece62303f34fea74fc9b4b3ea1", func := "tmplpipe/tmplpipelaw11.LexTextIsLiteral", spec := "lexTextIsLiteral", inPlace := ["internal/bytealg.IndexByteString", "internal/bytealg.IndexString", "internal/bytealg.CountString"], unfollowed := true, recurses := true, named := ["internal/bytealg.MaxLen", "tmplpipe/lex.shapes", "unicode/utf8.first", "unicode/utf8.acceptRanges"], apart := false, laid := [("unicode/utf8.acceptRanges", laid_unicode_utf8_acceptRanges), ("tmplpipe/lex.shapes", laid_tmplpipe_lex_shapes), ("unicode/utf8.first", laid_unicode_utf8_first)], narrowed := true }
def LexTextIsLiteralUptoSaid : Prop := lexTextIsLiteralUptoRow.holds Tryd.pinned (OpenSpec.upto lexTextIsLiteralSpec)

/-- 'tmplpipelaw11.LexOffsets', WHERE WHAT IT READS IS OF BULK AT MOST 1048576: true; the input reads as it did. -/
def lexOffsetsUptoRow : OpenClaim := { program := "ytgdpojleejdfaaadoor", sum := "0bc655db50759fe9a822c6f1cf6f5dabb409d6ece62303f34fea74fc9b4b3ea1", func := "tmplpipe/tmplpipelaw11.LexOffsets", spec := "lexOffsets", inPlace := ["internal/bytealg.IndexByteString", "internal/bytealg.IndexString", "internal/bytealg.CountString"], unfollowed := true, recurses := true, named := ["internal/bytealg.MaxLen", "tmplpipe/lex.shapes", "unicode/utf8.first", "unicode/utf8.acceptRanges"], apart := false, laid := [("unicode/utf8.acceptRanges", laid_unicode_utf8_acceptRanges), ("tmplpipe/lex.shapes", laid_tmplpipe_lex_shapes), ("unicode/utf8.first", laid_unicode_utf8_first)], narrowed := true }
def LexOffsetsUptoSaid : Prop := lexOffsetsUptoRow.holds Tryd.pinned (OpenSpec.upto lexOffsetsSpec)

/-- 'tmplpipelaw11.LexConcatenation', WHERE WHAT IT READS IS OF BULK AT MOST 1048576: true; the input reads as it did. -/
def lexConcatenationUptoRow : OpenClaim := { program := "ytgdpojleejdfaaadoor", sum := "0bc655db50759fe9a822c6f1cf6f5dabb409d6ece62303f34fea74fc9b4b3ea1", func := "tmplpipe/tmplpipelaw11.LexConcatenation", spec := "lexConcatenation", inPlace := ["internal/bytealg.IndexByteString", "internal/bytealg.IndexString", "internal/bytealg.CountString"], unfollowed := true, recurses := true, named := ["internal/bytealg.MaxLen", "tmplpipe/lex.shapes", "unicode/utf8.first", "unicode/utf8.acceptRanges"], apart := false, laid := [("unicode/utf8.acceptRanges", laid_unicode_utf8_acceptRanges), ("tmplpipe/lex.shapes", laid_tmplpipe_lex_shapes), ("unicode/utf8.first", laid_unicode_utf8_first)], narrowed := true }
def LexConcatenationUptoSaid : Prop := lexConcatenationUptoRow.holds Tryd.pinned (OpenSpec.upto lexConcatenationSpec)

/-- 'tmplpipelaw12.ParseMatchesReference', WHERE WHAT IT READS IS OF BULK AT MOST 1048576: true; the input reads as it did. -/
def parseMatchesReferenceUptoRow : OpenClaim := { program := "ytgdpojleejdfaaadoor", sum := "0bc655db50759fe9a822c6f1cf6f5dabb409d6ece62303f34fea74fc9b4b3ea1", func := "tmplpipe/tmplpipelaw12.ParseMatchesReference", spec := "parseMatchesReference", inPlace := ["internal/bytealg.IndexByteString", "internal/bytealg.IndexString", "internal/bytealg.CountString"], unfollowed := true, recurses := true, named := ["internal/bytealg.MaxLen", "tmplpipe/lex.shapes", "unicode/utf8.first", "unicode/utf8.acceptRanges"], apart := false, laid := [("unicode/utf8.acceptRanges", laid_unicode_utf8_acceptRanges), ("tmplpipe/lex.shapes", laid_tmplpipe_lex_shapes), ("unicode/utf8.first", laid_unicode_utf8_first)], narrowed := true }
def ParseMatchesReferenceUptoSaid : Prop := parseMatchesReferenceUptoRow.holds Tryd.pinned (OpenSpec.upto parseMatchesReferenceSpec)

/-- 'tmplpipelaw12.ParseConcatenation', WHERE WHAT IT READS IS OF BULK AT MOST 1048576: true; the input reads as it did. -/
def parseConcatenationUptoRow : OpenClaim := { program := "ytgdpojleejdfaaadoor", sum := "0bc655db50759fe9a822c6f1cf6f5dabb409d6ece62303f34fea74fc9b4b3ea1", func := "tmplpipe/tmplpipelaw12.ParseConcatenation", spec := "parseConcatenation", inPlace := ["internal/bytealg.IndexByteString", "internal/bytealg.IndexString", "internal/bytealg.CountString"], unfollowed := true, recurses := true, named := ["internal/bytealg.MaxLen", "tmplpipe/lex.shapes", "unicode/utf8.first", "unicode/utf8.acceptRanges"], apart := false, laid := [("unicode/utf8.acceptRanges", laid_unicode_utf8_acceptRanges), ("tmplpipe/lex.shapes", laid_tmplpipe_lex_shapes), ("unicode/utf8.first", laid_unicode_utf8_first)], narrowed := true }
def ParseConcatenationUptoSaid : Prop := parseConcatenationUptoRow.holds Tryd.pinned (OpenSpec.upto parseConcatenationSpec)

/-- 'tmplpipelaw11.LexMatchesReference', WHERE WHAT IT READS IS OF BULK AT MOST 1048576: true; the input reads as it did. -/
def lexMatchesReferenceUptoRow : OpenClaim := { program := "ytgdpojleejdfaaadoor", sum := "0bc655db50759fe9a822c6f1cf6f5dabb409d6ece62303f34fea74fc9b4b3ea1", func := "tmplpipe/tmplpipelaw11.LexMatchesReference", spec := "lexMatchesReference", inPlace := ["internal/bytealg.IndexByteString", "internal/bytealg.IndexString", "internal/bytealg.CountString", "internal/abi.NoEscape", "internal/bytealg.MakeNoZero"], unfollowed := true, recurses := true, named := ["internal/bytealg.MaxLen", "tmplpipe/lex.shapes", "unicode/utf8.first", "unicode/utf8.acceptRanges"], apart := false, laid := [("unicode/utf8.acceptRanges", laid_unicode_utf8_acceptRanges), ("tmplpipe/lex.shapes", laid_tmplpipe_lex_shapes), ("unicode/utf8.first", laid_unicode_utf8_first)], narrowed := true }
def LexMatchesReferenceUptoSaid : Prop := lexMatchesReferenceUptoRow.holds Tryd.pinned (OpenSpec.upto lexMatchesReferenceSpec)

/-- 'tmplpipelaw11.LexFormatRoundTrip', WHERE WHAT IT READS IS OF BULK AT MOST 1048576: true; the input reads as it did. -/
def lexFormatRoundTripUptoRow : OpenClaim := { program := "ytgdpojleejdfaaadoor", sum := "0bc655db50759fe9a822c6f1cf6f5dabb409d6ece62303f34fea74fc9b4b3ea1", func := "tmplpipe/tmplpipelaw11.LexFormatRoundTrip", spec := "lexFormatRoundTrip", inPlace := ["internal/bytealg.IndexByteString", "internal/bytealg.IndexString", "internal/bytealg.CountString", "internal/abi.NoEscape", "internal/bytealg.MakeNoZero"], unfollowed := true, recurses := true, named := ["internal/bytealg.MaxLen", "tmplpipe/lex.shapes", "unicode/utf8.first", "unicode/utf8.acceptRanges"], apart := false, laid := [("unicode/utf8.acceptRanges", laid_unicode_utf8_acceptRanges), ("tmplpipe/lex.shapes", laid_tmplpipe_lex_shapes), ("unicode/utf8.first", laid_unicode_utf8_first)], narrowed := true }
def LexFormatRoundTripUptoSaid : Prop := lexFormatRoundTripUptoRow.holds Tryd.pinned (OpenSpec.upto lexFormatRoundTripSpec)

/-- 'tmplpipelaw12.ParseCountMatchesReference', WHERE WHAT IT READS IS OF BULK AT MOST 1048576: true; the input reads as it did. -/
def parseCountMatchesReferenceUptoRow : OpenClaim := { program := "ytgdpojleejdfaaadoor", sum := "0bc655db50759fe9a822c6f1cf6f5dabb409d6ece62303f34fea74fc9b4b3ea1", func := "tmplpipe/tmplpipelaw12.ParseCountMatchesReference", spec := "parseCountMatchesReference", inPlace := ["internal/bytealg.IndexByteString", "internal/bytealg.IndexString", "internal/bytealg.CountString"], unfollowed := true, recurses := true, named := ["internal/bytealg.MaxLen", "tmplpipe/lex.shapes", "unicode/utf8.first", "unicode/utf8.acceptRanges"], loops := true, apart := false, laid := [("unicode/utf8.acceptRanges", laid_unicode_utf8_acceptRanges), ("tmplpipe/lex.shapes", laid_tmplpipe_lex_shapes), ("unicode/utf8.first", laid_unicode_utf8_first)], narrowed := true }
def ParseCountMatchesReferenceUptoSaid : Prop := parseCountMatchesReferenceUptoRow.holds Tryd.pinned (OpenSpec.upto parseCountMatchesReferenceSpec)

/-- 'tmplpipelaw12.ParseOffsets', WHERE WHAT IT READS IS OF BULK AT MOST 1048576: true; the input reads as it did. -/
def parseOffsetsUptoRow : OpenClaim := { program := "ytgdpojleejdfaaadoor", sum := "0bc655db50759fe9a822c6f1cf6f5dabb409d6ece62303f34fea74fc9b4b3ea1", func := "tmplpipe/tmplpipelaw12.ParseOffsets", spec := "parseOffsets", inPlace := ["internal/bytealg.IndexByteString", "internal/bytealg.IndexString", "internal/bytealg.CountString"], unfollowed := true, recurses := true, named := ["internal/bytealg.MaxLen", "tmplpipe/lex.shapes", "unicode/utf8.first", "unicode/utf8.acceptRanges"], apart := false, laid := [("unicode/utf8.acceptRanges", laid_unicode_utf8_acceptRanges), ("tmplpipe/lex.shapes", laid_tmplpipe_lex_shapes), ("unicode/utf8.first", laid_unicode_utf8_first)], narrowed := true }
def ParseOffsetsUptoSaid : Prop := parseOffsetsUptoRow.holds Tryd.pinned (OpenSpec.upto parseOffsetsSpec)

/-- 'tmplpipelaw13.PrinterRoundTrip', WHERE WHAT IT READS IS OF BULK AT MOST 1048576: true; the input reads as it did. -/
def printerRoundTripUptoRow : OpenClaim := { program := "ytgdpojleejdfaaadoor", sum := "0bc655db50759fe9a822c6f1cf6f5dabb409d6ece62303f34fea74fc9b4b3ea1", func := "tmplpipe/tmplpipelaw13.PrinterRoundTrip", spec := "printerRoundTrip", inPlace := ["internal/abi.NoEscape", "internal/bytealg.MakeNoZero", "internal/bytealg.IndexByteString", "internal/bytealg.IndexString", "internal/bytealg.CountString"], unfollowed := true, recurses := true, named := ["internal/bytealg.MaxLen", "tmplpipe/lex.shapes", "unicode/utf8.first", "unicode/utf8.acceptRanges"], apart := false, laid := [("unicode/utf8.acceptRanges", laid_unicode_utf8_acceptRanges), ("tmplpipe/lex.shapes", laid_tmplpipe_lex_shapes), ("unicode/utf8.first", laid_unicode_utf8_first)], narrowed := true }
def PrinterRoundTripUptoSaid : Prop := printerRoundTripUptoRow.holds Tryd.pinned (OpenSpec.upto printerRoundTripSpec)

/-- 'tmplpipelaw12.ParseManyNodes', WHERE WHAT IT READS IS OF BULK AT MOST 1048576: true; the input reads as it did. -/
def parseManyNodesUptoRow : OpenClaim := { program := "ytgdpojleejdfaaadoor", sum := "0bc655db50759fe9a822c6f1cf6f5dabb409d6ece62303f34fea74fc9b4b3ea1", func := "tmplpipe/tmplpipelaw12.ParseManyNodes", spec := "parseManyNodes", inPlace := ["internal/abi.NoEscape", "internal/bytealg.MakeNoZero", "internal/bytealg.IndexByteString", "internal/bytealg.IndexString", "internal/bytealg.CountString"], unfollowed := true, recurses := true, named := ["internal/bytealg.MaxLen", "tmplpipe/lex.shapes", "unicode/utf8.first", "unicode/utf8.acceptRanges"], apart := false, laid := [("unicode/utf8.acceptRanges", laid_unicode_utf8_acceptRanges), ("tmplpipe/lex.shapes", laid_tmplpipe_lex_shapes), ("unicode/utf8.first", laid_unicode_utf8_first)], narrowed := true }
def ParseManyNodesUptoSaid : Prop := parseManyNodesUptoRow.holds Tryd.pinned (OpenSpec.upto parseManyNodesSpec)

end Rows
end Go.Proofs.YtgdpojleejdfaaaDoor
