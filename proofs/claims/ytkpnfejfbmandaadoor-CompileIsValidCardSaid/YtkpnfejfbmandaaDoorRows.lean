/-
  NARROWER THAN 'FOR EVERY INPUT', by the rows' own cells (each row's printed sentence says how): ParseLimits: laid · CompileErrorsInOrder: laid · CompileJumpsForward: laid · CompileCheckMatchesReference: laid · CompileIsValid: laid · CompileFormatIndependent: laid.
  DERIVED. THE GIVEN ROWS OF THIS SEAT. 6 by the template 'for every input the law returns true; each argument reads behind the call as it read before'; 0 by the template 'total and deterministic' (their statements: YtkpnfejfbmandaaDoorTotals.lean).
  GIVEN WITH THE SEED: the statements are not yours to turn. If you find one false, say at which input.
  Laid BY PROGRAM, IN A SANDBOX (cutbox-rows.mjs): the forced cells as the released guide's own fill.sh prints them over the translation 9d758b8c3219016e… (all of the seat's roots in one cut). By AI agents, Wed Nov 11 2026. No macro, syntax, notation, axiom, sorry.
-/
import Derived.Test.YtkpnfejfbmandaaDoorChecked
import GoSem.PinnedTables
import GoSem.Claim
import GoSem.ClaimJoined
import GoSem.ClaimMapViews
import Derived.JoinedTies
import Derived.KernelRfl
namespace Go.Proofs.YtkpnfejfbmandaaDoor
/- THE CELL 'sum', in the pinned program and in every row, IS THE sha256 OF THE DUMP (.gsa) THAT YtkpnfejfbmandaaDoorProg.lean LOADS. Nothing in Lean hashes anything: it is a label: what it is worth is what the hold of that sum in a sandbox is worth. -/
noncomputable def Tryd.pinned : Pinned := { name := "ytkpnfejfbmandaadoor", sum := "9d758b8c3219016e1392aeeb6efed53c448ee567104a8dc571caf329f8032b84", checked := Tryd.checked }
namespace Rows
def none {H : Type} : Left H := { results := [], args := [] }

/- WHAT THE LISTED PACKAGE-LEVEL VARIABLES READ AS WHEN THE CALL BEGINS. Each datum BY PROGRAM (the guide's laid-datum.mjs) off the statement by which the dump's own 'gosem.cut.vars' lays the variable. In a bare row this is a premise. The card (YtkpnfejfbmandaaDoorCards.lean) ties it to the program's text. -/
def laid_unicode_utf8_acceptRanges {H : Type} : DataW H := .agg [.agg [.lit (.int .u8 128), .lit (.int .u8 191)], .agg [.lit (.int .u8 160), .lit (.int .u8 191)], .agg [.lit (.int .u8 128), .lit (.int .u8 159)], .agg [.lit (.int .u8 144), .lit (.int .u8 191)], .agg [.lit (.int .u8 128), .lit (.int .u8 143)], .agg [.lit (.int .u8 0), .lit (.int .u8 0)], .agg [.lit (.int .u8 0), .lit (.int .u8 0)], .agg [.lit (.int .u8 0), .lit (.int .u8 0)], .agg [.lit (.int .u8 0), .lit (.int .u8 0)], .agg [.lit (.int .u8 0), .lit (.int .u8 0)], .agg [.lit (.int .u8 0), .lit (.int .u8 0)], .agg [.lit (.int .u8 0), .lit (.int .u8 0)], .agg [.lit (.int .u8 0), .lit (.int .u8 0)], .agg [.lit (.int .u8 0), .lit (.int .u8 0)], .agg [.lit (.int .u8 0), .lit (.int .u8 0)], .agg [.lit (.int .u8 0), .lit (.int .u8 0)]]
def laid_tmplpipe_lex_shapes {H : Type} : DataW H := .agg [.agg [.lit (.bool false), .lit (.int .i64 0), .lit (.int .i64 0)], .agg [.lit (.bool false), .lit (.int .i64 1), .lit (.int .i64 1)], .agg [.lit (.bool false), .lit (.int .i64 1), .lit (.int .i64 1)], .agg [.lit (.bool false), .lit (.int .i64 1), .lit (.int .i64 1)], .agg [.lit (.bool true), .lit (.int .i64 0), .lit (.int .i64 1)], .agg [.lit (.bool false), .lit (.int .i64 0), .lit (.int .i64 0)], .agg [.lit (.bool true), .lit (.int .i64 0), .lit (.int .i64 0)], .agg [.lit (.bool false), .lit (.int .i64 0), .lit (.int .i64 0)], .agg [.lit (.bool false), .lit (.int .i64 0), .lit (.int .i64 0)]]
/-- One of Go's own tables, pinned by name: the form's constant. -/
def laid_unicode_utf8_first : DataW Unit := Go.Pinned.utf8First
def laid_tmplpipe_compile_forms {H : Type} : DataW H := .agg [.agg [.lit (.bool true), .lit (.bool false), .lit (.bool false), .lit (.bool false)], .agg [.lit (.bool false), .lit (.bool true), .lit (.bool true), .lit (.bool false)], .agg [.lit (.bool false), .lit (.bool true), .lit (.bool false), .lit (.bool true)], .agg [.lit (.bool false), .lit (.bool false), .lit (.bool false), .lit (.bool true)], .agg [.lit (.bool false), .lit (.bool true), .lit (.bool false), .lit (.bool true)], .agg [.lit (.bool false), .lit (.bool false), .lit (.bool false), .lit (.bool true)], .agg [.lit (.bool false), .lit (.bool true), .lit (.bool false), .lit (.bool true)], .agg [.lit (.bool false), .lit (.bool false), .lit (.bool false), .lit (.bool false)], .agg [.lit (.bool false), .lit (.bool false), .lit (.bool false), .lit (.bool false)], .agg [.lit (.bool false), .lit (.bool false), .lit (.bool false), .lit (.bool false)]]

/-- 'tmplpipelaw12.ParseLimits': WHATEVER THE INPUT: true; the input reads as it did. -/
def parseLimitsSpec : ChangeSpec := { name := "parseLimits", fn := fun _ => fun
  | [d1, d2] => { results := [.lit (.bool true)], args := [d1, d2] }
  | _ => none }
def parseLimitsRow : OpenClaim := { program := "ytkpnfejfbmandaadoor", sum := "9d758b8c3219016e1392aeeb6efed53c448ee567104a8dc571caf329f8032b84", func := "tmplpipe/tmplpipelaw12.ParseLimits", spec := "parseLimits", inPlace := ["internal/abi.NoEscape", "internal/bytealg.MakeNoZero", "internal/bytealg.IndexByteString", "internal/bytealg.IndexString", "internal/bytealg.CountString"], unfollowed := true, recurses := true, named := ["internal/bytealg.MaxLen", "tmplpipe/lex.shapes", "unicode/utf8.first", "unicode/utf8.acceptRanges"], apart := false, laid := [("unicode/utf8.acceptRanges", laid_unicode_utf8_acceptRanges), ("tmplpipe/lex.shapes", laid_tmplpipe_lex_shapes), ("unicode/utf8.first", laid_unicode_utf8_first)] }
def ParseLimitsSaid : Prop := parseLimitsRow.holds Tryd.pinned (OpenSpec.ofChange parseLimitsSpec)

/-- ITS FALSE NEIGHBOUR: 'it returns false'. Refute it at one input. -/
def parseLimitsWrong : ChangeSpec := { name := "parseLimits", fn := fun _ => fun
  | [d1, d2] => { results := [.lit (.bool false)], args := [d1, d2] }
  | _ => none }
def ParseLimitsWrongFalsely : Prop := parseLimitsRow.holds Tryd.pinned (OpenSpec.ofChange parseLimitsWrong)

/-- 'tmplpipelaw17.CompileErrorsInOrder': WHATEVER THE INPUT: true; the input reads as it did. -/
def compileErrorsInOrderSpec : ChangeSpec := { name := "compileErrorsInOrder", fn := fun _ => fun
  | [d] => { results := [.lit (.bool true)], args := [d] }
  | _ => none }
def compileErrorsInOrderRow : OpenClaim := { program := "ytkpnfejfbmandaadoor", sum := "9d758b8c3219016e1392aeeb6efed53c448ee567104a8dc571caf329f8032b84", func := "tmplpipe/tmplpipelaw17.CompileErrorsInOrder", spec := "compileErrorsInOrder", inPlace := ["internal/bytealg.IndexByteString", "internal/bytealg.IndexString", "internal/bytealg.CountString"], unfollowed := true, recurses := true, named := ["internal/bytealg.MaxLen", "tmplpipe/lex.shapes", "unicode/utf8.first", "unicode/utf8.acceptRanges"], apart := false, laid := [("unicode/utf8.acceptRanges", laid_unicode_utf8_acceptRanges), ("tmplpipe/lex.shapes", laid_tmplpipe_lex_shapes), ("unicode/utf8.first", laid_unicode_utf8_first)] }
def CompileErrorsInOrderSaid : Prop := compileErrorsInOrderRow.holds Tryd.pinned (OpenSpec.ofChange compileErrorsInOrderSpec)

/-- ITS FALSE NEIGHBOUR: 'it returns false'. Refute it at one input. -/
def compileErrorsInOrderWrong : ChangeSpec := { name := "compileErrorsInOrder", fn := fun _ => fun
  | [d] => { results := [.lit (.bool false)], args := [d] }
  | _ => none }
def CompileErrorsInOrderWrongFalsely : Prop := compileErrorsInOrderRow.holds Tryd.pinned (OpenSpec.ofChange compileErrorsInOrderWrong)

/-- 'tmplpipelaw17.CompileJumpsForward': WHATEVER THE INPUT: true; the input reads as it did. -/
def compileJumpsForwardSpec : ChangeSpec := { name := "compileJumpsForward", fn := fun _ => fun
  | [d] => { results := [.lit (.bool true)], args := [d] }
  | _ => none }
def compileJumpsForwardRow : OpenClaim := { program := "ytkpnfejfbmandaadoor", sum := "9d758b8c3219016e1392aeeb6efed53c448ee567104a8dc571caf329f8032b84", func := "tmplpipe/tmplpipelaw17.CompileJumpsForward", spec := "compileJumpsForward", inPlace := ["internal/bytealg.IndexByteString", "internal/bytealg.IndexString", "internal/bytealg.CountString"], unfollowed := true, recurses := true, named := ["internal/bytealg.MaxLen", "tmplpipe/lex.shapes", "unicode/utf8.first", "unicode/utf8.acceptRanges"], apart := false, laid := [("unicode/utf8.acceptRanges", laid_unicode_utf8_acceptRanges), ("tmplpipe/lex.shapes", laid_tmplpipe_lex_shapes), ("unicode/utf8.first", laid_unicode_utf8_first)] }
def CompileJumpsForwardSaid : Prop := compileJumpsForwardRow.holds Tryd.pinned (OpenSpec.ofChange compileJumpsForwardSpec)

/-- ITS FALSE NEIGHBOUR: 'it returns false'. Refute it at one input. -/
def compileJumpsForwardWrong : ChangeSpec := { name := "compileJumpsForward", fn := fun _ => fun
  | [d] => { results := [.lit (.bool false)], args := [d] }
  | _ => none }
def CompileJumpsForwardWrongFalsely : Prop := compileJumpsForwardRow.holds Tryd.pinned (OpenSpec.ofChange compileJumpsForwardWrong)

/-- 'tmplpipelaw17.CompileCheckMatchesReference': WHATEVER THE INPUT: true; the input reads as it did. -/
def compileCheckMatchesReferenceSpec : ChangeSpec := { name := "compileCheckMatchesReference", fn := fun _ => fun
  | [d] => { results := [.lit (.bool true)], args := [d] }
  | _ => none }
def compileCheckMatchesReferenceRow : OpenClaim := { program := "ytkpnfejfbmandaadoor", sum := "9d758b8c3219016e1392aeeb6efed53c448ee567104a8dc571caf329f8032b84", func := "tmplpipe/tmplpipelaw17.CompileCheckMatchesReference", spec := "compileCheckMatchesReference", inPlace := ["internal/bytealg.IndexByteString", "internal/bytealg.IndexString", "internal/bytealg.CountString"], unfollowed := true, recurses := true, named := ["internal/bytealg.MaxLen", "tmplpipe/lex.shapes", "unicode/utf8.first", "unicode/utf8.acceptRanges", "tmplpipe/compile.forms"], apart := false, laid := [("unicode/utf8.acceptRanges", laid_unicode_utf8_acceptRanges), ("tmplpipe/lex.shapes", laid_tmplpipe_lex_shapes), ("tmplpipe/compile.forms", laid_tmplpipe_compile_forms), ("unicode/utf8.first", laid_unicode_utf8_first)] }
def CompileCheckMatchesReferenceSaid : Prop := compileCheckMatchesReferenceRow.holds Tryd.pinned (OpenSpec.ofChange compileCheckMatchesReferenceSpec)

/-- ITS FALSE NEIGHBOUR: 'it returns false'. Refute it at one input. -/
def compileCheckMatchesReferenceWrong : ChangeSpec := { name := "compileCheckMatchesReference", fn := fun _ => fun
  | [d] => { results := [.lit (.bool false)], args := [d] }
  | _ => none }
def CompileCheckMatchesReferenceWrongFalsely : Prop := compileCheckMatchesReferenceRow.holds Tryd.pinned (OpenSpec.ofChange compileCheckMatchesReferenceWrong)

/-- 'tmplpipelaw17.CompileIsValid': WHATEVER THE INPUT: true; the input reads as it did. -/
def compileIsValidSpec : ChangeSpec := { name := "compileIsValid", fn := fun _ => fun
  | [d] => { results := [.lit (.bool true)], args := [d] }
  | _ => none }
def compileIsValidRow : OpenClaim := { program := "ytkpnfejfbmandaadoor", sum := "9d758b8c3219016e1392aeeb6efed53c448ee567104a8dc571caf329f8032b84", func := "tmplpipe/tmplpipelaw17.CompileIsValid", spec := "compileIsValid", inPlace := ["internal/bytealg.IndexByteString", "internal/bytealg.IndexString", "internal/bytealg.CountString"], unfollowed := true, recurses := true, named := ["internal/bytealg.MaxLen", "tmplpipe/lex.shapes", "unicode/utf8.first", "unicode/utf8.acceptRanges", "tmplpipe/compile.forms"], apart := false, laid := [("unicode/utf8.acceptRanges", laid_unicode_utf8_acceptRanges), ("tmplpipe/lex.shapes", laid_tmplpipe_lex_shapes), ("tmplpipe/compile.forms", laid_tmplpipe_compile_forms), ("unicode/utf8.first", laid_unicode_utf8_first)] }
def CompileIsValidSaid : Prop := compileIsValidRow.holds Tryd.pinned (OpenSpec.ofChange compileIsValidSpec)

/-- ITS FALSE NEIGHBOUR: 'it returns false'. Refute it at one input. -/
def compileIsValidWrong : ChangeSpec := { name := "compileIsValid", fn := fun _ => fun
  | [d] => { results := [.lit (.bool false)], args := [d] }
  | _ => none }
def CompileIsValidWrongFalsely : Prop := compileIsValidRow.holds Tryd.pinned (OpenSpec.ofChange compileIsValidWrong)

/-- 'tmplpipelaw17.CompileFormatIndependent': WHATEVER THE INPUT: true; the input reads as it did. -/
def compileFormatIndependentSpec : ChangeSpec := { name := "compileFormatIndependent", fn := fun _ => fun
  | [d] => { results := [.lit (.bool true)], args := [d] }
  | _ => none }
def compileFormatIndependentRow : OpenClaim := { program := "ytkpnfejfbmandaadoor", sum := "9d758b8c3219016e1392aeeb6efed53c448ee567104a8dc571caf329f8032b84", func := "tmplpipe/tmplpipelaw17.CompileFormatIndependent", spec := "compileFormatIndependent", inPlace := ["internal/bytealg.IndexByteString", "internal/bytealg.IndexString", "internal/bytealg.CountString", "internal/abi.NoEscape", "internal/bytealg.MakeNoZero"], unfollowed := true, recurses := true, named := ["internal/bytealg.MaxLen", "tmplpipe/lex.shapes", "unicode/utf8.first", "unicode/utf8.acceptRanges"], apart := false, laid := [("unicode/utf8.acceptRanges", laid_unicode_utf8_acceptRanges), ("tmplpipe/lex.shapes", laid_tmplpipe_lex_shapes), ("unicode/utf8.first", laid_unicode_utf8_first)] }
def CompileFormatIndependentSaid : Prop := compileFormatIndependentRow.holds Tryd.pinned (OpenSpec.ofChange compileFormatIndependentSpec)

/-- ITS FALSE NEIGHBOUR: 'it returns false'. Refute it at one input. -/
def compileFormatIndependentWrong : ChangeSpec := { name := "compileFormatIndependent", fn := fun _ => fun
  | [d] => { results := [.lit (.bool false)], args := [d] }
  | _ => none }
def CompileFormatIndependentWrongFalsely : Prop := compileFormatIndependentRow.holds Tryd.pinned (OpenSpec.ofChange compileFormatIndependentWrong)

/- THE SECOND FORM. 'bulk': how many values and letters a reading holds, each counted each time it is reached (what is shared counts as often as it is met; a slice's spare places count too). A statement '..UptoSaid' is the law's where the arguments, and the package variables that the reading takes, are together of bulk at most 1048576: NARROWER than '..Said'. Prove '..Said' where nothing that the law and all that it calls make is longer than what came in: it says more and counts as full. Else prove '..UptoSaid'. A law counts once. -/
mutual
def uptoBulk {H : Type} : DataW H → Nat
  | .lit (.string bytes) => bytes.length + 1
  | .lit _ => 1
  | .nil => 1
  | .ptr d => uptoBulk d + 1
  | .slice elems spare => uptoBulkAll elems + uptoBulkAll spare + 1
  | .agg parts => uptoBulkAll parts + 1
  | .iface _ d => uptoBulk d + 1
  | .map entries => uptoBulkEntries entries + 1
  | .held _ => 1
def uptoBulkAll {H : Type} : List (DataW H) → Nat
  | [] => 0
  | d :: r => uptoBulk d + uptoBulkAll r
def uptoBulkEntries {H : Type} : List (Lit × DataW H) → Nat
  | [] => 0
  | x :: r => uptoBulkEntry x + uptoBulkEntries r
def uptoBulkEntry {H : Type} : Lit × DataW H → Nat
  | (.string bytes, d) => bytes.length + uptoBulk d + 1
  | (_, d) => uptoBulk d + 1
 end
def uptoSmall : (H : Type) → List (DataW H) → Bool := fun _ ds => decide (uptoBulkAll ds ≤ 1048576)
def OpenSpec.upto (s : _root_.Go.ChangeSpec) : _root_.Go.OpenSpec := { _root_.Go.OpenSpec.ofChange s with cond := some uptoSmall }

/-- 'tmplpipelaw12.ParseLimits', WHERE WHAT IT READS IS OF BULK AT MOST 1048576: true; the input reads as it did. -/
def parseLimitsUptoRow : OpenClaim := { program := "ytkpnfejfbmandaadoor", sum := "9d758b8c3219016e1392aeeb6efed53c448ee567104a8dc571caf329f8032b84", func := "tmplpipe/tmplpipelaw12.ParseLimits", spec := "parseLimits", inPlace := ["internal/abi.NoEscape", "internal/bytealg.MakeNoZero", "internal/bytealg.IndexByteString", "internal/bytealg.IndexString", "internal/bytealg.CountString"], unfollowed := true, recurses := true, named := ["internal/bytealg.MaxLen", "tmplpipe/lex.shapes", "unicode/utf8.first", "unicode/utf8.acceptRanges"], apart := false, laid := [("unicode/utf8.acceptRanges", laid_unicode_utf8_acceptRanges), ("tmplpipe/lex.shapes", laid_tmplpipe_lex_shapes), ("unicode/utf8.first", laid_unicode_utf8_first)], narrowed := true }
def ParseLimitsUptoSaid : Prop := parseLimitsUptoRow.holds Tryd.pinned (OpenSpec.upto parseLimitsSpec)

/-- 'tmplpipelaw17.CompileErrorsInOrder', WHERE WHAT IT READS IS OF BULK AT MOST 1048576: true; the input reads as it did. -/
def compileErrorsInOrderUptoRow : OpenClaim := { program := "ytkpnfejfbmandaadoor", sum := "9d758b8c3219016e1392aeeb6efed53c448ee567104a8dc571caf329f8032b84", func := "tmplpipe/tmplpipelaw17.CompileErrorsInOrder", spec := "compileErrorsInOrder", inPlace := ["internal/bytealg.IndexByteString", "internal/bytealg.IndexString", "internal/bytealg.CountString"], unfollowed := true, recurses := true, named := ["internal/bytealg.MaxLen", "tmplpipe/lex.shapes", "unicode/utf8.first", "unicode/utf8.acceptRanges"], apart := false, laid := [("unicode/utf8.acceptRanges", laid_unicode_utf8_acceptRanges), ("tmplpipe/lex.shapes", laid_tmplpipe_lex_shapes), ("unicode/utf8.first", laid_unicode_utf8_first)], narrowed := true }
def CompileErrorsInOrderUptoSaid : Prop := compileErrorsInOrderUptoRow.holds Tryd.pinned (OpenSpec.upto compileErrorsInOrderSpec)

/-- 'tmplpipelaw17.CompileJumpsForward', WHERE WHAT IT READS IS OF BULK AT MOST 1048576: true; the input reads as it did. -/
def compileJumpsForwardUptoRow : OpenClaim := { program := "ytkpnfejfbmandaadoor", sum := "9d758b8c3219016e1392aeeb6efed53c448ee567104a8dc571caf329f8032b84", func := "tmplpipe/tmplpipelaw17.CompileJumpsForward", spec := "compileJumpsForward", inPlace := ["internal/bytealg.IndexByteString", "internal/bytealg.IndexString", "internal/bytealg.CountString"], unfollowed := true, recurses := true, named := ["internal/bytealg.MaxLen", "tmplpipe/lex.shapes", "unicode/utf8.first", "unicode/utf8.acceptRanges"], apart := false, laid := [("unicode/utf8.acceptRanges", laid_unicode_utf8_acceptRanges), ("tmplpipe/lex.shapes", laid_tmplpipe_lex_shapes), ("unicode/utf8.first", laid_unicode_utf8_first)], narrowed := true }
def CompileJumpsForwardUptoSaid : Prop := compileJumpsForwardUptoRow.holds Tryd.pinned (OpenSpec.upto compileJumpsForwardSpec)

/-- 'tmplpipelaw17.CompileCheckMatchesReference', WHERE WHAT IT READS IS OF BULK AT MOST 1048576: true; the input reads as it did. -/
def compileCheckMatchesReferenceUptoRow : OpenClaim := { program := "ytkpnfejfbmandaadoor", sum := "9d758b8c3219016e1392aeeb6efed53c448ee567104a8dc571caf329f8032b84", func := "tmplpipe/tmplpipelaw17.CompileCheckMatchesReference", spec := "compileCheckMatchesReference", inPlace := ["internal/bytealg.IndexByteString", "internal/bytealg.IndexString", "internal/bytealg.CountString"], unfollowed := true, recurses := true, named := ["internal/bytealg.MaxLen", "tmplpipe/lex.shapes", "unicode/utf8.first", "unicode/utf8.acceptRanges", "tmplpipe/compile.forms"], apart := false, laid := [("unicode/utf8.acceptRanges", laid_unicode_utf8_acceptRanges), ("tmplpipe/lex.shapes", laid_tmplpipe_lex_shapes), ("tmplpipe/compile.forms", laid_tmplpipe_compile_forms), ("unicode/utf8.first", laid_unicode_utf8_first)], narrowed := true }
def CompileCheckMatchesReferenceUptoSaid : Prop := compileCheckMatchesReferenceUptoRow.holds Tryd.pinned (OpenSpec.upto compileCheckMatchesReferenceSpec)

/-- 'tmplpipelaw17.CompileIsValid', WHERE WHAT IT READS IS OF BULK AT MOST 1048576: true; the input reads as it did. -/
def compileIsValidUptoRow : OpenClaim := { program := "ytkpnfejfbmandaadoor", sum := "9d758b8c3219016e1392aeeb6efed53c448ee567104a8dc571caf329f8032b84", func := "tmplpipe/tmplpipelaw17.CompileIsValid", spec := "compileIsValid", inPlace := ["internal/bytealg.IndexByteString", "internal/bytealg.IndexString", "internal/bytealg.CountString"], unfollowed := true, recurses := true, named := ["internal/bytealg.MaxLen", "tmplpipe/lex.shapes", "unicode/utf8.first", "unicode/utf8.acceptRanges", "tmplpipe/compile.forms"], apart := false, laid := [("unicode/utf8.acceptRanges", laid_unicode_utf8_acceptRanges), ("tmplpipe/lex.shapes", laid_tmplpipe_lex_shapes), ("tmplpipe/compile.forms", laid_tmplpipe_compile_forms), ("unicode/utf8.first", laid_unicode_utf8_first)], narrowed := true }
def CompileIsValidUptoSaid : Prop := compileIsValidUptoRow.holds Tryd.pinned (OpenSpec.upto compileIsValidSpec)

/-- 'tmplpipelaw17.CompileFormatIndependent', WHERE WHAT IT READS IS OF BULK AT MOST 1048576: true; the input reads as it did. -/
def compileFormatIndependentUptoRow : OpenClaim := { program := "ytkpnfejfbmandaadoor", sum := "9d758b8c3219016e1392aeeb6efed53c448ee567104a8dc571caf329f8032b84", func := "tmplpipe/tmplpipelaw17.CompileFormatIndependent", spec := "compileFormatIndependent", inPlace := ["internal/bytealg.IndexByteString", "internal/bytealg.IndexString", "internal/bytealg.CountString", "internal/abi.NoEscape", "internal/bytealg.MakeNoZero"], unfollowed := true, recurses := true, named := ["internal/bytealg.MaxLen", "tmplpipe/lex.shapes", "unicode/utf8.first", "unicode/utf8.acceptRanges"], apart := false, laid := [("unicode/utf8.acceptRanges", laid_unicode_utf8_acceptRanges), ("tmplpipe/lex.shapes", laid_tmplpipe_lex_shapes), ("unicode/utf8.first", laid_unicode_utf8_first)], narrowed := true }
def CompileFormatIndependentUptoSaid : Prop := compileFormatIndependentUptoRow.holds Tryd.pinned (OpenSpec.upto compileFormatIndependentSpec)

end Rows
end Go.Proofs.YtkpnfejfbmandaaDoor
