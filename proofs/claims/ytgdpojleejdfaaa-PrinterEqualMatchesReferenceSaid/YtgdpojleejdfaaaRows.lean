/-
  No cell of these rows narrows 'for every input' (looked for: loops, veiled, ifaces, maps, wideKeys, modest, calm, conditions, laid).
  DERIVED. THE GIVEN ROWS OF THIS SEAT. 4 by the template 'for every input the law returns true; each argument reads behind the call as it read before'; 0 by the template 'total and deterministic' (their statements: YtgdpojleejdfaaaTotals.lean).
  GIVEN WITH THE SEED: the statements are not yours to turn. If you find one false, say at which input.
  Laid BY PROGRAM, IN A SANDBOX (cutbox-rows.mjs): the forced cells as the released guide's own fill.sh prints them over the translation 19ea70a19d8bb1a4… (all of the seat's roots in one cut). By AI agents, Wed Nov 11 2026. No macro, syntax, notation, axiom, sorry.
-/
import Derived.Test.YtgdpojleejdfaaaChecked
import GoSem.Claim
import GoSem.ClaimJoined
import GoSem.ClaimMapViews
import Derived.JoinedTies
import Derived.KernelRfl
namespace Go.Proofs.Ytgdpojleejdfaaa
/- THE CELL 'sum', in the pinned program and in every row, IS THE sha256 OF THE DUMP (.gsa) THAT YtgdpojleejdfaaaProg.lean LOADS. Nothing in Lean hashes anything: it is a label: what it is worth is what the hold of that sum in a sandbox is worth. -/
noncomputable def Try.pinned : Pinned := { name := "ytgdpojleejdfaaa", sum := "19ea70a19d8bb1a4d801756501405f9da7e62e4648f8341bbd30b8a572fc0e01", checked := Try.checked }
namespace Rows
def none {H : Type} : Left H := { results := [], args := [] }

/-- 'tmplpipelaw13.PrinterFormatMatchesReference': WHATEVER THE INPUT: true; the input reads as it did. -/
def printerFormatMatchesReferenceSpec : ChangeSpec := { name := "printerFormatMatchesReference", fn := fun _ => fun
  | [d] => { results := [.lit (.bool true)], args := [d] }
  | _ => none }
def printerFormatMatchesReferenceRow : OpenClaim := { program := "ytgdpojleejdfaaa", sum := "19ea70a19d8bb1a4d801756501405f9da7e62e4648f8341bbd30b8a572fc0e01", func := "tmplpipe/tmplpipelaw13.PrinterFormatMatchesReference", spec := "printerFormatMatchesReference", inPlace := ["internal/abi.NoEscape", "internal/bytealg.MakeNoZero"], unfollowed := true, recurses := true, apart := false }
def PrinterFormatMatchesReferenceSaid : Prop := printerFormatMatchesReferenceRow.holds Try.pinned (OpenSpec.ofChange printerFormatMatchesReferenceSpec)

/-- ITS FALSE NEIGHBOUR: 'it returns false'. Refute it at one input. -/
def printerFormatMatchesReferenceWrong : ChangeSpec := { name := "printerFormatMatchesReference", fn := fun _ => fun
  | [d] => { results := [.lit (.bool false)], args := [d] }
  | _ => none }
def PrinterFormatMatchesReferenceWrongFalsely : Prop := printerFormatMatchesReferenceRow.holds Try.pinned (OpenSpec.ofChange printerFormatMatchesReferenceWrong)

/-- 'tmplpipelaw13.PrinterStripIsolated': WHATEVER THE INPUT: true; the input reads as it did. -/
def printerStripIsolatedSpec : ChangeSpec := { name := "printerStripIsolated", fn := fun _ => fun
  | [d] => { results := [.lit (.bool true)], args := [d] }
  | _ => none }
def printerStripIsolatedRow : OpenClaim := { program := "ytgdpojleejdfaaa", sum := "19ea70a19d8bb1a4d801756501405f9da7e62e4648f8341bbd30b8a572fc0e01", func := "tmplpipe/tmplpipelaw13.PrinterStripIsolated", spec := "printerStripIsolated", inPlace := ["internal/abi.NoEscape", "internal/bytealg.MakeNoZero"], unfollowed := true, recurses := true, apart := false }
def PrinterStripIsolatedSaid : Prop := printerStripIsolatedRow.holds Try.pinned (OpenSpec.ofChange printerStripIsolatedSpec)

/-- ITS FALSE NEIGHBOUR: 'it returns false'. Refute it at one input. -/
def printerStripIsolatedWrong : ChangeSpec := { name := "printerStripIsolated", fn := fun _ => fun
  | [d] => { results := [.lit (.bool false)], args := [d] }
  | _ => none }
def PrinterStripIsolatedWrongFalsely : Prop := printerStripIsolatedRow.holds Try.pinned (OpenSpec.ofChange printerStripIsolatedWrong)

/-- 'tmplpipelaw13.PrinterEqualIsEquivalence': WHATEVER THE INPUT: true; the input reads as it did. -/
def printerEqualIsEquivalenceSpec : ChangeSpec := { name := "printerEqualIsEquivalence", fn := fun _ => fun
  | [d1, d2, d3] => { results := [.lit (.bool true)], args := [d1, d2, d3] }
  | _ => none }
def printerEqualIsEquivalenceRow : OpenClaim := { program := "ytgdpojleejdfaaa", sum := "19ea70a19d8bb1a4d801756501405f9da7e62e4648f8341bbd30b8a572fc0e01", func := "tmplpipe/tmplpipelaw13.PrinterEqualIsEquivalence", spec := "printerEqualIsEquivalence", inPlace := ["internal/abi.NoEscape", "internal/bytealg.MakeNoZero"], unfollowed := true, recurses := true, apart := false }
def PrinterEqualIsEquivalenceSaid : Prop := printerEqualIsEquivalenceRow.holds Try.pinned (OpenSpec.ofChange printerEqualIsEquivalenceSpec)

/-- ITS FALSE NEIGHBOUR: 'it returns false'. Refute it at one input. -/
def printerEqualIsEquivalenceWrong : ChangeSpec := { name := "printerEqualIsEquivalence", fn := fun _ => fun
  | [d1, d2, d3] => { results := [.lit (.bool false)], args := [d1, d2, d3] }
  | _ => none }
def PrinterEqualIsEquivalenceWrongFalsely : Prop := printerEqualIsEquivalenceRow.holds Try.pinned (OpenSpec.ofChange printerEqualIsEquivalenceWrong)

/-- 'tmplpipelaw13.PrinterEqualMatchesReference': WHATEVER THE INPUT: true; the input reads as it did. -/
def printerEqualMatchesReferenceSpec : ChangeSpec := { name := "printerEqualMatchesReference", fn := fun _ => fun
  | [d1, d2] => { results := [.lit (.bool true)], args := [d1, d2] }
  | _ => none }
def printerEqualMatchesReferenceRow : OpenClaim := { program := "ytgdpojleejdfaaa", sum := "19ea70a19d8bb1a4d801756501405f9da7e62e4648f8341bbd30b8a572fc0e01", func := "tmplpipe/tmplpipelaw13.PrinterEqualMatchesReference", spec := "printerEqualMatchesReference", inPlace := ["internal/abi.NoEscape", "internal/bytealg.MakeNoZero"], unfollowed := true, recurses := true, apart := false }
def PrinterEqualMatchesReferenceSaid : Prop := printerEqualMatchesReferenceRow.holds Try.pinned (OpenSpec.ofChange printerEqualMatchesReferenceSpec)

/-- ITS FALSE NEIGHBOUR: 'it returns false'. Refute it at one input. -/
def printerEqualMatchesReferenceWrong : ChangeSpec := { name := "printerEqualMatchesReference", fn := fun _ => fun
  | [d1, d2] => { results := [.lit (.bool false)], args := [d1, d2] }
  | _ => none }
def PrinterEqualMatchesReferenceWrongFalsely : Prop := printerEqualMatchesReferenceRow.holds Try.pinned (OpenSpec.ofChange printerEqualMatchesReferenceWrong)

/- THE SECOND FORM. 'bulk': how many values and letters a reading holds, each counted each time it is reached (what is shared counts as often as it is met; a slice's spare places count too). A statement '..UptoSaid' is the law's where the arguments, and the package variables that the reading takes, are together of bulk at most 1048576: NARROWER than '..Said'. Prove '..Said' where nothing that the law and all that it calls make is longer than what came in: it says more and counts as full. Else prove '..UptoSaid'. A law counts once. -/
mutual
def uptoBulk {H : Type} : DataW H → Nat
  | .lit (.string bytes) => bytes.length + 1
  | .lit _ => 1
  | .nil => 1
  | .ptr d => uptoBulk d + 1
  | .slice elems spare => uptoBulkAll elems + uptoBulkAll spare + 1
  | .agg parts => uptoBulkAll parts + 1
  | .iface _ d => uptoBulk d + 1
  | .map entries => uptoBulkEntries entries + 1
  | .held _ => 1
def uptoBulkAll {H : Type} : List (DataW H) → Nat
  | [] => 0
  | d :: r => uptoBulk d + uptoBulkAll r
def uptoBulkEntries {H : Type} : List (Lit × DataW H) → Nat
  | [] => 0
  | x :: r => uptoBulkEntry x + uptoBulkEntries r
def uptoBulkEntry {H : Type} : Lit × DataW H → Nat
  | (.string bytes, d) => bytes.length + uptoBulk d + 1
  | (_, d) => uptoBulk d + 1
 end
def uptoSmall : (H : Type) → List (DataW H) → Bool := fun _ ds => decide (uptoBulkAll ds ≤ 1048576)
def OpenSpec.upto (s : _root_.Go.ChangeSpec) : _root_.Go.OpenSpec := { _root_.Go.OpenSpec.ofChange s with cond := some uptoSmall }

/-- 'tmplpipelaw13.PrinterFormatMatchesReference', WHERE WHAT IT READS IS OF BULK AT MOST 1048576: true; the input reads as it did. -/
def printerFormatMatchesReferenceUptoRow : OpenClaim := { program := "ytgdpojleejdfaaa", sum := "19ea70a19d8bb1a4d801756501405f9da7e62e4648f8341bbd30b8a572fc0e01", func := "tmplpipe/tmplpipelaw13.PrinterFormatMatchesReference", spec := "printerFormatMatchesReference", inPlace := ["internal/abi.NoEscape", "internal/bytealg.MakeNoZero"], unfollowed := true, recurses := true, apart := false, narrowed := true }
def PrinterFormatMatchesReferenceUptoSaid : Prop := printerFormatMatchesReferenceUptoRow.holds Try.pinned (OpenSpec.upto printerFormatMatchesReferenceSpec)

/-- 'tmplpipelaw13.PrinterStripIsolated', WHERE WHAT IT READS IS OF BULK AT MOST 1048576: true; the input reads as it did. -/
def printerStripIsolatedUptoRow : OpenClaim := { program := "ytgdpojleejdfaaa", sum := "19ea70a19d8bb1a4d801756501405f9da7e62e4648f8341bbd30b8a572fc0e01", func := "tmplpipe/tmplpipelaw13.PrinterStripIsolated", spec := "printerStripIsolated", inPlace := ["internal/abi.NoEscape", "internal/bytealg.MakeNoZero"], unfollowed := true, recurses := true, apart := false, narrowed := true }
def PrinterStripIsolatedUptoSaid : Prop := printerStripIsolatedUptoRow.holds Try.pinned (OpenSpec.upto printerStripIsolatedSpec)

/-- 'tmplpipelaw13.PrinterEqualIsEquivalence', WHERE WHAT IT READS IS OF BULK AT MOST 1048576: true; the input reads as it did. -/
def printerEqualIsEquivalenceUptoRow : OpenClaim := { program := "ytgdpojleejdfaaa", sum := "19ea70a19d8bb1a4d801756501405f9da7e62e4648f8341bbd30b8a572fc0e01", func := "tmplpipe/tmplpipelaw13.PrinterEqualIsEquivalence", spec := "printerEqualIsEquivalence", inPlace := ["internal/abi.NoEscape", "internal/bytealg.MakeNoZero"], unfollowed := true, recurses := true, apart := false, narrowed := true }
def PrinterEqualIsEquivalenceUptoSaid : Prop := printerEqualIsEquivalenceUptoRow.holds Try.pinned (OpenSpec.upto printerEqualIsEquivalenceSpec)

/-- 'tmplpipelaw13.PrinterEqualMatchesReference', WHERE WHAT IT READS IS OF BULK AT MOST 1048576: true; the input reads as it did. -/
def printerEqualMatchesReferenceUptoRow : OpenClaim := { program := "ytgdpojleejdfaaa", sum := "19ea70a19d8bb1a4d801756501405f9da7e62e4648f8341bbd30b8a572fc0e01", func := "tmplpipe/tmplpipelaw13.PrinterEqualMatchesReference", spec := "printerEqualMatchesReference", inPlace := ["internal/abi.NoEscape", "internal/bytealg.MakeNoZero"], unfollowed := true, recurses := true, apart := false, narrowed := true }
def PrinterEqualMatchesReferenceUptoSaid : Prop := printerEqualMatchesReferenceUptoRow.holds Try.pinned (OpenSpec.upto printerEqualMatchesReferenceSpec)

end Rows
end Go.Proofs.Ytgdpojleejdfaaa
