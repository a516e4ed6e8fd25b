/-
  DERIVED. GIVEN WITH THE SEED: THE CARDS: each row of YtkpnfejfbmandaaDoorRows.lean that lists a variable, with what it lists TIED to the program's text (the seventh form; the later family's looks); each row that meets fmt, with fmt's text TOLD by the authors' own Lean function (tested against real Go, not proved from fmt's source: count such statements apart). THE CARD IS WHAT COUNTS. Prove the row's statement (the work); the ties are given (YtkpnfejfbmandaaDoorTie.lean); close each card by the builder's one call (the guide's Derived/Test/ToyasCard.lean, 'card_holds'). Laid BY PROGRAM, IN A SANDBOX (cutbox-door.mjs). By AI agents, Wed Nov 11 2026. No macro, syntax, notation, axiom, sorry.
-/
import Derived.Test.YtkpnfejfbmandaaDoorRows
import GoSem.ClaimSeven
namespace Go.Proofs.YtkpnfejfbmandaaDoor
namespace Rows

/-- THE TIED CARD OF 'tmplpipelaw12.ParseLimits'. -/
def parseLimitsCard : Claim7 := { stood := { row := parseLimitsRow, standIns := [], harness := (true, "7e176a3dcfb80559f05cde8997a98f38ddc5fdd934dd440ddd13236ad4ba08b2"), looks := true }, kinds := [], alts := [], laidByText := true, laidKinds := [.data, .data, .pinned], laidTests := true, laidLooks := .later }
def ParseLimitsCardSaid : Prop := Claim7.holds Tryd.pinned (.plain (OpenSpec.ofChange parseLimitsSpec)) parseLimitsCard

/-- THE TIED CARD OF 'tmplpipelaw17.CompileErrorsInOrder'. -/
def compileErrorsInOrderCard : Claim7 := { stood := { row := compileErrorsInOrderRow, standIns := [], harness := (true, "7e176a3dcfb80559f05cde8997a98f38ddc5fdd934dd440ddd13236ad4ba08b2"), looks := true }, kinds := [], alts := [], laidByText := true, laidKinds := [.data, .data, .pinned], laidTests := true, laidLooks := .later }
def CompileErrorsInOrderCardSaid : Prop := Claim7.holds Tryd.pinned (.plain (OpenSpec.ofChange compileErrorsInOrderSpec)) compileErrorsInOrderCard

/-- THE TIED CARD OF 'tmplpipelaw17.CompileJumpsForward'. -/
def compileJumpsForwardCard : Claim7 := { stood := { row := compileJumpsForwardRow, standIns := [], harness := (true, "7e176a3dcfb80559f05cde8997a98f38ddc5fdd934dd440ddd13236ad4ba08b2"), looks := true }, kinds := [], alts := [], laidByText := true, laidKinds := [.data, .data, .pinned], laidTests := true, laidLooks := .later }
def CompileJumpsForwardCardSaid : Prop := Claim7.holds Tryd.pinned (.plain (OpenSpec.ofChange compileJumpsForwardSpec)) compileJumpsForwardCard

/-- THE TIED CARD OF 'tmplpipelaw17.CompileCheckMatchesReference'. -/
def compileCheckMatchesReferenceCard : Claim7 := { stood := { row := compileCheckMatchesReferenceRow, standIns := [], harness := (true, "7e176a3dcfb80559f05cde8997a98f38ddc5fdd934dd440ddd13236ad4ba08b2"), looks := true }, kinds := [], alts := [], laidByText := true, laidKinds := [.data, .data, .data, .pinned], laidTests := true, laidLooks := .later }
def CompileCheckMatchesReferenceCardSaid : Prop := Claim7.holds Tryd.pinned (.plain (OpenSpec.ofChange compileCheckMatchesReferenceSpec)) compileCheckMatchesReferenceCard

/-- THE TIED CARD OF 'tmplpipelaw17.CompileIsValid'. -/
def compileIsValidCard : Claim7 := { stood := { row := compileIsValidRow, standIns := [], harness := (true, "7e176a3dcfb80559f05cde8997a98f38ddc5fdd934dd440ddd13236ad4ba08b2"), looks := true }, kinds := [], alts := [], laidByText := true, laidKinds := [.data, .data, .data, .pinned], laidTests := true, laidLooks := .later }
def CompileIsValidCardSaid : Prop := Claim7.holds Tryd.pinned (.plain (OpenSpec.ofChange compileIsValidSpec)) compileIsValidCard

/-- THE TIED CARD OF 'tmplpipelaw17.CompileFormatIndependent'. -/
def compileFormatIndependentCard : Claim7 := { stood := { row := compileFormatIndependentRow, standIns := [], harness := (true, "7e176a3dcfb80559f05cde8997a98f38ddc5fdd934dd440ddd13236ad4ba08b2"), looks := true }, kinds := [], alts := [], laidByText := true, laidKinds := [.data, .data, .pinned], laidTests := true, laidLooks := .later }
def CompileFormatIndependentCardSaid : Prop := Claim7.holds Tryd.pinned (.plain (OpenSpec.ofChange compileFormatIndependentSpec)) compileFormatIndependentCard

/-- THE SECOND FORM's CARD OF 'tmplpipelaw12.ParseLimits'. -/
def parseLimitsUptoCard : Claim7 := { stood := { row := parseLimitsUptoRow, standIns := [], harness := (true, "7e176a3dcfb80559f05cde8997a98f38ddc5fdd934dd440ddd13236ad4ba08b2"), looks := true }, kinds := [], alts := [], laidByText := true, laidKinds := [.data, .data, .pinned], laidTests := true, laidLooks := .later }
def ParseLimitsUptoCardSaid : Prop := Claim7.holds Tryd.pinned (.plain (OpenSpec.upto parseLimitsSpec)) parseLimitsUptoCard

/-- THE SECOND FORM's CARD OF 'tmplpipelaw17.CompileErrorsInOrder'. -/
def compileErrorsInOrderUptoCard : Claim7 := { stood := { row := compileErrorsInOrderUptoRow, standIns := [], harness := (true, "7e176a3dcfb80559f05cde8997a98f38ddc5fdd934dd440ddd13236ad4ba08b2"), looks := true }, kinds := [], alts := [], laidByText := true, laidKinds := [.data, .data, .pinned], laidTests := true, laidLooks := .later }
def CompileErrorsInOrderUptoCardSaid : Prop := Claim7.holds Tryd.pinned (.plain (OpenSpec.upto compileErrorsInOrderSpec)) compileErrorsInOrderUptoCard

/-- THE SECOND FORM's CARD OF 'tmplpipelaw17.CompileJumpsForward'. -/
def compileJumpsForwardUptoCard : Claim7 := { stood := { row := compileJumpsForwardUptoRow, standIns := [], harness := (true, "7e176a3dcfb80559f05cde8997a98f38ddc5fdd934dd440ddd13236ad4ba08b2"), looks := true }, kinds := [], alts := [], laidByText := true, laidKinds := [.data, .data, .pinned], laidTests := true, laidLooks := .later }
def CompileJumpsForwardUptoCardSaid : Prop := Claim7.holds Tryd.pinned (.plain (OpenSpec.upto compileJumpsForwardSpec)) compileJumpsForwardUptoCard

/-- THE SECOND FORM's CARD OF 'tmplpipelaw17.CompileCheckMatchesReference'. -/
def compileCheckMatchesReferenceUptoCard : Claim7 := { stood := { row := compileCheckMatchesReferenceUptoRow, standIns := [], harness := (true, "7e176a3dcfb80559f05cde8997a98f38ddc5fdd934dd440ddd13236ad4ba08b2"), looks := true }, kinds := [], alts := [], laidByText := true, laidKinds := [.data, .data, .data, .pinned], laidTests := true, laidLooks := .later }
def CompileCheckMatchesReferenceUptoCardSaid : Prop := Claim7.holds Tryd.pinned (.plain (OpenSpec.upto compileCheckMatchesReferenceSpec)) compileCheckMatchesReferenceUptoCard

/-- THE SECOND FORM's CARD OF 'tmplpipelaw17.CompileIsValid'. -/
def compileIsValidUptoCard : Claim7 := { stood := { row := compileIsValidUptoRow, standIns := [], harness := (true, "7e176a3dcfb80559f05cde8997a98f38ddc5fdd934dd440ddd13236ad4ba08b2"), looks := true }, kinds := [], alts := [], laidByText := true, laidKinds := [.data, .data, .data, .pinned], laidTests := true, laidLooks := .later }
def CompileIsValidUptoCardSaid : Prop := Claim7.holds Tryd.pinned (.plain (OpenSpec.upto compileIsValidSpec)) compileIsValidUptoCard

/-- THE SECOND FORM's CARD OF 'tmplpipelaw17.CompileFormatIndependent'. -/
def compileFormatIndependentUptoCard : Claim7 := { stood := { row := compileFormatIndependentUptoRow, standIns := [], harness := (true, "7e176a3dcfb80559f05cde8997a98f38ddc5fdd934dd440ddd13236ad4ba08b2"), looks := true }, kinds := [], alts := [], laidByText := true, laidKinds := [.data, .data, .pinned], laidTests := true, laidLooks := .later }
def CompileFormatIndependentUptoCardSaid : Prop := Claim7.holds Tryd.pinned (.plain (OpenSpec.upto compileFormatIndependentSpec)) compileFormatIndependentUptoCard
end Rows
end Go.Proofs.YtkpnfejfbmandaaDoor
