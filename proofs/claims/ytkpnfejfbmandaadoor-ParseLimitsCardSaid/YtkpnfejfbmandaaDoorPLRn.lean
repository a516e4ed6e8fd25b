import Derived.Test.YtkpnfejfbmandaaDoorPLRp
/- Contract of the reference parser's node: written by hand. -/
namespace Go.Proofs.YtkpnfejfbmandaaDoor.Px
open Go.RowKit Go.Proofs.YtkpnfejfbmandaaDoorW.PrintWords Go.Proofs.YtkpnfejfbmandaaDoorW.PrintLast Go.Proofs.YtkpnfejfbmandaaDoorW.PrintMore
set_option linter.unusedVariables false
set_option linter.unusedSimpArgs false
@[irreducible] def blkB (a : Int) : Bool := a == 2 || a == 3 || a == 6
theorem blkB_iff (a : Int) : blkB a = true ↔ (a = 2 ∨ a = 3 ∨ a = 6) := by unfold blkB; simp [or_assoc]
end Go.Proofs.YtkpnfejfbmandaaDoor.Px
