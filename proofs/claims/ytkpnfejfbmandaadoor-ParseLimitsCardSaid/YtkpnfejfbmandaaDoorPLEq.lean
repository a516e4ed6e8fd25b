import Derived.Test.YtkpnfejfbmandaaDoorPLMu
/- Contract of printer.Equal, slices.EqualFunc at its closure, and the closure. -/
namespace Go.Proofs.YtkpnfejfbmandaaDoor.Px
open Go.RowKit Go.Proofs.YtkpnfejfbmandaaDoorW.PrintWords Go.Proofs.YtkpnfejfbmandaaDoorW.PrintLast Go.Proofs.YtkpnfejfbmandaaDoorW.PrintMore
set_option linter.unusedVariables false
set_option linter.unusedSimpArgs false
theorem S78.size6 (x : S78) : SizeOf.sizeOf x.f6 < SizeOf.sizeOf x := by cases x; simp; omega
theorem S78.size7 (x : S78) : SizeOf.sizeOf x.f7 < SizeOf.sizeOf x := by cases x; simp; omega
theorem rd_T78_at (a : List S78) (i : Nat) (h : i < a.length) : rd_T78 a (i : Int) = a[i] := by simp [rd_T78, List.getD_eq_getElem?_getD, h]
end Go.Proofs.YtkpnfejfbmandaaDoor.Px
