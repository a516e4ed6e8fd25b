import Derived.Test.YtgdpojleejdfaaaDoorPOMu
/- Contract of printer.Equal, slices.EqualFunc at its closure, and the closure. -/
namespace Go.Proofs.YtgdpojleejdfaaaDoor.Px
open Go.RowKit Go.Proofs.YtgdpojleejdfaaaDoorW.PrintWords Go.Proofs.YtgdpojleejdfaaaDoorW.PrintLast Go.Proofs.YtgdpojleejdfaaaDoorW.PrintMore
set_option linter.unusedVariables false
set_option linter.unusedSimpArgs false
theorem S39.size6 (x : S39) : SizeOf.sizeOf x.f6 < SizeOf.sizeOf x := by cases x; simp; omega
theorem S39.size7 (x : S39) : SizeOf.sizeOf x.f7 < SizeOf.sizeOf x := by cases x; simp; omega
theorem rd_T39_at (a : List S39) (i : Nat) (h : i < a.length) : rd_T39 a (i : Int) = a[i] := by simp [rd_T39, List.getD_eq_getElem?_getD, h]
end Go.Proofs.YtgdpojleejdfaaaDoor.Px
