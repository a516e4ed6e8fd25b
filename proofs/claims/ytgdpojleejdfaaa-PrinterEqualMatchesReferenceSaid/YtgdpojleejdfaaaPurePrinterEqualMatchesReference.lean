/- The plain law of PrinterEqualMatchesReference, under the name that the printed row asks for. -/
import Derived.Test.YtgdpojleejdfaaaPr
namespace Go.Proofs.Ytgdpojleejdfaaa.Pure
open Go.RowKit Go.Proofs.Ytgdpojleejdfaaa.Px
theorem PrinterEqualMatchesReference : tmplpipelaw13_PrinterEqualMatchesReference.Pure := pure_equal
end Go.Proofs.Ytgdpojleejdfaaa.Pure
