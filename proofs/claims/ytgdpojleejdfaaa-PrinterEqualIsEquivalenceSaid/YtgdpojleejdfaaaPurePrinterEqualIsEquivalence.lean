/- The plain law of PrinterEqualIsEquivalence, under the name that the printed row asks for. -/
import Derived.Test.YtgdpojleejdfaaaPd
namespace Go.Proofs.Ytgdpojleejdfaaa.Pure
open Go.RowKit Go.Proofs.Ytgdpojleejdfaaa.Px
theorem PrinterEqualIsEquivalence : tmplpipelaw13_PrinterEqualIsEquivalence.Pure := pure_equiv
end Go.Proofs.Ytgdpojleejdfaaa.Pure
