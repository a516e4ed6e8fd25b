/- The plain law of PrinterFormatMatchesReference, under the name that the printed row asks for. -/
import Derived.Test.YtgdpojleejdfaaaPd
namespace Go.Proofs.Ytgdpojleejdfaaa.Pure
open Go.RowKit Go.Proofs.Ytgdpojleejdfaaa.Px
theorem PrinterFormatMatchesReference : tmplpipelaw13_PrinterFormatMatchesReference.Pure := pure_format
end Go.Proofs.Ytgdpojleejdfaaa.Pure
