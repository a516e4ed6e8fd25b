import Derived.Test.YtgdpojleejdfaaaDoorRTPx0
namespace Go.Proofs.YtgdpojleejdfaaaDoor.Px
open Go.RowKit Go.Proofs.YtgdpojleejdfaaaDoorW.PrintWords Go.Proofs.YtgdpojleejdfaaaDoorW.PrintLast Go.Proofs.YtgdpojleejdfaaaDoorW.PrintMore
attribute [local go_sem] max2_int min2_int max_two min_two max_three min_three max_four min_four   -- for this text's walks alone
set_option linter.unusedVariables false
set_option linter.unusedSimpArgs false
def tmplpipelaw12_weight.B7 : List Nat := [0, 0, 2, 0, 8, 30, 62, 0, 128, 0, 512, 1982, 4094, 8191, 16383]
end Go.Proofs.YtgdpojleejdfaaaDoor.Px
