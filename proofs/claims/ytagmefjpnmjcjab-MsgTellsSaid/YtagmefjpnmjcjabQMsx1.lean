/- Cut to what this claim names. -/
import Derived.Test.YtagmefjpnmjcjabQMsx0
namespace Go.Proofs.Ytagmefjpnmjcjab.Ms
open Go.RowKit Go.Proofs.YtagmefjpnmjcjabW.PrintWords Go.Proofs.YtagmefjpnmjcjabW.PrintLast Go.Proofs.YtagmefjpnmjcjabW.PrintMore
open Go.Proofs.Ytagmefjpnmjcjab.Fr (S41 z41 k41 k41_open k41_mk rd_T41 at_T41)
attribute [local go_sem] max2_int min2_int max_two min_two max_three min_three max_four min_four   -- for this text's walks alone
set_option linter.unusedVariables false
set_option linter.unusedSimpArgs false


end Go.Proofs.Ytagmefjpnmjcjab.Ms
