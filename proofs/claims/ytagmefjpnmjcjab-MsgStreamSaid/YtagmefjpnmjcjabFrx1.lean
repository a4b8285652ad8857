-- By a program of this session (wip/pp: a turned copy of the kit's print) out of the translation; Lean checks it.
import Derived.Test.YtagmefjpnmjcjabFrx0
import Derived.Test.YtagmefjpnmjcjabNux2
namespace Go.Proofs.Ytagmefjpnmjcjab.Fr
open Go.RowKit Go.Proofs.YtagmefjpnmjcjabW.PrintWords Go.Proofs.YtagmefjpnmjcjabW.PrintLast Go.Proofs.YtagmefjpnmjcjabW.PrintMore
open Go.Proofs.Ytagmefjpnmjcjab.Nu (bits_Len64.f signalmanref01_Same.f signalmanref01_Same.calls signalmanref01_Same.mono num_sized.f num_sized.calls slices_Clone_byte_byte.f slices_Clone_byte_byte.calls num_Put.f num_Put.calls num_Put.mono num_Take.f num_Take.calls num_Take.mono)
attribute [local go_sem] max2_int min2_int max_two min_two max_three min_three max_four min_four   -- for this text's walks alone
set_option linter.unusedVariables false
set_option linter.unusedSimpArgs false


end Go.Proofs.Ytagmefjpnmjcjab.Fr
