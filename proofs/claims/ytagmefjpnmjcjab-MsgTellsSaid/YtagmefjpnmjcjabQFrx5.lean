/- Cut to what this claim names. -/
import Derived.Test.YtagmefjpnmjcjabQFrx0
import Derived.Test.YtagmefjpnmjcjabQNux2
namespace Go.Proofs.Ytagmefjpnmjcjab.Fr
open Go.RowKit Go.Proofs.YtagmefjpnmjcjabW.PrintWords Go.Proofs.YtagmefjpnmjcjabW.PrintLast Go.Proofs.YtagmefjpnmjcjabW.PrintMore
open Go.Proofs.Ytagmefjpnmjcjab.Nu (bits_Len64.f signalmanref01_Same.f signalmanref01_Same.calls num_sized.f num_sized.calls slices_Clone_byte_byte.f slices_Clone_byte_byte.calls num_Put.f num_Put.calls num_Take.f num_Take.calls)
attribute [local go_sem] max2_int min2_int max_two min_two max_three min_three max_four min_four   -- for this text's walks alone
set_option linter.unusedVariables false
set_option linter.unusedSimpArgs false

/-! ### signalmanref02_Read: function 29 -/
end Go.Proofs.Ytagmefjpnmjcjab.Fr
