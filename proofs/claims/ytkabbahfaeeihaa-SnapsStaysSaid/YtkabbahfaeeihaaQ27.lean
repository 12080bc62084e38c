/- Contracts of the functions that the laws reach, in the words of the kit's print; written by a program of this claim (gen_q.py). -/
import Derived.Test.YtkabbahfaeeihaaQ0
import Derived.Test.YtkabbahfaeeihaaQ11
namespace Go.Proofs.Ytkabbahfaeeihaa.Q
open Go.RowKit Go.Proofs.YtkabbahfaeeihaaW.PrintWords Go.Proofs.YtkabbahfaeeihaaW.PrintLast Go.Proofs.YtkabbahfaeeihaaW.PrintMore
attribute [local go_sem] max2_int min2_int max_two min_two max_three min_three max_four min_four   -- for this text's walks alone
set_option linter.unusedVariables false
set_option linter.unusedSimpArgs false

/-! ### snaps_Oldest: function 25 -/
def snaps_Oldest.f (l0_0 : List Int) (l0_1 : List (List (S72))) (a0_2 : Int) (a0_3 : Int) : Option (List Int × (List (List (S72))) × Int × Int × Int) := if (l0_0.length : Int) = 0 then (some (l0_0, l0_1, a0_2, a0_3, 0)) else ((api_Node_without.f l0_0 l0_1 a0_2 a0_3 0).bind fun bt348 => (if 0 < (l0_0.length : Int) then (some (bt348.1, bt348.2.1, bt348.2.2.1, bt348.2.2.2, rd l0_0 0)) else (none)))
end Go.Proofs.Ytkabbahfaeeihaa.Q
