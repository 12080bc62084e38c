/- Contracts of the functions that the laws reach, in the words of the kit's print; written by a program of this claim (gen_q.py). -/
import Derived.Test.YtkabbahfaeeihaaQ0
import Derived.Test.YtkabbahfaeeihaaQ1
import Derived.Test.YtkabbahfaeeihaaQ5
import Derived.Test.YtkabbahfaeeihaaQ8
import Derived.Test.YtkabbahfaeeihaaQ12
namespace Go.Proofs.Ytkabbahfaeeihaa.Q
open Go.RowKit Go.Proofs.YtkabbahfaeeihaaW.PrintWords Go.Proofs.YtkabbahfaeeihaaW.PrintLast Go.Proofs.YtkabbahfaeeihaaW.PrintMore
attribute [local go_sem] max2_int min2_int max_two min_two max_three min_three max_four min_four   -- for this text's walks alone
set_option linter.unusedVariables false
set_option linter.unusedSimpArgs false

/-! ### cordwoodlaw21_awake: function 9 -/
def cordwoodlaw21_awake.f (k : Nat)  : Option (Bool) := (snaps_New.f 1).bind fun bt209 => ((snaps_Keep.f bt209.1 bt209.2.1 bt209.2.2.1 bt209.2.2.2 ([] : List (S72))).bind fun bt217 => ((snaps_Keep.f bt217.1 bt217.2.1 bt217.2.2.1 bt217.2.2.2.1 ([] : List (S72))).bind fun bt228 => ((snaps_Forget.f k bt217.1 bt217.2.1 bt217.2.2.1 bt217.2.2.2.1 1).bind fun bt239 => ((snaps_Keep.f bt239.1 bt239.2.1 bt239.2.2.1 bt239.2.2.2.1 ([] : List (S72))).bind fun bt249 => ((snaps_Get.f k bt239.1 bt239.2.1 bt239.2.2.1 bt239.2.2.2.1 1).bind fun bt260 => (some true))))))
theorem cordwoodlaw21_awake.mono : ∀ k, LeO (cordwoodlaw21_awake.f k ) (cordwoodlaw21_awake.f (k + 1) ) := by
  intro  k
  unfold cordwoodlaw21_awake.f
  repeat' first
      | (with_reducible exact snaps_Forget.mono _ _ _ _ _ _)
      | (with_reducible exact snaps_Get.mono _ _ _ _ _ _)
      | (with_reducible exact LeO.refl _)
      | (with_reducible exact LeO.none _)
      | (with_reducible refine LeO.ite ?_ ?_)
      | (with_reducible refine LeO.bind ?_ (fun _ => ?_))
      | exact snaps_Forget.mono _ _ _ _ _ _
      | exact snaps_Get.mono _ _ _ _ _ _
      | exact LeO.none _
      | refine LeO.ite ?_ ?_
      | refine LeO.bind ?_ (fun _ => ?_)
end Go.Proofs.Ytkabbahfaeeihaa.Q
