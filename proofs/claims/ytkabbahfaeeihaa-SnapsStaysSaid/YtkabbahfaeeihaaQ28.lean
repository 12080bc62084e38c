/- Contracts of the functions that the laws reach, in the words of the kit's print; written by a program of this claim (gen_q.py). -/
import Derived.Test.YtkabbahfaeeihaaQ0
import Derived.Test.YtkabbahfaeeihaaQ5
import Derived.Test.YtkabbahfaeeihaaQ12
import Derived.Test.YtkabbahfaeeihaaQ27
namespace Go.Proofs.Ytkabbahfaeeihaa.Q
open Go.RowKit Go.Proofs.YtkabbahfaeeihaaW.PrintWords Go.Proofs.YtkabbahfaeeihaaW.PrintLast Go.Proofs.YtkabbahfaeeihaaW.PrintMore
attribute [local go_sem] max2_int min2_int max_two min_two max_three min_three max_four min_four   -- for this text's walks alone
set_option linter.unusedVariables false
set_option linter.unusedSimpArgs false

/-! ### cordwoodlaw21_done: function 19 -/
def cordwoodlaw21_done.f (k : Nat) (l0_0 : List Int) (l0_1 : List (List (S72))) (a0_2 : Int) (a0_3 : Int) (a1_0 : Int) (a1_1 : Int) (l1_2 : List (S72)) : Option (List Int × (List (List (S72))) × Int × Int × Int × Int) := if (Go.bits .and .i64 a1_0 3) = 0 then ((snaps_Keep.f l0_0 l0_1 a0_2 a0_3 l1_2).bind fun bt360 => (if bt360.2.2.2.2.2 = 0 then (some (bt360.1, bt360.2.1, bt360.2.2.1, bt360.2.2.2.1, bt360.2.2.2.2.1, bt360.2.2.2.2.2)) else (some (l0_0, l0_1, a0_2, a0_3, bt360.2.2.2.2.1, bt360.2.2.2.2.2)))) else (if (Go.bits .and .i64 a1_0 3) = 1 then ((snaps_Forget.f k l0_0 l0_1 a0_2 a0_3 a1_1).bind fun bt371 => (if bt371.2.2.2.2 = 0 then (some (bt371.1, bt371.2.1, bt371.2.2.1, bt371.2.2.2.1, 0, bt371.2.2.2.2)) else (some (l0_0, l0_1, a0_2, a0_3, 0, bt371.2.2.2.2)))) else ((snaps_Oldest.f l0_0 l0_1 a0_2 a0_3).bind fun bt381 => (some (bt381.1, bt381.2.1, bt381.2.2.1, bt381.2.2.2.1, bt381.2.2.2.2, 0))))
theorem cordwoodlaw21_done.mono : ∀ a0 a1 a2 a3 a4 a5 a6 k, LeO (cordwoodlaw21_done.f k a0 a1 a2 a3 a4 a5 a6) (cordwoodlaw21_done.f (k + 1) a0 a1 a2 a3 a4 a5 a6) := by
  intro a0 a1 a2 a3 a4 a5 a6 k
  unfold cordwoodlaw21_done.f
  repeat' first
      | (with_reducible exact snaps_Forget.mono _ _ _ _ _ _)
      | (with_reducible exact LeO.refl _)
      | (with_reducible exact LeO.none _)
      | (with_reducible refine LeO.ite ?_ ?_)
      | (with_reducible refine LeO.bind ?_ (fun _ => ?_))
      | exact snaps_Forget.mono _ _ _ _ _ _
      | exact LeO.none _
      | refine LeO.ite ?_ ?_
      | refine LeO.bind ?_ (fun _ => ?_)
end Go.Proofs.Ytkabbahfaeeihaa.Q
