/- What the rows of this seat share: the tables of math/bits, out of the rows' condition; a start that meets it. -/
import Derived.Test.YtgfplpkmcdpbeaaDoorRows
import Derived.Test.YtgfplpkmcdpbeaaDoorBase
import Derived.ProofKit
import Derived.OpenShut
import Derived.LaidMore
import Derived.LaidSub
import Derived.MakeChecks
import Derived.Lib.LaidTab
import Derived.Stop.Joined
import Derived.Stop.LaidErr
namespace Go.Proofs.YtgfplpkmcdpbeaaDoor
open Go.ChangeShapes Go.WideShapes Go.ChangeAt Go.RowKit

def laid2 : List (String × DataW Unit) := [("math/bits.deBruijn32tab", Rows.laid_math_bits_deBruijn32tab), ("math/bits.deBruijn64tab", Rows.laid_math_bits_deBruijn64tab)]

theorem own : ownKnob Tryd.prog.godebug = none := by kernel_rfl

set_option maxRecDepth 100000 in
/-- The door's own heap meets the condition. -/
theorem door_met (os : Os) (args : Array Value) : laidMetH Tryd.prog laid2 ((World.doorLaid Tryd.prog 19 os).forCall (fun _ _ => 0) ⟨#[], args, []⟩).memory :=
  laidMetH_of_parts3 (fuel := 8) (laidMet_of_run' 8 (by kernel_rfl) (by kernel_rfl)) (by kernel_rfl) (by kernel_rfl)

theorem tab_eq : (Rows.laid_math_bits_deBruijn64tab : DataW Unit) = Lib.tabData .u8 (Lib.deBruijn64tab.map fun n : Nat => (n : Int)) := by rfl

theorem tab_of_laid {W : World} (h : laidMetH Tryd.prog laid2 W) : Tab W := by
  rw [MakeChecks.laidMetH_plain _ _ _ (by kernel_rfl)] at h
  have h2 := h.tail
  rw [tab_eq] at h2
  have hT := Lib.tabIs_of_head (g := 1) (t := 50) (e := 5) (n := 64) (by kernel_rfl) (by kernel_rfl) Tryd.underlying50 Tryd.underlying5 (by kernel_rfl) (by kernel_rfl) h2
  refine ⟨fun j hj => ?_⟩
  have := hT.cell (g := 1) (by kernel_rfl) j (by simpa [Lib.deBruijn64tab] using hj)
  rw [this]
  have hl : j < Lib.deBruijn64tab.length := by simpa [Lib.deBruijn64tab] using hj
  simp [List.getD_eq_getElem?_getD, hl]

end Go.Proofs.YtgfplpkmcdpbeaaDoor
