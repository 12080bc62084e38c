/- Orders that were drawn leave the memory as it was. -/
import Derived.Test.YtgfplpkmcdpbeaaDoorG
import Derived.RowKit3
namespace Go.Proofs.YtgfplpkmcdpbeaaDoor
open Go.RowKit
theorem dr_grown {w w' : World} (h : Dr w w') : Grown w w' := by
  obtain ⟨n, rfl⟩ := h
  induction n with
  | zero => exact Grown.refl _
  | succ n ih => rw [← World.drew_drewN]; exact Grown.drew ih
end Go.Proofs.YtgfplpkmcdpbeaaDoor
