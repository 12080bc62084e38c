/- Facts on the nodes of the seven widths, each held at all 247 of them by the kernel. -/
import Derived.Test.YtgfplpkmcdpbeaaDoorPlain
namespace Go.Proofs.YtgfplpkmcdpbeaaDoor
open Go.RowKit

def widths : List Nat := [1, 3, 7, 15, 31, 63, 127]
theorem fin_node {P : Int → Int → Prop} (h : ∀ w ∈ widths, ∀ n : Nat, n < w → P (n : Int) (w : Int)) {x w : Int} (hx : isN x w = true) : P x w := by
  have hr := isN_range hx
  obtain ⟨n, rfl⟩ := Int.eq_ofNat_of_zero_le hr.1
  have hw : w = ((w.toNat : Nat) : Int) := by omega
  have hm : w.toNat ∈ widths := by
    unfold isN whole at hx
    simp at hx
    simp [widths]
    omega
  have := h _ hm n (by omega)
  rw [← hw] at this
  exact this

theorem Left_out {x w : Int} (h : isN x w = false) : Left x w = -1 := by simp [Left, h]
theorem Right_out {x w : Int} (h : isN x w = false) : Right x w = -1 := by simp [Right, h]
theorem Parent_out {x w : Int} (h : isN x w = false) : Parent x w = -1 := by simp [Parent, h]
theorem Sibling_out {x w : Int} (h : isN x w = false) : Sibling x w = -1 := by simp [Sibling, h]

def Back (x w : Int) : Prop :=
  (x % 2 = 0 → Left x w = -1 ∧ Right x w = -1 ∧ lvl x = 0) ∧
  (x % 2 = 1 → 0 < lvl x ∧ lvl x ≤ 6 ∧ isN (Left x w) w = true ∧ isN (Right x w) w = true ∧ Left x w < x ∧ x < Right x w ∧ Parent (Left x w) w = x ∧ Parent (Right x w) w = x ∧
    Sibling (Left x w) w = Right x w ∧ Sibling (Right x w) w = Left x w ∧ lvl (Left x w) = lvl x - 1 ∧ lvl (Right x w) = lvl x - 1 ∧ x - Left x w = Right x w - x ∧ 0 ≤ Left x w ∧ Right x w < 127)
instance (x w : Int) : Decidable (Back x w) := by unfold Back; infer_instance
theorem back_at {x w : Int} (h : isN x w = true) : Back x w := fin_node (P := Back) (by decide +kernel) h

def Upw (x w : Int) : Prop :=
  (x ≠ root w → isN (Parent x w) w = true ∧ lvl (Parent x w) = lvl x + 1 ∧ (Left (Parent x w) w = x ∨ Right (Parent x w) w = x) ∧ lvl x ≤ 5 ∧ 0 ≤ lvl x ∧ lvl x < lvl (root w)) ∧
  (x = root w → Parent x w = -1 ∧ Sibling x w = -1)
instance (x w : Int) : Decidable (Upw x w) := by unfold Upw; infer_instance
theorem up_at {x w : Int} (h : isN x w = true) : Upw x w := fin_node (P := Upw) (by decide +kernel) h

def Grows (x w : Int) : Prop :=
  whole (2 * w + 1) = true → Left x w = Left x (2 * w + 1) ∧ Right x w = Right x (2 * w + 1) ∧
    (x = root w → Parent x (2 * w + 1) = root (2 * w + 1) ∧ Left (root (2 * w + 1)) (2 * w + 1) = x) ∧
    (x ≠ root w → Parent x w = Parent x (2 * w + 1) ∧ Sibling x w = Sibling x (2 * w + 1))
instance (x w : Int) : Decidable (Grows x w) := by unfold Grows; infer_instance
theorem grows_at {x w : Int} (h : isN x w = true) : Grows x w := fin_node (P := Grows) (by decide +kernel) h

def Leaves (x w : Int) : Prop :=
  0 ≤ lvl x ∧ lvl x ≤ 6 ∧ 0 ≤ lvl (root w) ∧ lvl (root w) ≤ 6 ∧ (x % 2 = 0 ↔ lvl x = 0) ∧ 2 * (2 : Int) ^ (lvl (root w)).toNat - 1 = w ∧ 0 ≤ x - ((2 : Int) ^ (lvl x).toNat - 1) ∧ x + ((2 : Int) ^ (lvl x).toNat - 1) < w ∧
    (x - ((2 : Int) ^ (lvl x).toNat - 1)) % (2 * (2 : Int) ^ (lvl x).toNat) = 0
instance (x w : Int) : Decidable (Leaves x w) := by unfold Leaves; infer_instance
theorem leaves_at {x w : Int} (h : isN x w = true) : Leaves x w := fin_node (P := Leaves) (by decide +kernel) h

def Within (x w : Int) : Prop :=
  x < (w - 1) / 2 → 3 ≤ w →
    (0 ≤ Left x w → Left (x + (w - 1) / 2 + 1) w = Left x w + (w - 1) / 2 + 1 ∧ Right (x + (w - 1) / 2 + 1) w = Right x w + (w - 1) / 2 + 1) ∧
    (x = root ((w - 1) / 2) → Parent x w = root w ∧ Parent (x + (w - 1) / 2 + 1) w = root w ∧ Sibling x w = x + (w - 1) / 2 + 1) ∧
    (x ≠ root ((w - 1) / 2) → Parent (x + (w - 1) / 2 + 1) w = Parent x w + (w - 1) / 2 + 1 ∧ Sibling (x + (w - 1) / 2 + 1) w = Sibling x w + (w - 1) / 2 + 1)
    ∧ -1 ≤ Left x w ∧ Left x w < 127 ∧ -1 ≤ Right x w ∧ Right x w < 127 ∧ -1 ≤ Parent x w ∧ Parent x w < 127 ∧ -1 ≤ Sibling x w ∧ Sibling x w < 127
instance (x w : Int) : Decidable (Within x w) := by unfold Within; infer_instance
theorem within_at {x w : Int} (h : isN x w = true) : Within x w := fin_node (P := Within) (by decide +kernel) h

end Go.Proofs.YtgfplpkmcdpbeaaDoor
