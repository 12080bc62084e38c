/- The contracts of package index in one form: the world's orders have been drawn, and the table lies as it lay. And what the example of layer 5 answers. -/
import Derived.Test.YtgfplpkmcdpbeaaDoorBase
namespace Go.Proofs.YtgfplpkmcdpbeaaDoor
open Go.RowKit

structure G (W0 W : World) : Prop where
  dr : Dr W0 W
  tab : Tab W
theorem G.refl {W : World} (h : Tab W) : G W W := ⟨Dr.refl _, h⟩
theorem G.next {W0 W W' : World} (h : G W0 W) (d : Dr W W') : G W0 W' := ⟨h.dr.trans d, h.tab.dr d⟩
theorem G.drewN {W0 W : World} (h : G W0 W) (n : Nat) : G W0 (W.drewN n) := h.next ((Dr.refl _).step n)
theorem G.drew {W0 W : World} (h : G W0 W) : G W0 W.drew := h.next (Dr.refl _).one

theorem whole_g (w : Int) (W0 W : World) (h : G W0 W) : Calls Tryd.prog 16 #[.int .i64 w] W fun e W' => e = .returned (.bool (whole w)) ∧ G W0 W' :=
  (whole_any w W).mono fun _ _ ⟨a, b⟩ => ⟨a, b ▸ h⟩
theorem is_g (x w : Int) (W0 W : World) (h : G W0 W) : Calls Tryd.prog 18 #[.int .i64 x, .int .i64 w] W fun e W' => e = .returned (.bool (isN x w)) ∧ G W0 W' :=
  (is_any x w W).mono fun _ _ ⟨a, b⟩ => ⟨a, b ▸ h⟩
theorem level_g (x : Int) (W0 W : World) (h : G W0 W) : Calls Tryd.prog 20 #[.int .i64 x] W fun e W' => e = .returned (.int .i64 (lvl x)) ∧ G W0 W' :=
  (level_any x W h.tab).mono fun _ _ ⟨a, b⟩ => ⟨a, b ▸ h⟩
theorem root_g (w : Int) (W0 W : World) (h : G W0 W) : Calls Tryd.prog 22 #[.int .i64 w] W fun e W' => e = .returned (.int .i64 (root w)) ∧ G W0 W' :=
  (root_any w W).mono fun _ _ ⟨a, b⟩ => ⟨a, b ▸ h⟩
theorem left_g (x w : Int) (W0 W : World) (h : G W0 W) : Calls Tryd.prog 24 #[.int .i64 x, .int .i64 w] W fun e W' => e = .returned (.int .i64 (Left x w)) ∧ G W0 W' :=
  (left_any x w W h.tab).mono fun _ _ ⟨a, b⟩ => ⟨a, h.next b⟩
theorem right_g (x w : Int) (W0 W : World) (h : G W0 W) : Calls Tryd.prog 26 #[.int .i64 x, .int .i64 w] W fun e W' => e = .returned (.int .i64 (Right x w)) ∧ G W0 W' :=
  (right_any x w W h.tab).mono fun _ _ ⟨a, b⟩ => ⟨a, h.next b⟩
theorem parent_g (x w : Int) (W0 W : World) (h : G W0 W) : Calls Tryd.prog 28 #[.int .i64 x, .int .i64 w] W fun e W' => e = .returned (.int .i64 (Parent x w)) ∧ G W0 W' :=
  (parent_any x w W h.tab).mono fun _ _ ⟨a, b⟩ => ⟨a, h.next b⟩
theorem sibling_g (x w : Int) (W0 W : World) (h : G W0 W) : Calls Tryd.prog 30 #[.int .i64 x, .int .i64 w] W fun e W' => e = .returned (.int .i64 (Sibling x w)) ∧ G W0 W' :=
  (sibling_any x w W h.tab).mono fun _ _ ⟨a, b⟩ => ⟨a, h.next b⟩

set_option maxHeartbeats 1000000 in
theorem awake5_g (W0 W : World) (h : G W0 W) : Calls Tryd.prog 15 #[] W fun e W' => e = .returned (.bool true) ∧ G W0 W' := by
  have e1 : root 7 = 3 := by decide
  have e2 : Left 3 7 = 1 := by decide
  have e3 : Right 3 7 = 5 := by decide
  have e4 : Parent 4 7 = 5 := by decide
  have e5 : Sibling 4 7 = 6 := by decide
  have e6 : whole 127 = true := by decide
  have e7 : whole 5 = false := by decide
  have e8 : lvl 3 = 2 := by decide
  have e9 : isN 6 7 = true := by decide
  have e10 : isN 7 7 = false := by decide
  go_enter Tryd.func15, Tryd.ntmps15
  go_wp2_with (first
    | (go_at_call 22; refine (root_g _ _ _ (by assumption)).mono ?_; rintro e w' ⟨rfl, hg⟩)
    | (go_at_call 24; refine (left_g _ _ _ _ (by assumption)).mono ?_; rintro e w' ⟨rfl, hg⟩)
    | (go_at_call 26; refine (right_g _ _ _ _ (by assumption)).mono ?_; rintro e w' ⟨rfl, hg⟩)
    | (go_at_call 28; refine (parent_g _ _ _ _ (by assumption)).mono ?_; rintro e w' ⟨rfl, hg⟩)
    | (go_at_call 30; refine (sibling_g _ _ _ _ (by assumption)).mono ?_; rintro e w' ⟨rfl, hg⟩)
    | (go_at_call 16; refine (whole_g _ _ _ (by assumption)).mono ?_; rintro e w' ⟨rfl, hg⟩)
    | (go_at_call 20; refine (level_g _ _ _ (by assumption)).mono ?_; rintro e w' ⟨rfl, hg⟩)
    | (go_at_call 18; refine (is_g _ _ _ _ (by assumption)).mono ?_; rintro e w' ⟨rfl, hg⟩))
  go_ret
  exact ⟨rfl, by assumption⟩

end Go.Proofs.YtgfplpkmcdpbeaaDoor
