/- The walk of a law of layer 5: it returns true, whatever the input. -/
import Derived.Test.YtgfplpkmcdpbeaaDoorRefB
namespace Go.Proofs.YtgfplpkmcdpbeaaDoor
open Go.RowKit

set_option maxHeartbeats 4000000 in
theorem is_walk (x w : Int) (W0 : World) (h : G W0 W0) :
    Calls Tryd.prog 3 #[.int .i64 x, .int .i64 w] W0 fun e W' => e = .returned (.bool true) ∧ G W0 W' := by
  go_enter Tryd.func3, Tryd.ntmps3
  go_wp2_with (first
    | (go_at_call 15; refine (awake5_g _ _ (by assumption)).mono ?_; rintro e w' ⟨rfl, hg⟩)
    | (go_at_call 24; refine (left_g _ _ _ _ (by assumption)).mono ?_; rintro e w' ⟨rfl, hg⟩)
    | (go_at_call 26; refine (right_g _ _ _ _ (by assumption)).mono ?_; rintro e w' ⟨rfl, hg⟩)
    | (go_at_call 28; refine (parent_g _ _ _ _ (by assumption)).mono ?_; rintro e w' ⟨rfl, hg⟩)
    | (go_at_call 30; refine (sibling_g _ _ _ _ (by assumption)).mono ?_; rintro e w' ⟨rfl, hg⟩)
    | (go_at_call 22; refine (root_g _ _ _ (by assumption)).mono ?_; rintro e w' ⟨rfl, hg⟩)
    | (go_at_call 20; refine (level_g _ _ _ (by assumption)).mono ?_; rintro e w' ⟨rfl, hg⟩)
    | (go_at_call 16; refine (whole_g _ _ _ (by assumption)).mono ?_; rintro e w' ⟨rfl, hg⟩)
    | (go_at_call 18; refine (is_g _ _ _ _ (by assumption)).mono ?_; rintro e w' ⟨rfl, hg⟩)
    | (go_at_call 17; refine (rwhole_any _ _ ).mono ?_; rintro e w' ⟨rfl, rfl⟩)
    | (go_at_call 19; refine (ris_any _ _ _ ).mono ?_; rintro e w' ⟨rfl, rfl⟩)
    | (go_at_call 21; refine (rlevel_any _ _ ).mono ?_; rintro e w' ⟨rfl, rfl⟩)
    | (go_at_call 23; refine (rroot_any _ _ ).mono ?_; rintro e w' ⟨rfl, rfl⟩)
    | (go_at_call 25; refine (rleft_any _ _ _ ).mono ?_; rintro e w' ⟨rfl, rfl⟩)
    | (go_at_call 27; refine (rright_any _ _ _ ).mono ?_; rintro e w' ⟨rfl, rfl⟩)
    | (go_at_call 29; refine (rparent_any _ _ _ ).mono ?_; rintro e w' ⟨rfl, rfl⟩)
    | (go_at_call 31; refine (rsibling_any _ _ _ ).mono ?_; rintro e w' ⟨rfl, rfl⟩))
  go_ret
  exact ⟨rfl, by assumption⟩

theorem is_w (x w : Int) (W : World) (hT : Tab W) : Calls Tryd.prog 3 #[.int .i64 x, .int .i64 w] W fun e W' => e = .returned (.bool true) ∧ Grown W W' :=
  (is_walk x w W (G.refl hT)).mono fun _ _ ⟨a, b⟩ => ⟨a, dr_grown b.dr⟩

end Go.Proofs.YtgfplpkmcdpbeaaDoor
