/- The walk of a law of layer 5: it returns true, whatever the input. -/
import Derived.Test.YtgfplpkmcdpbeaaDoorGr
import Derived.Test.YtgfplpkmcdpbeaaDoorFin
namespace Go.Proofs.YtgfplpkmcdpbeaaDoor
open Go.RowKit

set_option maxHeartbeats 2000000 in
theorem grows_walk (x w : Int) (W0 : World) (h : G W0 W0) :
    Calls Tryd.prog 6 #[.int .i64 x, .int .i64 w] W0 fun e W' => e = .returned (.bool true) ∧ G W0 W' := by
  cases hi : isN x w
  · go_enter Tryd.func6, Tryd.ntmps6
    go_wp2_with (first
          | (go_at_call 15; refine (awake5_g _ _ (by assumption)).mono ?_; rintro e w' ⟨rfl, hg⟩)
          | (go_at_call 24; refine (left_g _ _ _ _ (by assumption)).mono ?_; rintro e w' ⟨rfl, hg⟩)
          | (go_at_call 26; refine (right_g _ _ _ _ (by assumption)).mono ?_; rintro e w' ⟨rfl, hg⟩)
          | (go_at_call 28; refine (parent_g _ _ _ _ (by assumption)).mono ?_; rintro e w' ⟨rfl, hg⟩)
          | (go_at_call 30; refine (sibling_g _ _ _ _ (by assumption)).mono ?_; rintro e w' ⟨rfl, hg⟩)
          | (go_at_call 22; refine (root_g _ _ _ (by assumption)).mono ?_; rintro e w' ⟨rfl, hg⟩)
          | (go_at_call 20; refine (level_g _ _ _ (by assumption)).mono ?_; rintro e w' ⟨rfl, hg⟩)
          | (go_at_call 16; refine (whole_g _ _ _ (by assumption)).mono ?_; rintro e w' ⟨rfl, hg⟩)
          | (go_at_call 18; refine (is_g _ _ _ _ (by assumption)).mono ?_; rintro e w' ⟨rfl, hg⟩))
    go_ret
    exact ⟨rfl, by assumption⟩
  · have hf := grows_at hi
    obtain ⟨r0, r1, r2, r3⟩ := isN_range hi
    unfold Grows at hf
    cases hv : whole (2 * w + 1)
    · clear hf
      go_enter Tryd.func6, Tryd.ntmps6
      go_wp2_with (first
            | (go_at_call 15; refine (awake5_g _ _ (by assumption)).mono ?_; rintro e w' ⟨rfl, hg⟩)
            | (go_at_call 24; refine (left_g _ _ _ _ (by assumption)).mono ?_; rintro e w' ⟨rfl, hg⟩)
            | (go_at_call 26; refine (right_g _ _ _ _ (by assumption)).mono ?_; rintro e w' ⟨rfl, hg⟩)
            | (go_at_call 28; refine (parent_g _ _ _ _ (by assumption)).mono ?_; rintro e w' ⟨rfl, hg⟩)
            | (go_at_call 30; refine (sibling_g _ _ _ _ (by assumption)).mono ?_; rintro e w' ⟨rfl, hg⟩)
            | (go_at_call 22; refine (root_g _ _ _ (by assumption)).mono ?_; rintro e w' ⟨rfl, hg⟩)
            | (go_at_call 20; refine (level_g _ _ _ (by assumption)).mono ?_; rintro e w' ⟨rfl, hg⟩)
            | (go_at_call 16; refine (whole_g _ _ _ (by assumption)).mono ?_; rintro e w' ⟨rfl, hg⟩)
            | (go_at_call 18; refine (is_g _ _ _ _ (by assumption)).mono ?_; rintro e w' ⟨rfl, hg⟩))
      go_ret
      exact ⟨rfl, by assumption⟩
    · obtain ⟨e1, e2, hf1, hf2⟩ := hf hv
      clear hf
      by_cases hx : x = root w
      · obtain ⟨e3, e4⟩ := hf1 hx
        clear hf1 hf2
        subst hx
        go_enter Tryd.func6, Tryd.ntmps6
        go_wp2_with (first
              | (go_at_call 15; refine (awake5_g _ _ (by assumption)).mono ?_; rintro e w' ⟨rfl, hg⟩)
              | (go_at_call 24; refine (left_g _ _ _ _ (by assumption)).mono ?_; rintro e w' ⟨rfl, hg⟩)
              | (go_at_call 26; refine (right_g _ _ _ _ (by assumption)).mono ?_; rintro e w' ⟨rfl, hg⟩)
              | (go_at_call 28; refine (parent_g _ _ _ _ (by assumption)).mono ?_; rintro e w' ⟨rfl, hg⟩)
              | (go_at_call 30; refine (sibling_g _ _ _ _ (by assumption)).mono ?_; rintro e w' ⟨rfl, hg⟩)
              | (go_at_call 22; refine (root_g _ _ _ (by assumption)).mono ?_; rintro e w' ⟨rfl, hg⟩)
              | (go_at_call 20; refine (level_g _ _ _ (by assumption)).mono ?_; rintro e w' ⟨rfl, hg⟩)
              | (go_at_call 16; refine (whole_g _ _ _ (by assumption)).mono ?_; rintro e w' ⟨rfl, hg⟩)
              | (go_at_call 18; refine (is_g _ _ _ _ (by assumption)).mono ?_; rintro e w' ⟨rfl, hg⟩))
        go_ret
        exact ⟨rfl, by assumption⟩
      · obtain ⟨e3, e4⟩ := hf2 hx
        clear hf1 hf2
        have hq : (x == root w) = false := by simp [hx]
        clear hx
        go_enter Tryd.func6, Tryd.ntmps6
        go_wp2_with (first
              | (go_at_call 15; refine (awake5_g _ _ (by assumption)).mono ?_; rintro e w' ⟨rfl, hg⟩)
              | (go_at_call 24; refine (left_g _ _ _ _ (by assumption)).mono ?_; rintro e w' ⟨rfl, hg⟩)
              | (go_at_call 26; refine (right_g _ _ _ _ (by assumption)).mono ?_; rintro e w' ⟨rfl, hg⟩)
              | (go_at_call 28; refine (parent_g _ _ _ _ (by assumption)).mono ?_; rintro e w' ⟨rfl, hg⟩)
              | (go_at_call 30; refine (sibling_g _ _ _ _ (by assumption)).mono ?_; rintro e w' ⟨rfl, hg⟩)
              | (go_at_call 22; refine (root_g _ _ _ (by assumption)).mono ?_; rintro e w' ⟨rfl, hg⟩)
              | (go_at_call 20; refine (level_g _ _ _ (by assumption)).mono ?_; rintro e w' ⟨rfl, hg⟩)
              | (go_at_call 16; refine (whole_g _ _ _ (by assumption)).mono ?_; rintro e w' ⟨rfl, hg⟩)
              | (go_at_call 18; refine (is_g _ _ _ _ (by assumption)).mono ?_; rintro e w' ⟨rfl, hg⟩))
        go_ret
        exact ⟨rfl, by assumption⟩

theorem grows_w (x w : Int) (W : World) (hT : Tab W) : Calls Tryd.prog 6 #[.int .i64 x, .int .i64 w] W fun e W' => e = .returned (.bool true) ∧ Grown W W' :=
  (grows_walk x w W (G.refl hT)).mono fun _ _ ⟨a, b⟩ => ⟨a, dr_grown b.dr⟩

end Go.Proofs.YtgfplpkmcdpbeaaDoor
