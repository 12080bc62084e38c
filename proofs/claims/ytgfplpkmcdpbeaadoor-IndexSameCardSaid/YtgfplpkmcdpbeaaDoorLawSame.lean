/- The walk of a law of layer 5: it returns true, whatever the input. -/
import Derived.Test.YtgfplpkmcdpbeaaDoorGr
import Derived.Test.YtgfplpkmcdpbeaaDoorFin
namespace Go.Proofs.YtgfplpkmcdpbeaaDoor
open Go.RowKit

set_option maxHeartbeats 4000000 in
theorem same_in (x w : Int) (hi : isN x w = true) (W0 : World) (h : G W0 W0) :
    Calls Tryd.prog 8 #[.int .i64 x, .int .i64 w] W0 fun e W' => e = .returned (.bool true) ∧ G W0 W' := by
  have hf := within_at hi
  obtain ⟨r0, r1, r2, r3⟩ := isN_range hi
  unfold Within at hf
  by_cases hl : x < (w - 1) / 2
  · by_cases h3 : 3 ≤ w
    · obtain ⟨hf1, hf2, hf3, b1, b2, b3, b4, b5, b6, b7, b8⟩ := hf hl h3
      clear hf
      by_cases hx : x = root ((w - 1) / 2)
      · obtain ⟨e3, e4, e5⟩ := hf2 hx
        clear hf2 hf3
        have hq : (x == root ((w - 1) / 2)) = true := by simp [← hx]
        have HQ := Lib.hid hx
        clear hx
        by_cases hL : 0 ≤ Left x w
        · obtain ⟨e1, e2⟩ := hf1 hL
          clear hf1
          go_enter Tryd.func8, Tryd.ntmps8
          go_wp2_with (first
                | (go_at_call 15; refine (awake5_g _ _ (by assumption)).mono ?_; rintro e w' ⟨rfl, hg⟩)
                | (go_at_call 24; refine (left_g _ _ _ _ (by assumption)).mono ?_; rintro e w' ⟨rfl, hg⟩)
                | (go_at_call 26; refine (right_g _ _ _ _ (by assumption)).mono ?_; rintro e w' ⟨rfl, hg⟩)
                | (go_at_call 28; refine (parent_g _ _ _ _ (by assumption)).mono ?_; rintro e w' ⟨rfl, hg⟩)
                | (go_at_call 30; refine (sibling_g _ _ _ _ (by assumption)).mono ?_; rintro e w' ⟨rfl, hg⟩)
                | (go_at_call 22; refine (root_g _ _ _ (by assumption)).mono ?_; rintro e w' ⟨rfl, hg⟩)
                | (go_at_call 20; refine (level_g _ _ _ (by assumption)).mono ?_; rintro e w' ⟨rfl, hg⟩)
                | (go_at_call 16; refine (whole_g _ _ _ (by assumption)).mono ?_; rintro e w' ⟨rfl, hg⟩)
                | (go_at_call 18; refine (is_g _ _ _ _ (by assumption)).mono ?_; rintro e w' ⟨rfl, hg⟩))
          go_ret
          exact ⟨rfl, by assumption⟩
        · clear hf1
          go_enter Tryd.func8, Tryd.ntmps8
          go_wp2_with (first
                | (go_at_call 15; refine (awake5_g _ _ (by assumption)).mono ?_; rintro e w' ⟨rfl, hg⟩)
                | (go_at_call 24; refine (left_g _ _ _ _ (by assumption)).mono ?_; rintro e w' ⟨rfl, hg⟩)
                | (go_at_call 26; refine (right_g _ _ _ _ (by assumption)).mono ?_; rintro e w' ⟨rfl, hg⟩)
                | (go_at_call 28; refine (parent_g _ _ _ _ (by assumption)).mono ?_; rintro e w' ⟨rfl, hg⟩)
                | (go_at_call 30; refine (sibling_g _ _ _ _ (by assumption)).mono ?_; rintro e w' ⟨rfl, hg⟩)
                | (go_at_call 22; refine (root_g _ _ _ (by assumption)).mono ?_; rintro e w' ⟨rfl, hg⟩)
                | (go_at_call 20; refine (level_g _ _ _ (by assumption)).mono ?_; rintro e w' ⟨rfl, hg⟩)
                | (go_at_call 16; refine (whole_g _ _ _ (by assumption)).mono ?_; rintro e w' ⟨rfl, hg⟩)
                | (go_at_call 18; refine (is_g _ _ _ _ (by assumption)).mono ?_; rintro e w' ⟨rfl, hg⟩))
          go_ret
          exact ⟨rfl, by assumption⟩
      · obtain ⟨e3, e4⟩ := hf3 hx
        clear hf2 hf3
        have hq : (x == root ((w - 1) / 2)) = false := by simp [hx]
        clear hx
        by_cases hL : 0 ≤ Left x w
        · obtain ⟨e1, e2⟩ := hf1 hL
          clear hf1
          go_enter Tryd.func8, Tryd.ntmps8
          go_wp2_with (first
                | (go_at_call 15; refine (awake5_g _ _ (by assumption)).mono ?_; rintro e w' ⟨rfl, hg⟩)
                | (go_at_call 24; refine (left_g _ _ _ _ (by assumption)).mono ?_; rintro e w' ⟨rfl, hg⟩)
                | (go_at_call 26; refine (right_g _ _ _ _ (by assumption)).mono ?_; rintro e w' ⟨rfl, hg⟩)
                | (go_at_call 28; refine (parent_g _ _ _ _ (by assumption)).mono ?_; rintro e w' ⟨rfl, hg⟩)
                | (go_at_call 30; refine (sibling_g _ _ _ _ (by assumption)).mono ?_; rintro e w' ⟨rfl, hg⟩)
                | (go_at_call 22; refine (root_g _ _ _ (by assumption)).mono ?_; rintro e w' ⟨rfl, hg⟩)
                | (go_at_call 20; refine (level_g _ _ _ (by assumption)).mono ?_; rintro e w' ⟨rfl, hg⟩)
                | (go_at_call 16; refine (whole_g _ _ _ (by assumption)).mono ?_; rintro e w' ⟨rfl, hg⟩)
                | (go_at_call 18; refine (is_g _ _ _ _ (by assumption)).mono ?_; rintro e w' ⟨rfl, hg⟩))
          go_ret
          exact ⟨rfl, by assumption⟩
        · clear hf1
          go_enter Tryd.func8, Tryd.ntmps8
          go_wp2_with (first
                | (go_at_call 15; refine (awake5_g _ _ (by assumption)).mono ?_; rintro e w' ⟨rfl, hg⟩)
                | (go_at_call 24; refine (left_g _ _ _ _ (by assumption)).mono ?_; rintro e w' ⟨rfl, hg⟩)
                | (go_at_call 26; refine (right_g _ _ _ _ (by assumption)).mono ?_; rintro e w' ⟨rfl, hg⟩)
                | (go_at_call 28; refine (parent_g _ _ _ _ (by assumption)).mono ?_; rintro e w' ⟨rfl, hg⟩)
                | (go_at_call 30; refine (sibling_g _ _ _ _ (by assumption)).mono ?_; rintro e w' ⟨rfl, hg⟩)
                | (go_at_call 22; refine (root_g _ _ _ (by assumption)).mono ?_; rintro e w' ⟨rfl, hg⟩)
                | (go_at_call 20; refine (level_g _ _ _ (by assumption)).mono ?_; rintro e w' ⟨rfl, hg⟩)
                | (go_at_call 16; refine (whole_g _ _ _ (by assumption)).mono ?_; rintro e w' ⟨rfl, hg⟩)
                | (go_at_call 18; refine (is_g _ _ _ _ (by assumption)).mono ?_; rintro e w' ⟨rfl, hg⟩))
          go_ret
          exact ⟨rfl, by assumption⟩
    · exfalso
      omega
  · clear hf
    go_enter Tryd.func8, Tryd.ntmps8
    go_wp2_with (first
          | (go_at_call 15; refine (awake5_g _ _ (by assumption)).mono ?_; rintro e w' ⟨rfl, hg⟩)
          | (go_at_call 24; refine (left_g _ _ _ _ (by assumption)).mono ?_; rintro e w' ⟨rfl, hg⟩)
          | (go_at_call 26; refine (right_g _ _ _ _ (by assumption)).mono ?_; rintro e w' ⟨rfl, hg⟩)
          | (go_at_call 28; refine (parent_g _ _ _ _ (by assumption)).mono ?_; rintro e w' ⟨rfl, hg⟩)
          | (go_at_call 30; refine (sibling_g _ _ _ _ (by assumption)).mono ?_; rintro e w' ⟨rfl, hg⟩)
          | (go_at_call 22; refine (root_g _ _ _ (by assumption)).mono ?_; rintro e w' ⟨rfl, hg⟩)
          | (go_at_call 20; refine (level_g _ _ _ (by assumption)).mono ?_; rintro e w' ⟨rfl, hg⟩)
          | (go_at_call 16; refine (whole_g _ _ _ (by assumption)).mono ?_; rintro e w' ⟨rfl, hg⟩)
          | (go_at_call 18; refine (is_g _ _ _ _ (by assumption)).mono ?_; rintro e w' ⟨rfl, hg⟩))
    go_ret
    exact ⟨rfl, by assumption⟩

set_option maxHeartbeats 4000000 in
theorem same_walk (x w : Int) (W0 : World) (h : G W0 W0) :
    Calls Tryd.prog 8 #[.int .i64 x, .int .i64 w] W0 fun e W' => e = .returned (.bool true) ∧ G W0 W' := by
  cases hi : isN x w
  · go_enter Tryd.func8, Tryd.ntmps8
    go_wp2_with (first
          | (go_at_call 15; refine (awake5_g _ _ (by assumption)).mono ?_; rintro e w' ⟨rfl, hg⟩)
          | (go_at_call 24; refine (left_g _ _ _ _ (by assumption)).mono ?_; rintro e w' ⟨rfl, hg⟩)
          | (go_at_call 26; refine (right_g _ _ _ _ (by assumption)).mono ?_; rintro e w' ⟨rfl, hg⟩)
          | (go_at_call 28; refine (parent_g _ _ _ _ (by assumption)).mono ?_; rintro e w' ⟨rfl, hg⟩)
          | (go_at_call 30; refine (sibling_g _ _ _ _ (by assumption)).mono ?_; rintro e w' ⟨rfl, hg⟩)
          | (go_at_call 22; refine (root_g _ _ _ (by assumption)).mono ?_; rintro e w' ⟨rfl, hg⟩)
          | (go_at_call 20; refine (level_g _ _ _ (by assumption)).mono ?_; rintro e w' ⟨rfl, hg⟩)
          | (go_at_call 16; refine (whole_g _ _ _ (by assumption)).mono ?_; rintro e w' ⟨rfl, hg⟩)
          | (go_at_call 18; refine (is_g _ _ _ _ (by assumption)).mono ?_; rintro e w' ⟨rfl, hg⟩))
    go_ret
    exact ⟨rfl, by assumption⟩
  · exact same_in x w hi W0 h

theorem same_w (x w : Int) (W : World) (hT : Tab W) : Calls Tryd.prog 8 #[.int .i64 x, .int .i64 w] W fun e W' => e = .returned (.bool true) ∧ Grown W W' :=
  (same_walk x w W (G.refl hT)).mono fun _ _ ⟨a, b⟩ => ⟨a, dr_grown b.dr⟩

end Go.Proofs.YtgfplpkmcdpbeaaDoor
