/- The walks of the laws of layer 5 that loop nowhere: each returns true, whatever the input. -/
import Derived.Test.YtgfplpkmcdpbeaaDoorG
import Derived.Test.YtgfplpkmcdpbeaaDoorFin
namespace Go.Proofs.YtgfplpkmcdpbeaaDoor
open Go.RowKit

theorem Dr.grown {w w' : World} (h : Dr w w') : Grown w w' := by
  obtain ⟨n, rfl⟩ := h
  induction n with
  | zero => exact Grown.refl _
  | succ n ih => rw [← World.drew_drewN]; exact Grown.drew ih

set_option maxHeartbeats 2000000 in
theorem back_walk (x w : Int) (W0 : World) (h : G W0 W0) :
    Calls Tryd.prog 4 #[.int .i64 x, .int .i64 w] W0 fun e W' => e = .returned (.bool true) ∧ G W0 W' := by
  cases hi : isN x w
  · have e1 := Left_out hi
    have e2 := Right_out hi
    have e3 := Parent_out hi
    have e4 := Sibling_out hi
    go_enter Tryd.func4, Tryd.ntmps4
    go_wp2_with (first
      | (go_at_call 15; refine (awake5_g _ _ (by assumption)).mono ?_; rintro e w' ⟨rfl, hg⟩)
      | (go_at_call 24; refine (left_g _ _ _ _ (by assumption)).mono ?_; rintro e w' ⟨rfl, hg⟩)
      | (go_at_call 26; refine (right_g _ _ _ _ (by assumption)).mono ?_; rintro e w' ⟨rfl, hg⟩)
      | (go_at_call 28; refine (parent_g _ _ _ _ (by assumption)).mono ?_; rintro e w' ⟨rfl, hg⟩)
      | (go_at_call 30; refine (sibling_g _ _ _ _ (by assumption)).mono ?_; rintro e w' ⟨rfl, hg⟩)
      | (go_at_call 18; refine (is_g _ _ _ _ (by assumption)).mono ?_; rintro e w' ⟨rfl, hg⟩))
    go_ret
    exact ⟨rfl, by assumption⟩
  · obtain ⟨hb1, hb2⟩ := back_at hi
    obtain ⟨r0, r1, r2, r3⟩ := isN_range hi
    by_cases hp : x % 2 = 0
    · obtain ⟨e1, e2, e3⟩ := hb1 hp
      clear hb1 hb2
      go_enter Tryd.func4, Tryd.ntmps4
      go_wp2_with (first
        | (go_at_call 15; refine (awake5_g _ _ (by assumption)).mono ?_; rintro e w' ⟨rfl, hg⟩)
        | (go_at_call 24; refine (left_g _ _ _ _ (by assumption)).mono ?_; rintro e w' ⟨rfl, hg⟩)
        | (go_at_call 26; refine (right_g _ _ _ _ (by assumption)).mono ?_; rintro e w' ⟨rfl, hg⟩)
        | (go_at_call 20; refine (level_g _ _ _ (by assumption)).mono ?_; rintro e w' ⟨rfl, hg⟩)
        | (go_at_call 18; refine (is_g _ _ _ _ (by assumption)).mono ?_; rintro e w' ⟨rfl, hg⟩))
      go_ret
      exact ⟨rfl, by assumption⟩
    · have hp1 : x % 2 = 1 := by omega
      obtain ⟨e1, e2, e3, e4, e5, e6, e7, e8, e9, e10, e11, e12, e13, e14, e15⟩ := hb2 hp1
      clear hb1 hb2 hp
      go_enter Tryd.func4, Tryd.ntmps4
      go_wp2_with (first
        | (go_at_call 15; refine (awake5_g _ _ (by assumption)).mono ?_; rintro e w' ⟨rfl, hg⟩)
        | (go_at_call 24; refine (left_g _ _ _ _ (by assumption)).mono ?_; rintro e w' ⟨rfl, hg⟩)
        | (go_at_call 26; refine (right_g _ _ _ _ (by assumption)).mono ?_; rintro e w' ⟨rfl, hg⟩)
        | (go_at_call 28; refine (parent_g _ _ _ _ (by assumption)).mono ?_; rintro e w' ⟨rfl, hg⟩)
        | (go_at_call 30; refine (sibling_g _ _ _ _ (by assumption)).mono ?_; rintro e w' ⟨rfl, hg⟩)
        | (go_at_call 20; refine (level_g _ _ _ (by assumption)).mono ?_; rintro e w' ⟨rfl, hg⟩)
        | (go_at_call 18; refine (is_g _ _ _ _ (by assumption)).mono ?_; rintro e w' ⟨rfl, hg⟩))
      go_ret
      exact ⟨rfl, by assumption⟩

theorem back_w (x w : Int) (W : World) (hT : Tab W) : Calls Tryd.prog 4 #[.int .i64 x, .int .i64 w] W fun e W' => e = .returned (.bool true) ∧ Grown W W' :=
  (back_walk x w W (G.refl hT)).mono fun _ _ ⟨a, b⟩ => ⟨a, b.dr.grown⟩

end Go.Proofs.YtgfplpkmcdpbeaaDoor
