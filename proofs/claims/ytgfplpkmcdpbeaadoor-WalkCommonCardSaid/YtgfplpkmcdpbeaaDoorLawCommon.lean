/- The walk of a law of layer 6: it returns true, whatever the input. -/
import Derived.Test.YtgfplpkmcdpbeaaDoorK
import Derived.Test.YtgfplpkmcdpbeaaDoorWays
namespace Go.Proofs.YtgfplpkmcdpbeaaDoor
open Go.RowKit

def Kids (c w : Int) : Prop := (lvl c = 0 → Left c w = -1 ∧ Right c w = -1) ∧ (0 < lvl c → isN (Left c w) w = true ∧ isN (Right c w) w = true ∧ Parent (Left c w) w = c ∧ Parent (Right c w) w = c)
instance (c w : Int) : Decidable (Kids c w) := by unfold Kids; infer_instance
theorem kids_at {c w : Int} (h : isN c w = true) : Kids c w := fin_node (P := Kids) (by decide +kernel) h

set_option maxHeartbeats 2000000 in
theorem common_out_walk (x y w : Int) (W0 : World) (h : K W0 [] W0) (ho : isN x w = false ∨ isN y w = false) :
    Calls Tryd.prog 13 #[.int .i64 x, .int .i64 y, .int .i64 w] W0 fun e W' => e = .returned (.bool true) ∧ K W0 [] W' := by
  have hc := common_out ho
  cases hx : isN x w
  · clear ho
    go_enter Tryd.func13, Tryd.ntmps13
    go_wp2_with (first
          | (go_at_call 32; refine (awake6_h _ (by assumption)).mono ?_; rintro e w' ⟨rfl, hg⟩)
          | (go_at_call 40; refine (common_k _ _ _ _ (by assumption)).mono ?_; rintro e w' ⟨rfl, hg⟩)
          | (go_at_call 42; refine (under_k _ _ _ _ (by assumption)).mono ?_; rintro e w' ⟨rfl, hg⟩)
          | (go_at_call 33; refine (below_k _ _ _ (by assumption)).mono ?_; rintro e w' ⟨rfl, hg⟩)
          | (go_at_call 24; refine (left_k _ _ _ (by assumption)).mono ?_; rintro e w' ⟨rfl, hg⟩)
          | (go_at_call 26; refine (right_k _ _ _ (by assumption)).mono ?_; rintro e w' ⟨rfl, hg⟩)
          | (go_at_call 28; refine (parent_k _ _ _ (by assumption)).mono ?_; rintro e w' ⟨rfl, hg⟩)
          | (go_at_call 30; refine (sibling_k _ _ _ (by assumption)).mono ?_; rintro e w' ⟨rfl, hg⟩)
          | (go_at_call 22; refine (root_k _ _ (by assumption)).mono ?_; rintro e w' ⟨rfl, hg⟩)
          | (go_at_call 20; refine (level_k _ _ (by assumption)).mono ?_; rintro e w' ⟨rfl, hg⟩)
          | (go_at_call 16; refine (whole_k _ _ (by assumption)).mono ?_; rintro e w' ⟨rfl, hg⟩)
          | (go_at_call 18; refine (is_k _ _ _ (by assumption)).mono ?_; rintro e w' ⟨rfl, hg⟩))
    go_ret
    exact ⟨rfl, by assumption⟩
  · have hy : isN y w = false := by
      rcases ho with h | h
      · rw [hx] at h; cases h
      · exact h
    clear ho
    go_enter Tryd.func13, Tryd.ntmps13
    go_wp2_with (first
          | (go_at_call 32; refine (awake6_h _ (by assumption)).mono ?_; rintro e w' ⟨rfl, hg⟩)
          | (go_at_call 40; refine (common_k _ _ _ _ (by assumption)).mono ?_; rintro e w' ⟨rfl, hg⟩)
          | (go_at_call 42; refine (under_k _ _ _ _ (by assumption)).mono ?_; rintro e w' ⟨rfl, hg⟩)
          | (go_at_call 33; refine (below_k _ _ _ (by assumption)).mono ?_; rintro e w' ⟨rfl, hg⟩)
          | (go_at_call 24; refine (left_k _ _ _ (by assumption)).mono ?_; rintro e w' ⟨rfl, hg⟩)
          | (go_at_call 26; refine (right_k _ _ _ (by assumption)).mono ?_; rintro e w' ⟨rfl, hg⟩)
          | (go_at_call 28; refine (parent_k _ _ _ (by assumption)).mono ?_; rintro e w' ⟨rfl, hg⟩)
          | (go_at_call 30; refine (sibling_k _ _ _ (by assumption)).mono ?_; rintro e w' ⟨rfl, hg⟩)
          | (go_at_call 22; refine (root_k _ _ (by assumption)).mono ?_; rintro e w' ⟨rfl, hg⟩)
          | (go_at_call 20; refine (level_k _ _ (by assumption)).mono ?_; rintro e w' ⟨rfl, hg⟩)
          | (go_at_call 16; refine (whole_k _ _ (by assumption)).mono ?_; rintro e w' ⟨rfl, hg⟩)
          | (go_at_call 18; refine (is_k _ _ _ (by assumption)).mono ?_; rintro e w' ⟨rfl, hg⟩))
    go_ret
    exact ⟨rfl, by assumption⟩

set_option maxHeartbeats 4000000 in
theorem common_in_walk (x y w : Int) (W0 : World) (h : K W0 [] W0) (hx : isN x w = true) (hy : isN y w = true) :
    Calls Tryd.prog 13 #[.int .i64 x, .int .i64 y, .int .i64 w] W0 fun e W' => e = .returned (.bool true) ∧ K W0 [] W' := by
  have hm := common_meet hx hy
  have hyx := common_comm hx hy
  obtain ⟨c, hc⟩ : ∃ c, common x y w = c := ⟨_, rfl⟩
  rw [hc] at hm hyx
  have m1 := hm.cx
  have m2 := hm.cy
  obtain ⟨k1, k2⟩ := kids_at hm.nc
  have hb := lvl_bound hm.nc
  have fin : ∀ (P : Prop), ((y ∈ way x w ∧ (c == y) = true) → P) → (y ∉ way x w → P) → P := fun P h1 h2 => by
    by_cases hu : y ∈ way x w
    · exact h1 ⟨hu, by simp [hm.of_under hu]⟩
    · exact h2 hu
  by_cases hz : lvl c = 0
  · obtain ⟨e1, e2⟩ := k1 hz
    clear k1 k2 hb hm hz
    refine fin _ ?_ ?_
    · rintro ⟨hu, hcy⟩
      clear fin
      go_enter Tryd.func13, Tryd.ntmps13
      go_wp2_with (first
            | (go_at_call 32; refine (awake6_h _ (by assumption)).mono ?_; rintro e w' ⟨rfl, hg⟩)
            | (go_at_call 40; refine (common_k _ _ _ _ (by assumption)).mono ?_; rintro e w' ⟨rfl, hg⟩)
            | (go_at_call 42; refine (under_k _ _ _ _ (by assumption)).mono ?_; rintro e w' ⟨rfl, hg⟩)
            | (go_at_call 33; refine (below_k _ _ _ (by assumption)).mono ?_; rintro e w' ⟨rfl, hg⟩)
            | (go_at_call 24; refine (left_k _ _ _ (by assumption)).mono ?_; rintro e w' ⟨rfl, hg⟩)
            | (go_at_call 26; refine (right_k _ _ _ (by assumption)).mono ?_; rintro e w' ⟨rfl, hg⟩)
            | (go_at_call 28; refine (parent_k _ _ _ (by assumption)).mono ?_; rintro e w' ⟨rfl, hg⟩)
            | (go_at_call 30; refine (sibling_k _ _ _ (by assumption)).mono ?_; rintro e w' ⟨rfl, hg⟩)
            | (go_at_call 22; refine (root_k _ _ (by assumption)).mono ?_; rintro e w' ⟨rfl, hg⟩)
            | (go_at_call 20; refine (level_k _ _ (by assumption)).mono ?_; rintro e w' ⟨rfl, hg⟩)
            | (go_at_call 16; refine (whole_k _ _ (by assumption)).mono ?_; rintro e w' ⟨rfl, hg⟩)
            | (go_at_call 18; refine (is_k _ _ _ (by assumption)).mono ?_; rintro e w' ⟨rfl, hg⟩))
      go_ret
      exact ⟨rfl, by assumption⟩
    · intro hu
      clear fin
      go_enter Tryd.func13, Tryd.ntmps13
      go_wp2_with (first
            | (go_at_call 32; refine (awake6_h _ (by assumption)).mono ?_; rintro e w' ⟨rfl, hg⟩)
            | (go_at_call 40; refine (common_k _ _ _ _ (by assumption)).mono ?_; rintro e w' ⟨rfl, hg⟩)
            | (go_at_call 42; refine (under_k _ _ _ _ (by assumption)).mono ?_; rintro e w' ⟨rfl, hg⟩)
            | (go_at_call 33; refine (below_k _ _ _ (by assumption)).mono ?_; rintro e w' ⟨rfl, hg⟩)
            | (go_at_call 24; refine (left_k _ _ _ (by assumption)).mono ?_; rintro e w' ⟨rfl, hg⟩)
            | (go_at_call 26; refine (right_k _ _ _ (by assumption)).mono ?_; rintro e w' ⟨rfl, hg⟩)
            | (go_at_call 28; refine (parent_k _ _ _ (by assumption)).mono ?_; rintro e w' ⟨rfl, hg⟩)
            | (go_at_call 30; refine (sibling_k _ _ _ (by assumption)).mono ?_; rintro e w' ⟨rfl, hg⟩)
            | (go_at_call 22; refine (root_k _ _ (by assumption)).mono ?_; rintro e w' ⟨rfl, hg⟩)
            | (go_at_call 20; refine (level_k _ _ (by assumption)).mono ?_; rintro e w' ⟨rfl, hg⟩)
            | (go_at_call 16; refine (whole_k _ _ (by assumption)).mono ?_; rintro e w' ⟨rfl, hg⟩)
            | (go_at_call 18; refine (is_k _ _ _ (by assumption)).mono ?_; rintro e w' ⟨rfl, hg⟩))
      go_ret
      exact ⟨rfl, by assumption⟩
  · obtain ⟨n1, n2, p1, p2⟩ := k2 (by omega)
    have g1 : 0 ≤ Left c w := (isN_range n1).1
    have g2 : 0 ≤ Right c w := (isN_range n2).1
    have low1 : Left c w ∉ way x w ∨ (Left c w ∈ way x w ∧ Left c w ∉ way y w) := by
      by_cases h1 : Left c w ∈ way x w
      · exact .inr ⟨h1, fun h2 => hm.lower n1 p1 h1 h2⟩
      · exact .inl h1
    have low2 : Right c w ∉ way x w ∨ (Right c w ∈ way x w ∧ Right c w ∉ way y w) := by
      by_cases h1 : Right c w ∈ way x w
      · exact .inr ⟨h1, fun h2 => hm.lower n2 p2 h1 h2⟩
      · exact .inl h1
    clear k1 k2 hb hm hz n1 n2 p1 p2
    refine fin _ ?_ ?_
    · rintro ⟨hu, hcy⟩
      clear fin
      rcases low1 with l1 | ⟨l1, l2⟩ <;> rcases low2 with r1 | ⟨r1, r2⟩
      all_goals
        go_enter Tryd.func13, Tryd.ntmps13
        go_wp2_with (first
              | (go_at_call 32; refine (awake6_h _ (by assumption)).mono ?_; rintro e w' ⟨rfl, hg⟩)
              | (go_at_call 40; refine (common_k _ _ _ _ (by assumption)).mono ?_; rintro e w' ⟨rfl, hg⟩)
              | (go_at_call 42; refine (under_k _ _ _ _ (by assumption)).mono ?_; rintro e w' ⟨rfl, hg⟩)
              | (go_at_call 33; refine (below_k _ _ _ (by assumption)).mono ?_; rintro e w' ⟨rfl, hg⟩)
              | (go_at_call 24; refine (left_k _ _ _ (by assumption)).mono ?_; rintro e w' ⟨rfl, hg⟩)
              | (go_at_call 26; refine (right_k _ _ _ (by assumption)).mono ?_; rintro e w' ⟨rfl, hg⟩)
              | (go_at_call 28; refine (parent_k _ _ _ (by assumption)).mono ?_; rintro e w' ⟨rfl, hg⟩)
              | (go_at_call 30; refine (sibling_k _ _ _ (by assumption)).mono ?_; rintro e w' ⟨rfl, hg⟩)
              | (go_at_call 22; refine (root_k _ _ (by assumption)).mono ?_; rintro e w' ⟨rfl, hg⟩)
              | (go_at_call 20; refine (level_k _ _ (by assumption)).mono ?_; rintro e w' ⟨rfl, hg⟩)
              | (go_at_call 16; refine (whole_k _ _ (by assumption)).mono ?_; rintro e w' ⟨rfl, hg⟩)
              | (go_at_call 18; refine (is_k _ _ _ (by assumption)).mono ?_; rintro e w' ⟨rfl, hg⟩))
        go_ret
        exact ⟨rfl, by assumption⟩
    · intro hu
      clear fin
      rcases low1 with l1 | ⟨l1, l2⟩ <;> rcases low2 with r1 | ⟨r1, r2⟩
      all_goals
        go_enter Tryd.func13, Tryd.ntmps13
        go_wp2_with (first
              | (go_at_call 32; refine (awake6_h _ (by assumption)).mono ?_; rintro e w' ⟨rfl, hg⟩)
              | (go_at_call 40; refine (common_k _ _ _ _ (by assumption)).mono ?_; rintro e w' ⟨rfl, hg⟩)
              | (go_at_call 42; refine (under_k _ _ _ _ (by assumption)).mono ?_; rintro e w' ⟨rfl, hg⟩)
              | (go_at_call 33; refine (below_k _ _ _ (by assumption)).mono ?_; rintro e w' ⟨rfl, hg⟩)
              | (go_at_call 24; refine (left_k _ _ _ (by assumption)).mono ?_; rintro e w' ⟨rfl, hg⟩)
              | (go_at_call 26; refine (right_k _ _ _ (by assumption)).mono ?_; rintro e w' ⟨rfl, hg⟩)
              | (go_at_call 28; refine (parent_k _ _ _ (by assumption)).mono ?_; rintro e w' ⟨rfl, hg⟩)
              | (go_at_call 30; refine (sibling_k _ _ _ (by assumption)).mono ?_; rintro e w' ⟨rfl, hg⟩)
              | (go_at_call 22; refine (root_k _ _ (by assumption)).mono ?_; rintro e w' ⟨rfl, hg⟩)
              | (go_at_call 20; refine (level_k _ _ (by assumption)).mono ?_; rintro e w' ⟨rfl, hg⟩)
              | (go_at_call 16; refine (whole_k _ _ (by assumption)).mono ?_; rintro e w' ⟨rfl, hg⟩)
              | (go_at_call 18; refine (is_k _ _ _ (by assumption)).mono ?_; rintro e w' ⟨rfl, hg⟩))
        go_ret
        exact ⟨rfl, by assumption⟩

theorem common_walk (x y w : Int) (W0 : World) (h : K W0 [] W0) :
    Calls Tryd.prog 13 #[.int .i64 x, .int .i64 y, .int .i64 w] W0 fun e W' => e = .returned (.bool true) ∧ K W0 [] W' := by
  cases hx : isN x w
  · exact common_out_walk x y w W0 h (.inl hx)
  · cases hy : isN y w
    · exact common_out_walk x y w W0 h (.inr hy)
    · exact common_in_walk x y w W0 h hx hy

theorem common_w (x y w : Int) (W : World) (hT : Tab W) : Calls Tryd.prog 13 #[.int .i64 x, .int .i64 y, .int .i64 w] W fun e W' => e = .returned (.bool true) ∧ Below W.heap.size W W' :=
  (common_walk x y w W (K.refl hT)).mono fun _ _ ⟨a, b⟩ => ⟨a, b.below⟩

end Go.Proofs.YtgfplpkmcdpbeaaDoor
