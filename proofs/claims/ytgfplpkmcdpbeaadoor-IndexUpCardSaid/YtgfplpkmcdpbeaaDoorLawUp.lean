/- The walk of a law of layer 5: it returns true, whatever the input. -/
import Derived.Test.YtgfplpkmcdpbeaaDoorGr
import Derived.Test.YtgfplpkmcdpbeaaDoorFin
namespace Go.Proofs.YtgfplpkmcdpbeaaDoor
open Go.RowKit

/-- Where the loop stands: at a node whose level is at least the count. -/
structure UpAt (w : Int) (W0 : World) (y i : Value) (wr : World) : Prop where
  at_ : ∃ (n : Int) (k : Nat), k ≤ 7 ∧ (k : Int) ≤ lvl n ∧ isN n w = true ∧ y = .int .i64 n ∧ i = .int .i64 k ∧ G W0 wr

set_option maxHeartbeats 4000000 in
theorem up_in (x w : Int) (hi : isN x w = true) (W0 : World) (h : G W0 W0) :
    Calls Tryd.prog 5 #[.int .i64 x, .int .i64 w] W0 fun e W' => e = .returned (.bool true) ∧ G W0 W' := by
  have hl0 : 0 ≤ lvl x := (leaves_at hi).1
  go_enter Tryd.func5, Tryd.ntmps5
  go_wp2_with (first
      | (go_at_call 15; refine (awake5_g _ _ (by assumption)).mono ?_; rintro e w' ⟨rfl, hg⟩)
      | (go_at_call 18; refine (is_g _ _ _ _ (by assumption)).mono ?_; rintro e w' ⟨rfl, hg⟩))
  go_loopw [6, 7] (fun y i wr => UpAt w W0 y i wr) (fun _ i _ => 7 - (intOf i).toNat)
  case atStart => exact ⟨x, 0, by omega, hl0, hi, rfl, rfl, by assumption⟩
  case round =>
    obtain ⟨n, k, hk7, hkl, hn, rfl, rfl, hgr⟩ := hrel
    obtain ⟨up1, up2⟩ := up_at hn
    obtain ⟨-, l6, -⟩ := leaves_at hn
    clear hi hl0 h
    by_cases hx : n = root w
    · obtain ⟨e1, e2⟩ := up2 hx
      clear up1 up2
      have HK := Lib.hid hx
      have hq : (n == root w) = true := by simp [hx]
      have hq' : (n != root w) = false := by simp [hx]
      clear hx
      have h7 : k < 7 := by omega
      go_wp2_with (first
      | (go_at_call 15; refine (awake5_g _ _ (by assumption)).mono ?_; rintro e w' ⟨rfl, hg⟩)
      | (go_at_call 24; refine (left_g _ _ _ _ (by assumption)).mono ?_; rintro e w' ⟨rfl, hg⟩)
      | (go_at_call 26; refine (right_g _ _ _ _ (by assumption)).mono ?_; rintro e w' ⟨rfl, hg⟩)
      | (go_at_call 28; refine (parent_g _ _ _ _ (by assumption)).mono ?_; rintro e w' ⟨rfl, hg⟩)
      | (go_at_call 30; refine (sibling_g _ _ _ _ (by assumption)).mono ?_; rintro e w' ⟨rfl, hg⟩)
      | (go_at_call 22; refine (root_g _ _ _ (by assumption)).mono ?_; rintro e w' ⟨rfl, hg⟩)
      | (go_at_call 20; refine (level_g _ _ _ (by assumption)).mono ?_; rintro e w' ⟨rfl, hg⟩)
      | (go_at_call 16; refine (whole_g _ _ _ (by assumption)).mono ?_; rintro e w' ⟨rfl, hg⟩)
      | (go_at_call 18; refine (is_g _ _ _ _ (by assumption)).mono ?_; rintro e w' ⟨rfl, hg⟩))
      go_ret
      exact ⟨rfl, by assumption⟩
    · obtain ⟨e1, e2, e3, e4, e5, e6⟩ := up1 hx
      clear up1 up2
      have hq : (n == root w) = false := by simp [hx]
      have hq' : (n != root w) = true := by simp [hx]
      clear hx
      have h7 : k < 7 := by omega
      obtain ⟨p, hp⟩ : ∃ p, Parent n w = p := ⟨_, rfl⟩
      rw [hp] at e1 e2 e3
      have hlp : 0 ≤ lvl p := (leaves_at e1).1
      rcases e3 with e3 | e3
      · go_wp2_with (first
        | (go_at_call 15; refine (awake5_g _ _ (by assumption)).mono ?_; rintro e w' ⟨rfl, hg⟩)
        | (go_at_call 24; refine (left_g _ _ _ _ (by assumption)).mono ?_; rintro e w' ⟨rfl, hg⟩)
        | (go_at_call 26; refine (right_g _ _ _ _ (by assumption)).mono ?_; rintro e w' ⟨rfl, hg⟩)
        | (go_at_call 28; refine (parent_g _ _ _ _ (by assumption)).mono ?_; rintro e w' ⟨rfl, hg⟩)
        | (go_at_call 30; refine (sibling_g _ _ _ _ (by assumption)).mono ?_; rintro e w' ⟨rfl, hg⟩)
        | (go_at_call 22; refine (root_g _ _ _ (by assumption)).mono ?_; rintro e w' ⟨rfl, hg⟩)
        | (go_at_call 20; refine (level_g _ _ _ (by assumption)).mono ?_; rintro e w' ⟨rfl, hg⟩)
        | (go_at_call 16; refine (whole_g _ _ _ (by assumption)).mono ?_; rintro e w' ⟨rfl, hg⟩)
        | (go_at_call 18; refine (is_g _ _ _ _ (by assumption)).mono ?_; rintro e w' ⟨rfl, hg⟩))
        go_roundw
        case rel => exact ⟨p, k + 1, by omega, by omega, e1, rfl, by go_num, by assumption⟩
        case measure => simp [intOf]; omega
      · by_cases hL : Left p w = n
        all_goals
          go_wp2_with (first
        | (go_at_call 15; refine (awake5_g _ _ (by assumption)).mono ?_; rintro e w' ⟨rfl, hg⟩)
        | (go_at_call 24; refine (left_g _ _ _ _ (by assumption)).mono ?_; rintro e w' ⟨rfl, hg⟩)
        | (go_at_call 26; refine (right_g _ _ _ _ (by assumption)).mono ?_; rintro e w' ⟨rfl, hg⟩)
        | (go_at_call 28; refine (parent_g _ _ _ _ (by assumption)).mono ?_; rintro e w' ⟨rfl, hg⟩)
        | (go_at_call 30; refine (sibling_g _ _ _ _ (by assumption)).mono ?_; rintro e w' ⟨rfl, hg⟩)
        | (go_at_call 22; refine (root_g _ _ _ (by assumption)).mono ?_; rintro e w' ⟨rfl, hg⟩)
        | (go_at_call 20; refine (level_g _ _ _ (by assumption)).mono ?_; rintro e w' ⟨rfl, hg⟩)
        | (go_at_call 16; refine (whole_g _ _ _ (by assumption)).mono ?_; rintro e w' ⟨rfl, hg⟩)
        | (go_at_call 18; refine (is_g _ _ _ _ (by assumption)).mono ?_; rintro e w' ⟨rfl, hg⟩))
          go_roundw
          case rel => exact ⟨p, k + 1, by omega, by omega, e1, rfl, by go_num, by assumption⟩
          case measure => simp [intOf]; omega

set_option maxHeartbeats 4000000 in
theorem up_walk (x w : Int) (W0 : World) (h : G W0 W0) :
    Calls Tryd.prog 5 #[.int .i64 x, .int .i64 w] W0 fun e W' => e = .returned (.bool true) ∧ G W0 W' := by
  cases hi : isN x w
  · go_enter Tryd.func5, Tryd.ntmps5
    go_wp2_with (first
        | (go_at_call 15; refine (awake5_g _ _ (by assumption)).mono ?_; rintro e w' ⟨rfl, hg⟩)
        | (go_at_call 24; refine (left_g _ _ _ _ (by assumption)).mono ?_; rintro e w' ⟨rfl, hg⟩)
        | (go_at_call 26; refine (right_g _ _ _ _ (by assumption)).mono ?_; rintro e w' ⟨rfl, hg⟩)
        | (go_at_call 28; refine (parent_g _ _ _ _ (by assumption)).mono ?_; rintro e w' ⟨rfl, hg⟩)
        | (go_at_call 30; refine (sibling_g _ _ _ _ (by assumption)).mono ?_; rintro e w' ⟨rfl, hg⟩)
        | (go_at_call 22; refine (root_g _ _ _ (by assumption)).mono ?_; rintro e w' ⟨rfl, hg⟩)
        | (go_at_call 20; refine (level_g _ _ _ (by assumption)).mono ?_; rintro e w' ⟨rfl, hg⟩)
        | (go_at_call 16; refine (whole_g _ _ _ (by assumption)).mono ?_; rintro e w' ⟨rfl, hg⟩)
        | (go_at_call 18; refine (is_g _ _ _ _ (by assumption)).mono ?_; rintro e w' ⟨rfl, hg⟩))
    go_ret
    exact ⟨rfl, by assumption⟩
  · exact up_in x w hi W0 h

theorem up_w (x w : Int) (W : World) (hT : Tab W) : Calls Tryd.prog 5 #[.int .i64 x, .int .i64 w] W fun e W' => e = .returned (.bool true) ∧ Grown W W' :=
  (up_walk x w W (G.refl hT)).mono fun _ _ ⟨a, b⟩ => ⟨a, dr_grown b.dr⟩

end Go.Proofs.YtgfplpkmcdpbeaaDoor
