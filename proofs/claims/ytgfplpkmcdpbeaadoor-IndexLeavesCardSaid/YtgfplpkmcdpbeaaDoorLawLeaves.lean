/- The walk of a law of layer 5: it returns true, whatever the input. -/
import Derived.Test.YtgfplpkmcdpbeaaDoorGr
import Derived.Test.YtgfplpkmcdpbeaaDoorFin
namespace Go.Proofs.YtgfplpkmcdpbeaaDoor
open Go.RowKit

/-- Where a doubling loop stands: behind k rounds. -/
structure DblAt (L : Int) (W0 : World) (m i : Value) (wr : World) : Prop where
  at_ : ∃ (k : Nat) (n : Int), (k : Int) ≤ L ∧ n = (2 : Int) ^ k ∧ 1 ≤ n ∧ n ≤ 64 ∧ m = .int .i64 n ∧ i = .int .i64 k ∧ G W0 wr

theorem pow_le {k : Nat} {L : Int} (h : (k : Int) ≤ L) (h6 : L ≤ 6) : 1 ≤ (2 : Int) ^ k ∧ (2 : Int) ^ k ≤ 64 := by
  have hk : k ≤ 6 := by omega
  have : ∀ j, j ≤ 6 → 1 ≤ (2 : Int) ^ j ∧ (2 : Int) ^ j ≤ 64 := by decide
  exact this k hk

set_option maxHeartbeats 4000000 in
theorem leaves_in (x w : Int) (hi : isN x w = true) (W0 : World) (h : G W0 W0) :
    Calls Tryd.prog 7 #[.int .i64 x, .int .i64 w] W0 fun e W' => e = .returned (.bool true) ∧ G W0 W' := by
  obtain ⟨f1, f2, f3, f4, f5, f6, f7, f8, f9⟩ := leaves_at hi
  obtain ⟨r0, r1, r2, r3⟩ := isN_range hi
  obtain ⟨LR, hLR⟩ : ∃ LR, lvl (root w) = LR := ⟨_, rfl⟩
  obtain ⟨LX, hLX⟩ : ∃ LX, lvl x = LX := ⟨_, rfl⟩
  rw [hLR] at f3 f4 f6
  rw [hLX] at f1 f2 f5 f7 f8 f9
  have F5 := Lib.hid f5
  have F6 := Lib.hid f6
  have F7 := Lib.hid f7
  have F8 := Lib.hid f8
  have F9 := Lib.hid f9
  clear f5 f6 f7 f8 f9
  go_enter Tryd.func7, Tryd.ntmps7
  go_wp2_with (first
        | (go_at_call 15; refine (awake5_g _ _ (by assumption)).mono ?_; rintro e w' ⟨rfl, hg⟩)
        | (go_at_call 24; refine (left_g _ _ _ _ (by assumption)).mono ?_; rintro e w' ⟨rfl, hg⟩)
        | (go_at_call 26; refine (right_g _ _ _ _ (by assumption)).mono ?_; rintro e w' ⟨rfl, hg⟩)
        | (go_at_call 28; refine (parent_g _ _ _ _ (by assumption)).mono ?_; rintro e w' ⟨rfl, hg⟩)
        | (go_at_call 30; refine (sibling_g _ _ _ _ (by assumption)).mono ?_; rintro e w' ⟨rfl, hg⟩)
        | (go_at_call 22; refine (root_g _ _ _ (by assumption)).mono ?_; rintro e w' ⟨rfl, hg⟩)
        | (go_at_call 20; refine (level_g _ _ _ (by assumption)).mono ?_; rintro e w' ⟨rfl, hg⟩)
        | (go_at_call 16; refine (whole_g _ _ _ (by assumption)).mono ?_; rintro e w' ⟨rfl, hg⟩)
        | (go_at_call 18; refine (is_g _ _ _ _ (by assumption)).mono ?_; rintro e w' ⟨rfl, hg⟩))
  go_loopw [6, 7] (fun m i wr => DblAt LR W0 m i wr) (fun _ i _ => 7 - (intOf i).toNat)
  case atStart => exact ⟨0, 1, f3, rfl, by omega, by omega, rfl, rfl, by assumption⟩
  case round =>
    obtain ⟨k, n, hk, hn, n1, n2, rfl, rfl, hgr⟩ := hrel
    have hk10 : (k : Int) < 10 := by omega
    have HN := Lib.hid hn
    clear hn
    by_cases hlt : (k : Int) < LR
    · go_wp2_with (first
        | (go_at_call 15; refine (awake5_g _ _ (by assumption)).mono ?_; rintro e w' ⟨rfl, hg⟩)
        | (go_at_call 24; refine (left_g _ _ _ _ (by assumption)).mono ?_; rintro e w' ⟨rfl, hg⟩)
        | (go_at_call 26; refine (right_g _ _ _ _ (by assumption)).mono ?_; rintro e w' ⟨rfl, hg⟩)
        | (go_at_call 28; refine (parent_g _ _ _ _ (by assumption)).mono ?_; rintro e w' ⟨rfl, hg⟩)
        | (go_at_call 30; refine (sibling_g _ _ _ _ (by assumption)).mono ?_; rintro e w' ⟨rfl, hg⟩)
        | (go_at_call 22; refine (root_g _ _ _ (by assumption)).mono ?_; rintro e w' ⟨rfl, hg⟩)
        | (go_at_call 20; refine (level_g _ _ _ (by assumption)).mono ?_; rintro e w' ⟨rfl, hg⟩)
        | (go_at_call 16; refine (whole_g _ _ _ (by assumption)).mono ?_; rintro e w' ⟨rfl, hg⟩)
        | (go_at_call 18; refine (is_g _ _ _ _ (by assumption)).mono ?_; rintro e w' ⟨rfl, hg⟩))
      go_roundw
      case rel => exact ⟨k + 1, 2 * n, by omega, by rw [HN.out, Int.pow_succ]; omega, by omega, by have hh := HN.out; have := (pow_le (k := k + 1) (L := LR) (by omega) (by omega)).2; rw [Int.pow_succ] at this; omega, rfl, by go_num, by assumption⟩
      case measure => simp [intOf]; omega
    · have hkL : k = LR.toNat := by omega
      have E6 : Hid (2 * n - 1 = w) := Lib.hid (by rw [HN.out, hkL]; exact F6.out)
      clear F6 HN hkL
      go_wp2_with (first
        | (go_at_call 15; refine (awake5_g _ _ (by assumption)).mono ?_; rintro e w' ⟨rfl, hg⟩)
        | (go_at_call 24; refine (left_g _ _ _ _ (by assumption)).mono ?_; rintro e w' ⟨rfl, hg⟩)
        | (go_at_call 26; refine (right_g _ _ _ _ (by assumption)).mono ?_; rintro e w' ⟨rfl, hg⟩)
        | (go_at_call 28; refine (parent_g _ _ _ _ (by assumption)).mono ?_; rintro e w' ⟨rfl, hg⟩)
        | (go_at_call 30; refine (sibling_g _ _ _ _ (by assumption)).mono ?_; rintro e w' ⟨rfl, hg⟩)
        | (go_at_call 22; refine (root_g _ _ _ (by assumption)).mono ?_; rintro e w' ⟨rfl, hg⟩)
        | (go_at_call 20; refine (level_g _ _ _ (by assumption)).mono ?_; rintro e w' ⟨rfl, hg⟩)
        | (go_at_call 16; refine (whole_g _ _ _ (by assumption)).mono ?_; rintro e w' ⟨rfl, hg⟩)
        | (go_at_call 18; refine (is_g _ _ _ _ (by assumption)).mono ?_; rintro e w' ⟨rfl, hg⟩))
      go_loopw [8, 9] (fun m i wr => DblAt LX W0 m i wr) (fun _ i _ => 7 - (intOf i).toNat)
      case atStart => exact ⟨0, 1, f1, rfl, by omega, by omega, rfl, rfl, by assumption⟩
      case round =>
        obtain ⟨j, m, hj, hm, m1, m2, rfl, rfl, hgr2⟩ := hrel
        have hj10 : (j : Int) < 10 := by omega
        have HM := Lib.hid hm
        clear hm
        by_cases hjl : (j : Int) < LX
        · go_wp2_with (first
        | (go_at_call 15; refine (awake5_g _ _ (by assumption)).mono ?_; rintro e w' ⟨rfl, hg⟩)
        | (go_at_call 24; refine (left_g _ _ _ _ (by assumption)).mono ?_; rintro e w' ⟨rfl, hg⟩)
        | (go_at_call 26; refine (right_g _ _ _ _ (by assumption)).mono ?_; rintro e w' ⟨rfl, hg⟩)
        | (go_at_call 28; refine (parent_g _ _ _ _ (by assumption)).mono ?_; rintro e w' ⟨rfl, hg⟩)
        | (go_at_call 30; refine (sibling_g _ _ _ _ (by assumption)).mono ?_; rintro e w' ⟨rfl, hg⟩)
        | (go_at_call 22; refine (root_g _ _ _ (by assumption)).mono ?_; rintro e w' ⟨rfl, hg⟩)
        | (go_at_call 20; refine (level_g _ _ _ (by assumption)).mono ?_; rintro e w' ⟨rfl, hg⟩)
        | (go_at_call 16; refine (whole_g _ _ _ (by assumption)).mono ?_; rintro e w' ⟨rfl, hg⟩)
        | (go_at_call 18; refine (is_g _ _ _ _ (by assumption)).mono ?_; rintro e w' ⟨rfl, hg⟩))
          go_roundw
          case rel => exact ⟨j + 1, 2 * m, by omega, by rw [HM.out, Int.pow_succ]; omega, by omega, by have hh := HM.out; have := (pow_le (k := j + 1) (L := LX) (by omega) (by omega)).2; rw [Int.pow_succ] at this; omega, rfl, by go_num, by assumption⟩
          case measure => simp [intOf]; omega
        · have hjL : j = LX.toNat := by omega
          have hjm : m = (2 : Int) ^ LX.toNat := by rw [← hjL]; exact HM.out
          have f7 := F7.out
          have f8 := F8.out
          have f9 := F9.out
          have f5 := F5.out
          rw [← hjm] at f7 f8 f9
          clear HM F7 F8 F9 F5 hjm
          have e6 := E6.out
          clear E6
          clear hi
          by_cases hp : x % 2 = 0
          · have hL0 : LX = 0 := f5.1 hp
            clear f5
            subst hL0
            go_wp2_with (first
        | (go_at_call 15; refine (awake5_g _ _ (by assumption)).mono ?_; rintro e w' ⟨rfl, hg⟩)
        | (go_at_call 24; refine (left_g _ _ _ _ (by assumption)).mono ?_; rintro e w' ⟨rfl, hg⟩)
        | (go_at_call 26; refine (right_g _ _ _ _ (by assumption)).mono ?_; rintro e w' ⟨rfl, hg⟩)
        | (go_at_call 28; refine (parent_g _ _ _ _ (by assumption)).mono ?_; rintro e w' ⟨rfl, hg⟩)
        | (go_at_call 30; refine (sibling_g _ _ _ _ (by assumption)).mono ?_; rintro e w' ⟨rfl, hg⟩)
        | (go_at_call 22; refine (root_g _ _ _ (by assumption)).mono ?_; rintro e w' ⟨rfl, hg⟩)
        | (go_at_call 20; refine (level_g _ _ _ (by assumption)).mono ?_; rintro e w' ⟨rfl, hg⟩)
        | (go_at_call 16; refine (whole_g _ _ _ (by assumption)).mono ?_; rintro e w' ⟨rfl, hg⟩)
        | (go_at_call 18; refine (is_g _ _ _ _ (by assumption)).mono ?_; rintro e w' ⟨rfl, hg⟩))
            go_ret
            exact ⟨rfl, by assumption⟩
          · have hL0 : ¬ LX = 0 := fun c => hp (f5.2 c)
            have hp1 : x % 2 = 1 := by omega
            have hL1 : 0 < LX := by omega
            have hq0 : (LX == 0) = false := by simp [hL0]
            clear f5 hL0 hp
            go_wp2_with (first
        | (go_at_call 15; refine (awake5_g _ _ (by assumption)).mono ?_; rintro e w' ⟨rfl, hg⟩)
        | (go_at_call 24; refine (left_g _ _ _ _ (by assumption)).mono ?_; rintro e w' ⟨rfl, hg⟩)
        | (go_at_call 26; refine (right_g _ _ _ _ (by assumption)).mono ?_; rintro e w' ⟨rfl, hg⟩)
        | (go_at_call 28; refine (parent_g _ _ _ _ (by assumption)).mono ?_; rintro e w' ⟨rfl, hg⟩)
        | (go_at_call 30; refine (sibling_g _ _ _ _ (by assumption)).mono ?_; rintro e w' ⟨rfl, hg⟩)
        | (go_at_call 22; refine (root_g _ _ _ (by assumption)).mono ?_; rintro e w' ⟨rfl, hg⟩)
        | (go_at_call 20; refine (level_g _ _ _ (by assumption)).mono ?_; rintro e w' ⟨rfl, hg⟩)
        | (go_at_call 16; refine (whole_g _ _ _ (by assumption)).mono ?_; rintro e w' ⟨rfl, hg⟩)
        | (go_at_call 18; refine (is_g _ _ _ _ (by assumption)).mono ?_; rintro e w' ⟨rfl, hg⟩))
            go_ret
            exact ⟨rfl, by assumption⟩

set_option maxHeartbeats 4000000 in
theorem leaves_walk (x w : Int) (W0 : World) (h : G W0 W0) :
    Calls Tryd.prog 7 #[.int .i64 x, .int .i64 w] W0 fun e W' => e = .returned (.bool true) ∧ G W0 W' := by
  cases hi : isN x w
  · go_enter Tryd.func7, Tryd.ntmps7
    go_wp2_with (first
        | (go_at_call 15; refine (awake5_g _ _ (by assumption)).mono ?_; rintro e w' ⟨rfl, hg⟩)
        | (go_at_call 24; refine (left_g _ _ _ _ (by assumption)).mono ?_; rintro e w' ⟨rfl, hg⟩)
        | (go_at_call 26; refine (right_g _ _ _ _ (by assumption)).mono ?_; rintro e w' ⟨rfl, hg⟩)
        | (go_at_call 28; refine (parent_g _ _ _ _ (by assumption)).mono ?_; rintro e w' ⟨rfl, hg⟩)
        | (go_at_call 30; refine (sibling_g _ _ _ _ (by assumption)).mono ?_; rintro e w' ⟨rfl, hg⟩)
        | (go_at_call 22; refine (root_g _ _ _ (by assumption)).mono ?_; rintro e w' ⟨rfl, hg⟩)
        | (go_at_call 20; refine (level_g _ _ _ (by assumption)).mono ?_; rintro e w' ⟨rfl, hg⟩)
        | (go_at_call 16; refine (whole_g _ _ _ (by assumption)).mono ?_; rintro e w' ⟨rfl, hg⟩)
        | (go_at_call 18; refine (is_g _ _ _ _ (by assumption)).mono ?_; rintro e w' ⟨rfl, hg⟩))
    go_ret
    exact ⟨rfl, by assumption⟩
  · exact leaves_in x w hi W0 h

theorem leaves_w (x w : Int) (W : World) (hT : Tab W) : Calls Tryd.prog 7 #[.int .i64 x, .int .i64 w] W fun e W' => e = .returned (.bool true) ∧ Grown W W' :=
  (leaves_walk x w W (G.refl hT)).mono fun _ _ ⟨a, b⟩ => ⟨a, dr_grown b.dr⟩

end Go.Proofs.YtgfplpkmcdpbeaaDoor
