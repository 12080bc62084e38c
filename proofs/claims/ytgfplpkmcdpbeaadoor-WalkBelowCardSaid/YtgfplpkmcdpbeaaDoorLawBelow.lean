/- The walk of a law of layer 6: it returns true, whatever the input. -/
import Derived.Test.YtgfplpkmcdpbeaaDoorK
import Derived.Test.YtgfplpkmcdpbeaaDoorFast
namespace Go.Proofs.YtgfplpkmcdpbeaaDoor
open Go.RowKit

structure DblK (L : Int) (W0 : World) (m i : Value) (wr : World) : Prop where
  at_ : ∃ (k : Nat) (n : Int), (k : Int) ≤ L ∧ n = (2 : Int) ^ k ∧ 1 ≤ n ∧ n ≤ 64 ∧ m = .int .i64 n ∧ i = .int .i64 k ∧ K W0 [] wr

theorem pow_le6 {k : Nat} {L : Int} (h : (k : Int) ≤ L) (h6 : L ≤ 6) : 1 ≤ (2 : Int) ^ k ∧ (2 : Int) ^ k ≤ 64 := by
  have hk : k ≤ 6 := by omega
  have : ∀ j, j ≤ 6 → 1 ≤ (2 : Int) ^ j ∧ (2 : Int) ^ j ≤ 64 := by decide
  exact this k hk

set_option maxHeartbeats 4000000 in
theorem wbelow_in (x leaf w : Int) (hi' : isN x w = true) (W0 : World) (h : K W0 [] W0) :
    Calls Tryd.prog 14 #[.int .i64 x, .int .i64 leaf, .int .i64 w] W0 fun e W' => e = .returned (.bool true) ∧ K W0 [] W' := by
  obtain ⟨f1, f2, f3, f4, f5, f6, f7, f8⟩ := span_at hi'
  obtain ⟨r0, r1, r2, r3⟩ := isN_range hi'
  obtain ⟨q0, q63⟩ := and63 leaf
  have hpair := pair_at (x := x) (w := w) (k := bits BinOp.and IntKind.i64 leaf 63) hi' q0 q63
  obtain ⟨kk, hkk⟩ : ∃ kk, bits BinOp.and IntKind.i64 leaf 63 = kk := ⟨_, rfl⟩
  rw [hkk] at hpair q0 q63
  obtain ⟨LX, hLX⟩ : ∃ LX, lvl x = LX := ⟨_, rfl⟩
  rw [hLX] at f1 f2 f3 f7 f8
  have F3 := Lib.hid f3
  have F7 := Lib.hid f7
  have F8 := Lib.hid f8
  have HPAIR := Lib.hid hpair
  clear f3 f7 f8 hpair
  go_enter Tryd.func14, Tryd.ntmps14
  go_wp2_with (first
        | (go_at_call 32; refine (awake6_h _ (by assumption)).mono ?_; rintro e w' ⟨rfl, hg⟩)
        | (go_at_call 40; refine (common_k _ _ _ _ (by assumption)).mono ?_; rintro e w' ⟨rfl, hg⟩)
        | (go_at_call 42; refine (under_k _ _ _ _ (by assumption)).mono ?_; rintro e w' ⟨rfl, hg⟩)
        | (go_at_call 33; refine (below_k _ _ _ (by assumption)).mono ?_; rintro e w' ⟨rfl, hg⟩)
        | (go_at_call 24; refine (left_k _ _ _ (by assumption)).mono ?_; rintro e w' ⟨rfl, hg⟩)
        | (go_at_call 26; refine (right_k _ _ _ (by assumption)).mono ?_; rintro e w' ⟨rfl, hg⟩)
        | (go_at_call 28; refine (parent_k _ _ _ (by assumption)).mono ?_; rintro e w' ⟨rfl, hg⟩)
        | (go_at_call 30; refine (sibling_k _ _ _ (by assumption)).mono ?_; rintro e w' ⟨rfl, hg⟩)
        | (go_at_call 22; refine (root_k _ _ (by assumption)).mono ?_; rintro e w' ⟨rfl, hg⟩)
        | (go_at_call 20; refine (level_k _ _ (by assumption)).mono ?_; rintro e w' ⟨rfl, hg⟩)
        | (go_at_call 16; refine (whole_k _ _ (by assumption)).mono ?_; rintro e w' ⟨rfl, hg⟩)
        | (go_at_call 18; refine (is_k _ _ _ (by assumption)).mono ?_; rintro e w' ⟨rfl, hg⟩))
  go_loopw [10, 11] (fun m i wr => DblK LX W0 m i wr) (fun _ i _ => 7 - (intOf i).toNat)
  case atStart => exact ⟨0, 1, f1, rfl, by omega, by omega, rfl, rfl, by assumption⟩
  case round =>
    obtain ⟨k, n, hk, hn, n1, n2, rfl, rfl, hgr⟩ := hrel
    have hk10 : (k : Int) < 10 := by omega
    have HN := Lib.hid hn
    clear hn
    by_cases hlt : (k : Int) < LX
    · go_wp2_with (first
        | (go_at_call 32; refine (awake6_h _ (by assumption)).mono ?_; rintro e w' ⟨rfl, hg⟩)
        | (go_at_call 40; refine (common_k _ _ _ _ (by assumption)).mono ?_; rintro e w' ⟨rfl, hg⟩)
        | (go_at_call 42; refine (under_k _ _ _ _ (by assumption)).mono ?_; rintro e w' ⟨rfl, hg⟩)
        | (go_at_call 33; refine (below_k _ _ _ (by assumption)).mono ?_; rintro e w' ⟨rfl, hg⟩)
        | (go_at_call 24; refine (left_k _ _ _ (by assumption)).mono ?_; rintro e w' ⟨rfl, hg⟩)
        | (go_at_call 26; refine (right_k _ _ _ (by assumption)).mono ?_; rintro e w' ⟨rfl, hg⟩)
        | (go_at_call 28; refine (parent_k _ _ _ (by assumption)).mono ?_; rintro e w' ⟨rfl, hg⟩)
        | (go_at_call 30; refine (sibling_k _ _ _ (by assumption)).mono ?_; rintro e w' ⟨rfl, hg⟩)
        | (go_at_call 22; refine (root_k _ _ (by assumption)).mono ?_; rintro e w' ⟨rfl, hg⟩)
        | (go_at_call 20; refine (level_k _ _ (by assumption)).mono ?_; rintro e w' ⟨rfl, hg⟩)
        | (go_at_call 16; refine (whole_k _ _ (by assumption)).mono ?_; rintro e w' ⟨rfl, hg⟩)
        | (go_at_call 18; refine (is_k _ _ _ (by assumption)).mono ?_; rintro e w' ⟨rfl, hg⟩))
      go_roundw
      case rel => exact ⟨k + 1, 2 * n, by omega, by rw [HN.out, Int.pow_succ]; omega, by omega, by have hh := HN.out; have := (pow_le6 (k := k + 1) (L := LX) (by omega) (by omega)).2; rw [Int.pow_succ] at this; omega, rfl, by go_num, by assumption⟩
      case measure => simp [intOf]; omega
    · have hkL : k = LX.toNat := by omega
      have E3 : Hid (hi x - lo x + 1 = n) := Lib.hid (by rw [HN.out, hkL]; exact F3.out)
      have hone : n = 1 ↔ LX = 0 := by
        rw [HN.out, hkL]
        exact pow_one_iff f1 f2
      clear F3 HN hkL
      have e3 := E3.out
      clear E3
      have hcases : (LX = 0 ∧ n = 1 ∧ lo x = x / 2) ∨ (n ≠ 1 ∧ isN (Left x w) w = true ∧ isN (Right x w) w = true ∧ lo (Left x w) = lo x ∧ hi (Right x w) = hi x ∧ lo (Right x w) = hi (Left x w) + 1 ∧ 0 ≤ hi (Left x w) ∧ hi (Left x w) ≤ 63) := by
        by_cases hz : LX = 0
        · exact .inl ⟨hz, hone.2 hz, F7.out hz⟩
        · exact .inr ⟨fun c => hz (hone.1 c), F8.out (by omega)⟩
      have hund : (isN (2 * kk) w = false) ∨ (isN (2 * kk) w = true ∧ x ∈ way (2 * kk) w ∧ lo x ≤ kk ∧ kk ≤ hi x) ∨ (isN (2 * kk) w = true ∧ x ∉ way (2 * kk) w ∧ kk < lo x) ∨ (isN (2 * kk) w = true ∧ x ∉ way (2 * kk) w ∧ lo x ≤ kk ∧ hi x < kk) := by
        cases h2 : isN (2 * kk) w
        · exact .inl rfl
        · have := HPAIR.out h2
          by_cases hm : x ∈ way (2 * kk) w
          · obtain ⟨a, b⟩ := this.1 hm
            exact .inr (.inl ⟨rfl, hm, a, b⟩)
          · by_cases ha : lo x ≤ kk
            · refine .inr (.inr (.inr ⟨rfl, hm, ha, ?_⟩))
              by_cases hb : kk ≤ hi x
              · exact absurd (this.2 ⟨ha, hb⟩) hm
              · omega
            · exact .inr (.inr (.inl ⟨rfl, hm, by omega⟩))
      clear hone F7 F8 HPAIR
      rcases hcases with ⟨c1, c2, c3⟩ | ⟨c2, c3, c4, c5, c6, c7, c8, c9⟩
      · subst c2
        clear c1
        rcases hund with u1 | ⟨u1, u2, u3, u4⟩ | ⟨u1, u2, u3⟩ | ⟨u1, u2, u3, u4⟩
        all_goals
          go_wp2_with (first
            | (go_at_call 32; refine (awake6_h _ (by assumption)).mono ?_; rintro e w' ⟨rfl, hg⟩)
            | (go_at_call 40; refine (common_k _ _ _ _ (by assumption)).mono ?_; rintro e w' ⟨rfl, hg⟩)
            | (go_at_call 42; refine (under_k _ _ _ _ (by assumption)).mono ?_; rintro e w' ⟨rfl, hg⟩)
            | (go_at_call 33; refine (below_k _ _ _ (by assumption)).mono ?_; rintro e w' ⟨rfl, hg⟩)
            | (go_at_call 24; refine (left_k _ _ _ (by assumption)).mono ?_; rintro e w' ⟨rfl, hg⟩)
            | (go_at_call 26; refine (right_k _ _ _ (by assumption)).mono ?_; rintro e w' ⟨rfl, hg⟩)
            | (go_at_call 28; refine (parent_k _ _ _ (by assumption)).mono ?_; rintro e w' ⟨rfl, hg⟩)
            | (go_at_call 30; refine (sibling_k _ _ _ (by assumption)).mono ?_; rintro e w' ⟨rfl, hg⟩)
            | (go_at_call 22; refine (root_k _ _ (by assumption)).mono ?_; rintro e w' ⟨rfl, hg⟩)
            | (go_at_call 20; refine (level_k _ _ (by assumption)).mono ?_; rintro e w' ⟨rfl, hg⟩)
            | (go_at_call 16; refine (whole_k _ _ (by assumption)).mono ?_; rintro e w' ⟨rfl, hg⟩)
            | (go_at_call 18; refine (is_k _ _ _ (by assumption)).mono ?_; rintro e w' ⟨rfl, hg⟩))
          go_ret
          exact ⟨rfl, by assumption⟩
      · have hq1 : (n == 1) = false := by simp [c2]
        clear c2
        rcases hund with u1 | ⟨u1, u2, u3, u4⟩ | ⟨u1, u2, u3⟩ | ⟨u1, u2, u3, u4⟩
        all_goals
          go_wp2_with (first
            | (go_at_call 32; refine (awake6_h _ (by assumption)).mono ?_; rintro e w' ⟨rfl, hg⟩)
            | (go_at_call 40; refine (common_k _ _ _ _ (by assumption)).mono ?_; rintro e w' ⟨rfl, hg⟩)
            | (go_at_call 42; refine (under_k _ _ _ _ (by assumption)).mono ?_; rintro e w' ⟨rfl, hg⟩)
            | (go_at_call 33; refine (below_k _ _ _ (by assumption)).mono ?_; rintro e w' ⟨rfl, hg⟩)
            | (go_at_call 24; refine (left_k _ _ _ (by assumption)).mono ?_; rintro e w' ⟨rfl, hg⟩)
            | (go_at_call 26; refine (right_k _ _ _ (by assumption)).mono ?_; rintro e w' ⟨rfl, hg⟩)
            | (go_at_call 28; refine (parent_k _ _ _ (by assumption)).mono ?_; rintro e w' ⟨rfl, hg⟩)
            | (go_at_call 30; refine (sibling_k _ _ _ (by assumption)).mono ?_; rintro e w' ⟨rfl, hg⟩)
            | (go_at_call 22; refine (root_k _ _ (by assumption)).mono ?_; rintro e w' ⟨rfl, hg⟩)
            | (go_at_call 20; refine (level_k _ _ (by assumption)).mono ?_; rintro e w' ⟨rfl, hg⟩)
            | (go_at_call 16; refine (whole_k _ _ (by assumption)).mono ?_; rintro e w' ⟨rfl, hg⟩)
            | (go_at_call 18; refine (is_k _ _ _ (by assumption)).mono ?_; rintro e w' ⟨rfl, hg⟩))
          go_ret
          exact ⟨rfl, by assumption⟩

set_option maxHeartbeats 2000000 in
theorem wbelow_walk (x leaf w : Int) (W0 : World) (h : K W0 [] W0) :
    Calls Tryd.prog 14 #[.int .i64 x, .int .i64 leaf, .int .i64 w] W0 fun e W' => e = .returned (.bool true) ∧ K W0 [] W' := by
  cases hi' : isN x w
  · go_enter Tryd.func14, Tryd.ntmps14
    go_wp2_with (first
          | (go_at_call 32; refine (awake6_h _ (by assumption)).mono ?_; rintro e w' ⟨rfl, hg⟩)
          | (go_at_call 40; refine (common_k _ _ _ _ (by assumption)).mono ?_; rintro e w' ⟨rfl, hg⟩)
          | (go_at_call 42; refine (under_k _ _ _ _ (by assumption)).mono ?_; rintro e w' ⟨rfl, hg⟩)
          | (go_at_call 33; refine (below_k _ _ _ (by assumption)).mono ?_; rintro e w' ⟨rfl, hg⟩)
          | (go_at_call 24; refine (left_k _ _ _ (by assumption)).mono ?_; rintro e w' ⟨rfl, hg⟩)
          | (go_at_call 26; refine (right_k _ _ _ (by assumption)).mono ?_; rintro e w' ⟨rfl, hg⟩)
          | (go_at_call 28; refine (parent_k _ _ _ (by assumption)).mono ?_; rintro e w' ⟨rfl, hg⟩)
          | (go_at_call 30; refine (sibling_k _ _ _ (by assumption)).mono ?_; rintro e w' ⟨rfl, hg⟩)
          | (go_at_call 22; refine (root_k _ _ (by assumption)).mono ?_; rintro e w' ⟨rfl, hg⟩)
          | (go_at_call 20; refine (level_k _ _ (by assumption)).mono ?_; rintro e w' ⟨rfl, hg⟩)
          | (go_at_call 16; refine (whole_k _ _ (by assumption)).mono ?_; rintro e w' ⟨rfl, hg⟩)
          | (go_at_call 18; refine (is_k _ _ _ (by assumption)).mono ?_; rintro e w' ⟨rfl, hg⟩))
    go_ret
    exact ⟨rfl, by assumption⟩
  · exact wbelow_in x leaf w hi' W0 h

theorem wbelow_w (x leaf w : Int) (W : World) (hT : Tab W) : Calls Tryd.prog 14 #[.int .i64 x, .int .i64 leaf, .int .i64 w] W fun e W' => e = .returned (.bool true) ∧ Below W.heap.size W W' :=
  (wbelow_walk x leaf w W (K.refl hT)).mono fun _ _ ⟨a, b⟩ => ⟨a, b.below⟩

end Go.Proofs.YtgfplpkmcdpbeaaDoor
