/- The contracts of the reference of layer 5 over the translation: each function answers what package index answers. -/
import Derived.Test.YtgfplpkmcdpbeaaDoorGr
import Derived.Test.YtgfplpkmcdpbeaaDoorFin
namespace Go.Proofs.YtgfplpkmcdpbeaaDoor
open Go.RowKit

/-- The loop over the widths: none of those behind was the one that is sought. -/
structure WholeAt (w : Int) (W0 : World) (n : Value) (wr : World) : Prop where
  at_ : ∃ k : Int, (k = 1 ∨ (k = 3 ∧ w ≠ 1) ∨ (k = 7 ∧ w ≠ 1 ∧ w ≠ 3) ∨ (k = 15 ∧ w ≠ 1 ∧ w ≠ 3 ∧ w ≠ 7) ∨ (k = 31 ∧ w ≠ 1 ∧ w ≠ 3 ∧ w ≠ 7 ∧ w ≠ 15) ∨ (k = 63 ∧ w ≠ 1 ∧ w ≠ 3 ∧ w ≠ 7 ∧ w ≠ 15 ∧ w ≠ 31)
    ∨ (k = 127 ∧ w ≠ 1 ∧ w ≠ 3 ∧ w ≠ 7 ∧ w ≠ 15 ∧ w ≠ 31 ∧ w ≠ 63) ∨ (k = 255 ∧ w ≠ 1 ∧ w ≠ 3 ∧ w ≠ 7 ∧ w ≠ 15 ∧ w ≠ 31 ∧ w ≠ 63 ∧ w ≠ 127)) ∧ n = .int .i64 k ∧ wr = W0

theorem whole_true {w k : Int} (h : w = k) (hk : k = 1 ∨ k = 3 ∨ k = 7 ∨ k = 15 ∨ k = 31 ∨ k = 63 ∨ k = 127) : whole w = true := by
  unfold whole
  simp
  omega

set_option maxHeartbeats 1000000 in
theorem rwhole_any (w : Int) (W : World) :
    Calls Tryd.prog 17 #[.int .i64 w] W fun e W' => e = .returned (.bool (whole w)) ∧ W = W' := by
  obtain ⟨r, hr⟩ : ∃ r, whole w = r := ⟨_, rfl⟩
  rw [hr]
  have HR := Lib.hid hr
  clear hr
  go_enter Tryd.func17, Tryd.ntmps17
  go_wp2
  go_loopw [3] (fun n wr => WholeAt w W n wr) (fun n _ => (256 - intOf n).toNat)
  case atStart => exact ⟨1, .inl rfl, rfl, rfl⟩
  case round =>
    obtain ⟨k, hk, rfl, rfl⟩ := hrel
    by_cases h255 : k = 255
    · subst h255
      have hw : whole w = false := by unfold whole; simp; omega
      go_wp2
      go_ret
      exact ⟨by rw [← HR.out, hw]; rfl, rfl⟩
    · have hk1 : 1 ≤ k ∧ k ≤ 127 := by omega
      obtain ⟨hk1, hk2⟩ := hk1
      by_cases he : k = w
      · subst he
        have hw := whole_true (w := k) rfl (by omega)
        clear hk h255
        go_wp2
        go_ret
        exact ⟨by rw [← HR.out, hw]; rfl, rfl⟩
      · have hq : (k == w) = false := by simp [he]
        have hk' : (2 * k + 1 = 3 ∧ w ≠ 1) ∨ (2 * k + 1 = 7 ∧ w ≠ 1 ∧ w ≠ 3) ∨ (2 * k + 1 = 15 ∧ w ≠ 1 ∧ w ≠ 3 ∧ w ≠ 7) ∨ (2 * k + 1 = 31 ∧ w ≠ 1 ∧ w ≠ 3 ∧ w ≠ 7 ∧ w ≠ 15) ∨ (2 * k + 1 = 63 ∧ w ≠ 1 ∧ w ≠ 3 ∧ w ≠ 7 ∧ w ≠ 15 ∧ w ≠ 31)
    ∨ (2 * k + 1 = 127 ∧ w ≠ 1 ∧ w ≠ 3 ∧ w ≠ 7 ∧ w ≠ 15 ∧ w ≠ 31 ∧ w ≠ 63) ∨ (2 * k + 1 = 255 ∧ w ≠ 1 ∧ w ≠ 3 ∧ w ≠ 7 ∧ w ≠ 15 ∧ w ≠ 31 ∧ w ≠ 63 ∧ w ≠ 127) := by omega
        have HK := Lib.hid hk'
        clear hk hk' he h255
        go_wp2
        go_roundw
        case rel => exact ⟨2 * k + 1, .inr HK.out, rfl, rfl⟩
        case measure => simp [intOf]; omega

set_option maxHeartbeats 400000 in
theorem ris_any (x w : Int) (W : World) :
    Calls Tryd.prog 19 #[.int .i64 x, .int .i64 w] W fun e W' => e = .returned (.bool (isN x w)) ∧ W = W' := by
  cases h : whole w
  · have hi : isN x w = false := by simp [isN, h]
    rw [hi]
    go_enter Tryd.func19, Tryd.ntmps19
    go_wp2_with (go_at_call 17; refine (rwhole_any _ _).mono ?_; rw [h]; rintro e w' ⟨rfl, rfl⟩)
    go_ret
    exact ⟨rfl, rfl⟩
  · have hi : isN x w = (decide (0 ≤ x) && decide (x < w)) := by simp [isN, h]
    rw [hi]
    by_cases h0 : 0 ≤ x
    all_goals
      go_enter Tryd.func19, Tryd.ntmps19
      go_wp2_with (go_at_call 17; refine (rwhole_any _ _).mono ?_; rw [h]; rintro e w' ⟨rfl, rfl⟩)
      go_ret
      exact ⟨by first | rfl | (have := h0; simp; omega), rfl⟩

theorem lvl_step_nat : ∀ n : Nat, n < 127 → (n % 2 = 1 → lvl ((n : Int) / 2) = lvl (n : Int) - 1) ∧ (n % 2 = 0 → lvl (n : Int) = 0) := by decide +kernel
theorem lvl_odd {x : Int} (h0 : 0 ≤ x) (h1 : x < 127) (h : x % 2 = 1) : lvl (x / 2) = lvl x - 1 := by
  obtain ⟨n, rfl⟩ := Int.eq_ofNat_of_zero_le h0
  exact (lvl_step_nat n (by omega)).1 (by omega)
theorem lvl_even {x : Int} (h0 : 0 ≤ x) (h1 : x < 127) (h : x % 2 = 0) : lvl x = 0 := by
  obtain ⟨n, rfl⟩ := Int.eq_ofNat_of_zero_le h0
  exact (lvl_step_nat n (by omega)).2 (by omega)
theorem lvl_bd {x : Int} (h0 : 0 ≤ x) (h1 : x < 127) : 0 ≤ lvl x ∧ lvl x ≤ 6 := by
  have := lvl_cases h0 h1
  omega

structure LvlAt (L : Int) (W0 : World) (x k : Value) (wr : World) : Prop where
  at_ : ∃ (y j : Int), 0 ≤ y ∧ y < 127 ∧ 0 ≤ j ∧ j + lvl y = L ∧ x = .int .i64 y ∧ k = .int .i64 j ∧ wr = W0

set_option maxHeartbeats 1000000 in
theorem rlevel_any (x : Int) (W : World) :
    Calls Tryd.prog 21 #[.int .i64 x] W fun e W' => e = .returned (.int .i64 (lvl x)) ∧ W = W' := by
  by_cases h0 : x < 0
  · rw [lvl_out (.inl h0)]
    go_enter Tryd.func21, Tryd.ntmps21
    go_wp2
    go_ret
    exact ⟨rfl, rfl⟩
  · by_cases h1 : 126 < x
    · rw [lvl_out (.inr (by omega))]
      go_enter Tryd.func21, Tryd.ntmps21
      go_wp2
      go_ret
      exact ⟨rfl, rfl⟩
    · obtain ⟨L, hL⟩ : ∃ L, lvl x = L := ⟨_, rfl⟩
      have hb := lvl_bd (show 0 ≤ x by omega) (show x < 127 by omega)
      rw [hL] at hb ⊢
      obtain ⟨hb0, hb1⟩ := hb
      have HL := Lib.hid hL
      clear hL
      go_enter Tryd.func21, Tryd.ntmps21
      go_wp2
      go_loopw [0, 3] (fun x k wr => LvlAt L W x k wr) (fun x _ _ => (intOf x).toNat)
      case atStart => exact ⟨x, 0, by omega, by omega, by omega, by rw [HL.out]; omega, rfl, rfl, rfl⟩
      case round =>
        obtain ⟨y, j, y0, y1, j0, hj, rfl, rfl, rfl⟩ := hrel
        have hyb := lvl_bd y0 y1
        have hj7 : j ≤ 6 := by omega
        by_cases hp : y % 2 = 1
        · have hs := lvl_odd y0 y1 hp
          have HJ : Hid (j + 1 + lvl (y / 2) = L) := Lib.hid (by omega)
          clear hj hs hyb
          go_wp2
          go_roundw
          case rel => exact ⟨y / 2, j + 1, by omega, by omega, by omega, HJ.out, rfl, rfl, rfl⟩
          case measure => simp [intOf]; omega
        · have hp0 : y % 2 = 0 := by omega
          have hs := lvl_even y0 y1 hp0
          have HJ : Hid (j = L) := Lib.hid (by omega)
          clear hj hs hyb hp
          go_wp2
          go_ret
          exact ⟨ret_int HJ.out, rfl⟩

structure PowAt (k : Int) (W0 : World) (n i : Value) (wr : World) : Prop where
  at_ : ∃ (j : Nat) (m : Int), (j : Int) ≤ k ∧ m = (2 : Int) ^ j ∧ 1 ≤ m ∧ m ≤ 128 ∧ n = .int .i64 m ∧ i = .int .i64 j ∧ wr = W0

theorem pow_le7 {k : Nat} (h : k ≤ 7) : 1 ≤ (2 : Int) ^ k ∧ (2 : Int) ^ k ≤ 128 := by
  have : ∀ j, j ≤ 7 → 1 ≤ (2 : Int) ^ j ∧ (2 : Int) ^ j ≤ 128 := by decide
  exact this k h

set_option maxHeartbeats 1000000 in
theorem rpower_any (k : Int) (h0 : 0 ≤ k) (h7 : k ≤ 7) (W : World) :
    Calls Tryd.prog 47 #[.int .i64 k] W fun e W' => e = .returned (.int .i64 ((2 : Int) ^ k.toNat)) ∧ W = W' := by
  obtain ⟨r, hr⟩ : ∃ r, (2 : Int) ^ k.toNat = r := ⟨_, rfl⟩
  rw [hr]
  have HR := Lib.hid hr
  clear hr
  go_enter Tryd.func47, Tryd.ntmps47
  go_wp2
  go_loopw [3, 4] (fun n i wr => PowAt k W n i wr) (fun _ i _ => 8 - (intOf i).toNat)
  case atStart => exact ⟨0, 1, h0, rfl, by omega, by omega, rfl, rfl, rfl⟩
  case round =>
    obtain ⟨j, m, hj, hm, m1, m2, rfl, rfl, rfl⟩ := hrel
    have HM := Lib.hid hm
    clear hm
    by_cases hlt : (j : Int) < k
    · go_wp2
      go_roundw
      case rel => exact ⟨j + 1, 2 * m, by omega, by rw [HM.out, Int.pow_succ]; omega, by omega, by have hh := HM.out; have := (pow_le7 (k := j + 1) (by omega)).2; rw [Int.pow_succ] at this; omega, rfl, by go_num, rfl⟩
      case measure => simp [intOf]; omega
    · have hE : j = k.toNat := by omega
      have HE := Lib.hid hE
      clear hE
      go_wp2
      go_ret
      exact ⟨ret_int (by rw [← HR.out, HM.out, HE.out]), rfl⟩

theorem root_half {w : Int} (h : whole w = true) : root w = (w - 1) / 2 ∧ 1 ≤ w ∧ w ≤ 127 := by
  refine ⟨?_, ?_⟩
  · simp only [root, h, if_true]
    unfold whole at h
    simp at h
    omega
  · unfold whole at h
    simp at h
    omega

set_option maxHeartbeats 400000 in
theorem rroot_any (w : Int) (W : World) :
    Calls Tryd.prog 23 #[.int .i64 w] W fun e W' => e = .returned (.int .i64 (root w)) ∧ W = W' := by
  cases h : whole w
  · have hr : root w = -1 := by simp [root, h]
    rw [hr]
    go_enter Tryd.func23, Tryd.ntmps23
    go_wp2_with (go_at_call 17; refine (rwhole_any _ _).mono ?_; rw [h]; rintro e w' ⟨rfl, rfl⟩)
    go_ret
    exact ⟨rfl, rfl⟩
  · obtain ⟨hr, hw1, hw2⟩ := root_half h
    rw [hr]
    go_enter Tryd.func23, Tryd.ntmps23
    go_wp2_with (go_at_call 17; refine (rwhole_any _ _).mono ?_; rw [h]; rintro e w' ⟨rfl, rfl⟩)
    go_ret
    exact ⟨rfl, rfl⟩

end Go.Proofs.YtgfplpkmcdpbeaaDoor
