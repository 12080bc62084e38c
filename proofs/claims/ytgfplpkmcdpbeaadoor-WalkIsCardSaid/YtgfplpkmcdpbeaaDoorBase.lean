/- The contracts of package index over the translation: each function answers the Lean function of its name, and the world stays as it was (under: the table of math/bits lies in its variable). -/
import Derived.Test.YtgfplpkmcdpbeaaDoorProg
import Derived.Test.YtgfplpkmcdpbeaaDoorPlain
import Derived.WalkKit
import Derived.WalkSpells
import Derived.WalkLawsBesides
import Derived.Laws.Bits64b
import Derived.Lib.TrailingZeros
import Derived.Lib.Hide
import Derived.Deep.QuietTactic
import Derived.BigQuiet
namespace Go.Proofs.YtgfplpkmcdpbeaaDoor
open Go.RowKit

/-- The table of math/bits in its variable. -/
structure Tab (w : World) : Prop where
  cell : ∀ j, j < 64 → w.cell? ⟨1, j, none⟩ = some (.int .u8 (Lib.deBruijn64tab.getD j 0))

/-- The world is the old one, some orders having been drawn. -/
structure Dr (w w' : World) : Prop where
  out : ∃ n, w' = w.drewN n
theorem Dr.refl (w : World) : Dr w w := ⟨⟨0, rfl⟩⟩
theorem Dr.step {w w' : World} (h : Dr w w') (n : Nat) : Dr w (w'.drewN n) := by
  obtain ⟨m, rfl⟩ := h
  exact ⟨⟨m + n, World.drewN_drewN ..⟩⟩
theorem Dr.one {w w' : World} (h : Dr w w') : Dr w w'.drew := by
  have := h.step 1
  exact this
theorem Dr.trans {a b c : World} (h : Dr a b) (k : Dr b c) : Dr a c := by
  obtain ⟨m, rfl⟩ := k
  exact h.step m
theorem Tab.dr {w w' : World} (hT : Tab w) (h : Dr w w') : Tab w' := by
  obtain ⟨n, rfl⟩ := h
  exact ⟨fun j hj => by rw [World.cell?_drewN]; exact hT.cell j hj⟩

set_option maxHeartbeats 1000000 in
theorem tz64_core (x k idx : Nat) (w : World) (hx0 : ((x : Int) == 0) = false)
    (key : IntKind.u64.wrap (bits BinOp.and IntKind.u64 (x : Int) (IntKind.u64.wrap (-(x : Int))) * 285870213051353865) / 288230376151711744 = (idx : Int))
    (hi : idx < 64) (hk : k < 64) (hcell : w.cell? ⟨1, idx, none⟩ = some (.int .u8 k)) :
    Calls Tryd.prog 55 #[.int .u64 x] w fun e w' => e = .returned (.int .i64 k) ∧ w = w' := by
  go_enter Tryd.func55, Tryd.ntmps55
  go_wp2_with (simp only [key])
  go_ret
  exact ⟨rfl, rfl⟩

theorem tz64_key (x a : Nat) (hx : x < 18446744073709551616) (hx0 : x ≠ 0) (hlow : x &&& (18446744073709551616 - x) = a) :
    IntKind.u64.wrap (bits BinOp.and IntKind.u64 (x : Int) (IntKind.u64.wrap (-(x : Int))) * 285870213051353865) / 288230376151711744 = ((a * 285870213051353865 % 18446744073709551616 / 288230376151711744 : Nat) : Int) := by
  have e1 : IntKind.u64.wrap (-(x : Int)) = ((18446744073709551616 - x : Nat) : Int) := by rw [IntKind.wrap_u64]; omega
  rw [e1, bits_and_u64_nat x _ hx (by omega), hlow, IntKind.wrap_u64]
  omega

theorem tz64_any (x : Nat) (hx : x < 18446744073709551616) (hx0 : x ≠ 0) (w : World) (hT : Tab w) :
    Calls Tryd.prog 55 #[.int .u64 x] w fun e w' => e = .returned (.int .i64 (Lib.ctz 64 x)) ∧ w = w' := by
  obtain ⟨hlow, hk⟩ := Lib.lowest_bit 64 x hx0 hx
  obtain ⟨hi, htab⟩ := Lib.deBruijn64_at _ hk
  have hcell := hT.cell _ hi
  rw [htab] at hcell
  exact tz64_core x _ _ w (by simp; omega) (tz64_key x _ hx hx0 hlow) hi hk hcell

theorem tz_any (x : Nat) (hx : x < 18446744073709551616) (hx0 : x ≠ 0) (w : World) (hT : Tab w) :
    Calls Tryd.prog 44 #[.int .u64 x] w fun e w' => e = .returned (.int .i64 (Lib.ctz 64 x)) ∧ w = w' := by
  have c64 := tz64_any x hx hx0 w hT
  have hw : IntKind.u64.wrap (x : Int) = (x : Int) := by rw [IntKind.wrap_u64]; omega
  have H := Lib.hid c64
  clear c64 hx hx0
  go_enter Tryd.func44, Tryd.ntmps44
  go_wp2_with (go_at_call 55; refine (H.out).mono ?_; rintro e w' ⟨rfl, rfl⟩)
  go_ret
  exact ⟨rfl, rfl⟩

set_option maxHeartbeats 400000 in
theorem whole_any (w : Int) (W : World) :
    Calls Tryd.prog 16 #[.int .i64 w] W fun e W' => e = .returned (.bool (whole w)) ∧ W = W' := by
  by_cases h1 : 0 < w
  · by_cases h2 : w ≤ 127
    · obtain ⟨n, rfl⟩ := Int.eq_ofNat_of_zero_le (show 0 ≤ w by omega)
      have hk := whole_and n (by omega) (by omega)
      go_enter Tryd.func16, Tryd.ntmps16
      go_wp2
      go_ret
      exact ⟨rfl, rfl⟩
    · have : whole w = false := by unfold whole; simp; omega
      rw [this]
      go_enter Tryd.func16, Tryd.ntmps16
      go_wp2
      go_ret
      exact ⟨rfl, rfl⟩
  · have : whole w = false := by unfold whole; simp; omega
    rw [this]
    go_enter Tryd.func16, Tryd.ntmps16
    go_wp2
    go_ret
    exact ⟨rfl, rfl⟩

set_option maxHeartbeats 400000 in
theorem is_any (x w : Int) (W : World) :
    Calls Tryd.prog 18 #[.int .i64 x, .int .i64 w] W fun e W' => e = .returned (.bool (isN x w)) ∧ W = W' := by
  cases h : whole w
  · have hi : isN x w = false := by simp [isN, h]
    rw [hi]
    go_enter Tryd.func18, Tryd.ntmps18
    go_wp2_with (go_at_call 16; refine (whole_any _ _).mono ?_; rw [h]; rintro e w' ⟨rfl, rfl⟩)
    go_ret
    exact ⟨rfl, rfl⟩
  · have hi : isN x w = (decide (0 ≤ x) && decide (x < w)) := by simp [isN, h]
    rw [hi]
    by_cases h0 : 0 ≤ x
    all_goals
      go_enter Tryd.func18, Tryd.ntmps18
      go_wp2_with (go_at_call 16; refine (whole_any _ _).mono ?_; rw [h]; rintro e w' ⟨rfl, rfl⟩)
      go_ret
      exact ⟨by first | rfl | (have := h0; simp; omega), rfl⟩

set_option maxHeartbeats 400000 in
theorem level_any (x : Int) (W : World) (hT : Tab W) :
    Calls Tryd.prog 20 #[.int .i64 x] W fun e W' => e = .returned (.int .i64 (lvl x)) ∧ W = W' := by
  by_cases h0 : x < 0
  · rw [lvl_out (.inl h0)]
    go_enter Tryd.func20, Tryd.ntmps20
    go_wp2
    go_ret
    exact ⟨rfl, rfl⟩
  · by_cases h1 : 127 ≤ x
    · rw [lvl_out (.inr h1)]
      go_enter Tryd.func20, Tryd.ntmps20
      go_wp2
      go_ret
      exact ⟨rfl, rfl⟩
    · have hc := Lib.hid (comp_int (show 0 ≤ x by omega) (show x < 127 by omega))
      have hz := fun W' (h : Tab W') => tz_any (18446744073709551615 - x.toNat) (by omega) (by omega) W' h
      rw [lvl_in (by omega) (by omega)]
      generalize Lib.ctz 64 (18446744073709551615 - x.toNat) = r at *
      generalize 18446744073709551615 - x.toNat = m at *
      have HZ := Lib.hid hz
      clear hz
      go_enter Tryd.func20, Tryd.ntmps20
      go_wp2_with (go_at_call 44; rw [hc.out]; refine (HZ.out _ hT).mono ?_; rintro e w' ⟨rfl, rfl⟩)
      go_ret
      exact ⟨rfl, rfl⟩

set_option maxHeartbeats 400000 in
theorem root_any (w : Int) (W : World) :
    Calls Tryd.prog 22 #[.int .i64 w] W fun e W' => e = .returned (.int .i64 (root w)) ∧ W = W' := by
  cases h : whole w
  · have hr : root w = -1 := by simp [root, h]
    rw [hr]
    go_enter Tryd.func22, Tryd.ntmps22
    go_wp2_with (go_at_call 16; refine (whole_any _ _).mono ?_; rw [h]; rintro e w' ⟨rfl, rfl⟩)
    go_ret
    exact ⟨rfl, rfl⟩
  · have hr : root w = w / 2 := by simp [root, h]
    have hw : 0 ≤ w := by unfold whole at h; simp at h; omega
    have hw2 : w ≤ 127 := by unfold whole at h; simp at h; omega
    rw [hr]
    go_enter Tryd.func22, Tryd.ntmps22
    go_wp2_with (go_at_call 16; refine (whole_any _ _).mono ?_; rw [h]; rintro e w' ⟨rfl, rfl⟩)
    go_ret
    exact ⟨rfl, rfl⟩

theorem ret_int {k : IntKind} {a b : Int} (h : a = b) : Ending.returned (.int k a) = .returned (.int k b) := by rw [h]

set_option maxHeartbeats 1000000 in
theorem tleft_any (t x : Int) (W : World) (hT : Tab W) (h0 : 0 ≤ x) (h1 : x < 127) :
    Calls Tryd.prog 46 #[.int .i64 t, .int .i64 x] W fun e W' => e = .returned (.int .i64 (lft x)) ∧ W = W' := by
  obtain ⟨r, hr⟩ : ∃ r, lft x = r := ⟨_, rfl⟩
  rw [hr]
  unfold lft at hr
  have hl := level_any x W hT
  rcases lvl_cases h0 h1 with h | h | h | h | h | h | h
  all_goals
    rw [h] at hl hr
    have HL := Lib.hid hl
    clear hl
    have HR := Lib.hid hr
    clear h hr
    go_enter Tryd.func46, Tryd.ntmps46
    go_wp2_with (go_at_call 20; refine (HL.out).mono ?_; rintro e w' ⟨rfl, rfl⟩)
    go_ret
    exact ⟨ret_int (by rw [← HR.out]; rfl), rfl⟩

set_option maxHeartbeats 1000000 in
theorem tright_any (t x : Int) (W : World) (hT : Tab W) (h0 : 0 ≤ x) (h1 : x < 127) :
    Calls Tryd.prog 48 #[.int .i64 t, .int .i64 x] W fun e W' => e = .returned (.int .i64 (rgt x)) ∧ W = W' := by
  obtain ⟨r, hr⟩ : ∃ r, rgt x = r := ⟨_, rfl⟩
  rw [hr]
  unfold rgt at hr
  have hl := level_any x W hT
  rcases lvl_cases h0 h1 with h | h | h | h | h | h | h
  all_goals
    rw [h] at hl hr
    have HL := Lib.hid hl
    clear hl
    have HR := Lib.hid hr
    clear h hr
    go_enter Tryd.func48, Tryd.ntmps48
    go_wp2_with (go_at_call 20; refine (HL.out).mono ?_; rintro e w' ⟨rfl, rfl⟩)
    go_ret
    exact ⟨ret_int (by rw [← HR.out]; rfl), rfl⟩

set_option maxHeartbeats 1000000 in
theorem tparent_any (t x : Int) (W : World) (hT : Tab W) (h0 : 0 ≤ x) (h1 : x < 127) :
    Calls Tryd.prog 49 #[.int .i64 t, .int .i64 x] W fun e W' => e = .returned (.int .i64 (par x t)) ∧ Dr W W' := by
  obtain ⟨r, hr⟩ : ∃ r, par x t = r := ⟨_, rfl⟩
  rw [hr]
  unfold par at hr
  have hl := level_any x W hT
  have hR := root_any t W
  generalize root t = rt at *
  have HRT := Lib.hid hR
  clear hR
  by_cases hx : x = rt
  · rw [if_pos hx] at hr
    subst hr
    have hq : (x == rt) = true := by simp [hx]
    clear hx hl
    go_enter Tryd.func49, Tryd.ntmps49
    go_wp2_with (go_at_call 22; refine (HRT.out).mono ?_; rintro e w' ⟨rfl, rfl⟩)
    go_ret
    exact ⟨rfl, Dr.refl _⟩
  · rw [if_neg hx] at hr
    have hq : (x == rt) = false := by simp [hx]
    clear hx
    rcases lvl_cases h0 h1 with h | h | h | h | h | h | h
    all_goals
      rw [h] at hl hr
      have HL := Lib.hid hl
      clear hl
      have HR := Lib.hid hr
      clear h hr
      go_enter Tryd.func49, Tryd.ntmps49
      go_wp2_with (first | (go_at_call 22; refine (HRT.out).mono ?_; rintro e w' ⟨rfl, rfl⟩) | (go_at_call 20; refine (HL.out).mono ?_; rintro e w' ⟨rfl, rfl⟩))
      go_quiet (fail)
      go_wp2
      go_ret
      exact ⟨ret_int (by rw [← HR.out]; rfl), (Dr.refl _).step _⟩

set_option maxHeartbeats 1000000 in
theorem tsibling_any (t x : Int) (W : World) (hT : Tab W) (h0 : 0 ≤ x) (h1 : x < 127) :
    Calls Tryd.prog 50 #[.int .i64 t, .int .i64 x] W fun e W' => e = .returned (.int .i64 (sib x t)) ∧ Dr W W' := by
  obtain ⟨r, hr⟩ : ∃ r, sib x t = r := ⟨_, rfl⟩
  rw [hr]
  unfold sib at hr
  have hp := tparent_any t x W hT h0 h1
  have hb := par_range x t h0 h1
  generalize par x t = p at *
  have HP := Lib.hid hp
  clear hp
  obtain ⟨hb0, hb1⟩ := hb
  by_cases hlt : p < 0
  · rw [if_pos hlt] at hr
    have HR := Lib.hid hr
    clear hr
    go_enter Tryd.func50, Tryd.ntmps50
    go_wp2_with (go_at_call 49; refine (HP.out).mono ?_; rintro e w' ⟨rfl, hd⟩)
    go_ret
    exact ⟨ret_int HR.out, hd⟩
  · rw [if_neg hlt] at hr
    have HR := Lib.hid hr
    clear hr
    go_enter Tryd.func50, Tryd.ntmps50
    go_wp2_with (go_at_call 49; refine (HP.out).mono ?_; rintro e w' ⟨rfl, hd⟩)
    go_ret
    exact ⟨ret_int HR.out, hd⟩

/-- What 'of' answers, of each of the four methods. -/
theorem of_any (k : Nat) (F : Int → Int → Int) (hk : k = 46 ∨ k = 48 ∨ k = 49 ∨ k = 50)
    (hF : ∀ (t x : Int) (W : World), Tab W → 0 ≤ x → x < 127 → Calls Tryd.prog k #[.int .i64 t, .int .i64 x] W fun e W' => e = .returned (.int .i64 (F x t)) ∧ Dr W W')
    (x w : Int) (W : World) (hT : Tab W) :
    Calls Tryd.prog 45 #[.func (.func k) #[] #[], .int .i64 x, .int .i64 w] W fun e W' => e = .returned (.int .i64 (if isN x w then F x w else -1)) ∧ Dr W W' := by
  cases h : isN x w
  · go_enter Tryd.func45, Tryd.ntmps45
    go_wp2_with (go_at_call 18; refine (is_any _ _ _).mono ?_; rw [h]; rintro e w' ⟨rfl, rfl⟩)
    go_ret
    exact ⟨rfl, Dr.refl _⟩
  · have hb := isN_range h
    have HF := Lib.hid (hF w x W hT hb.1 hb.2.1)
    clear hb hF
    simp only [if_true]
    generalize F x w = r at *
    rcases hk with rfl | rfl | rfl | rfl
    all_goals
      go_enter Tryd.func45, Tryd.ntmps45
      go_wp2_with (first | (go_at_call 18; refine (is_any _ _ _).mono ?_; rw [h]; rintro e w' ⟨rfl, rfl⟩) | (refine (HF.out).mono ?_; rintro e w' ⟨rfl, hd⟩))
      go_ret
      exact ⟨rfl, hd⟩

theorem left_any (x w : Int) (W : World) (hT : Tab W) :
    Calls Tryd.prog 24 #[.int .i64 x, .int .i64 w] W fun e W' => e = .returned (.int .i64 (Left x w)) ∧ Dr W W' := by
  have HO := Lib.hid (show Calls Tryd.prog 45 #[.func (.func 46) #[] #[], .int .i64 x, .int .i64 w] W (fun e W' => e = .returned (.int .i64 (Left x w)) ∧ Dr W W') from of_any 46 (fun x _ => lft x) (by simp) (fun t x W hT h0 h1 => (tleft_any t x W hT h0 h1).mono fun _ _ ⟨a, b⟩ => ⟨a, b ▸ Dr.refl _⟩) x w W hT)
  go_enter Tryd.func24, Tryd.ntmps24
  go_wp2_with (go_at_call 45; refine (HO.out).mono ?_; rintro e w' ⟨rfl, hd⟩)
  go_ret
  exact ⟨rfl, hd⟩
theorem right_any (x w : Int) (W : World) (hT : Tab W) :
    Calls Tryd.prog 26 #[.int .i64 x, .int .i64 w] W fun e W' => e = .returned (.int .i64 (Right x w)) ∧ Dr W W' := by
  have HO := Lib.hid (show Calls Tryd.prog 45 #[.func (.func 48) #[] #[], .int .i64 x, .int .i64 w] W (fun e W' => e = .returned (.int .i64 (Right x w)) ∧ Dr W W') from of_any 48 (fun x _ => rgt x) (by simp) (fun t x W hT h0 h1 => (tright_any t x W hT h0 h1).mono fun _ _ ⟨a, b⟩ => ⟨a, b ▸ Dr.refl _⟩) x w W hT)
  go_enter Tryd.func26, Tryd.ntmps26
  go_wp2_with (go_at_call 45; refine (HO.out).mono ?_; rintro e w' ⟨rfl, hd⟩)
  go_ret
  exact ⟨rfl, hd⟩
theorem parent_any (x w : Int) (W : World) (hT : Tab W) :
    Calls Tryd.prog 28 #[.int .i64 x, .int .i64 w] W fun e W' => e = .returned (.int .i64 (Parent x w)) ∧ Dr W W' := by
  have HO := Lib.hid (show Calls Tryd.prog 45 #[.func (.func 49) #[] #[], .int .i64 x, .int .i64 w] W (fun e W' => e = .returned (.int .i64 (Parent x w)) ∧ Dr W W') from of_any 49 (fun x w => par x w) (by simp) (fun t x W hT h0 h1 => tparent_any t x W hT h0 h1) x w W hT)
  go_enter Tryd.func28, Tryd.ntmps28
  go_wp2_with (go_at_call 45; refine (HO.out).mono ?_; rintro e w' ⟨rfl, hd⟩)
  go_ret
  exact ⟨rfl, hd⟩
theorem sibling_any (x w : Int) (W : World) (hT : Tab W) :
    Calls Tryd.prog 30 #[.int .i64 x, .int .i64 w] W fun e W' => e = .returned (.int .i64 (Sibling x w)) ∧ Dr W W' := by
  have HO := Lib.hid (show Calls Tryd.prog 45 #[.func (.func 50) #[] #[], .int .i64 x, .int .i64 w] W (fun e W' => e = .returned (.int .i64 (Sibling x w)) ∧ Dr W W') from of_any 50 (fun x w => sib x w) (by simp) (fun t x W hT h0 h1 => tsibling_any t x W hT h0 h1) x w W hT)
  go_enter Tryd.func30, Tryd.ntmps30
  go_wp2_with (go_at_call 45; refine (HO.out).mono ?_; rintro e w' ⟨rfl, hd⟩)
  go_ret
  exact ⟨rfl, hd⟩

end Go.Proofs.YtgfplpkmcdpbeaaDoor
