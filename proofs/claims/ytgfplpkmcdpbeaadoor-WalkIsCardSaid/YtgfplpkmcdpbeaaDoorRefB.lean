/- The contracts of the reference of layer 5, children, parents and siblings: each function answers what package index answers. -/
import Derived.Test.YtgfplpkmcdpbeaaDoorRef
namespace Go.Proofs.YtgfplpkmcdpbeaaDoor
open Go.RowKit

theorem lft_eq {x L r : Int} (h : lvl x = L) (hr : lft x = r) (hL : 0 < L) : x - (2 : Int) ^ (L - 1).toNat = r := by
  rw [← hr]
  unfold lft
  rw [h, if_pos hL]
theorem lft_zero {x r : Int} (h : lvl x = 0) (hr : lft x = r) : r = -1 := by
  rw [← hr]
  unfold lft
  rw [h]
  rfl

set_option maxHeartbeats 1000000 in
theorem rleft_any (x w : Int) (W : World) :
    Calls Tryd.prog 25 #[.int .i64 x, .int .i64 w] W fun e W' => e = .returned (.int .i64 (Left x w)) ∧ W = W' := by
  cases hi : isN x w
  · rw [Left_out hi]
    go_enter Tryd.func25, Tryd.ntmps25
    go_wp2_with (go_at_call 19; refine (ris_any _ _ _).mono ?_; rw [hi]; rintro e w' ⟨rfl, rfl⟩)
    go_ret
    exact ⟨rfl, rfl⟩
  · have hF : Left x w = lft x := by simp [Left, hi]
    rw [hF]
    obtain ⟨r0, r1, -, -⟩ := isN_range hi
    obtain ⟨b0, b6⟩ := lvl_bd r0 r1
    obtain ⟨r, hr⟩ : ∃ r, lft x = r := ⟨_, rfl⟩
    obtain ⟨L, hL⟩ : ∃ L, lvl x = L := ⟨_, rfl⟩
    rw [hr]
    have HL := Lib.hid hL
    rw [hL] at b0 b6
    have hlev := fun W => rlevel_any x W
    rw [hL] at hlev
    have HLEV := Lib.hid hlev
    clear hlev hF
    by_cases hz : L = 0
    · subst hz
      have HR := Lib.hid (lft_zero hL hr)
      clear hr hL
      go_enter Tryd.func25, Tryd.ntmps25
      go_wp2_with (first
        | (go_at_call 19; refine (ris_any _ _ _).mono ?_; rw [hi]; rintro e w' ⟨rfl, rfl⟩)
        | (go_at_call 21; refine (HLEV.out _).mono ?_; rintro e w' ⟨rfl, rfl⟩))
      go_ret
      exact ⟨ret_int HR.out.symm, rfl⟩
    · have HR := Lib.hid (lft_eq hL hr (by omega))
      have hq : (L == 0) = false := by simp [hz]
      have hL1 : 1 ≤ L := by omega
      clear hr hL hz
      obtain ⟨m, hm⟩ : ∃ m, (2 : Int) ^ (L - 1).toNat = m := ⟨_, rfl⟩
      have hp := fun W => rpower_any (L - 1) (by omega) (by omega) W
      have hmb := pow_le7 (k := (L - 1).toNat) (by omega)
      rw [hm] at hmb
      obtain ⟨hm1, hm2⟩ := hmb
      rw [hm] at hp
      have HR2 : Hid (x - m = r) := Lib.hid (by rw [← hm]; exact HR.out)
      have HP := Lib.hid hp
      clear hp HR hm
      go_enter Tryd.func25, Tryd.ntmps25
      go_wp2_with (first
        | (go_at_call 19; refine (ris_any _ _ _).mono ?_; rw [hi]; rintro e w' ⟨rfl, rfl⟩)
        | (go_at_call 21; refine (HLEV.out _).mono ?_; rintro e w' ⟨rfl, rfl⟩)
        | (go_at_call 47; refine (HP.out _).mono ?_; rintro e w' ⟨rfl, rfl⟩))
      go_ret
      exact ⟨ret_int HR2.out, rfl⟩

theorem rgt_eq {x L r : Int} (h : lvl x = L) (hr : rgt x = r) (hL : 0 < L) : x + (2 : Int) ^ (L - 1).toNat = r := by
  rw [← hr]
  unfold rgt
  rw [h, if_pos hL]
theorem rgt_zero {x r : Int} (h : lvl x = 0) (hr : rgt x = r) : r = -1 := by
  rw [← hr]
  unfold rgt
  rw [h]
  rfl

set_option maxHeartbeats 1000000 in
theorem rright_any (x w : Int) (W : World) :
    Calls Tryd.prog 27 #[.int .i64 x, .int .i64 w] W fun e W' => e = .returned (.int .i64 (Right x w)) ∧ W = W' := by
  cases hi : isN x w
  · rw [Right_out hi]
    go_enter Tryd.func27, Tryd.ntmps27
    go_wp2_with (go_at_call 19; refine (ris_any _ _ _).mono ?_; rw [hi]; rintro e w' ⟨rfl, rfl⟩)
    go_ret
    exact ⟨rfl, rfl⟩
  · have hF : Right x w = rgt x := by simp [Right, hi]
    rw [hF]
    obtain ⟨r0, r1, -, -⟩ := isN_range hi
    obtain ⟨b0, b6⟩ := lvl_bd r0 r1
    obtain ⟨r, hr⟩ : ∃ r, rgt x = r := ⟨_, rfl⟩
    obtain ⟨L, hL⟩ : ∃ L, lvl x = L := ⟨_, rfl⟩
    rw [hr]
    have HL := Lib.hid hL
    rw [hL] at b0 b6
    have hlev := fun W => rlevel_any x W
    rw [hL] at hlev
    have HLEV := Lib.hid hlev
    clear hlev hF
    by_cases hz : L = 0
    · subst hz
      have HR := Lib.hid (rgt_zero hL hr)
      clear hr hL
      go_enter Tryd.func27, Tryd.ntmps27
      go_wp2_with (first
        | (go_at_call 19; refine (ris_any _ _ _).mono ?_; rw [hi]; rintro e w' ⟨rfl, rfl⟩)
        | (go_at_call 21; refine (HLEV.out _).mono ?_; rintro e w' ⟨rfl, rfl⟩))
      go_ret
      exact ⟨ret_int HR.out.symm, rfl⟩
    · have HR := Lib.hid (rgt_eq hL hr (by omega))
      have hq : (L == 0) = false := by simp [hz]
      have hL1 : 1 ≤ L := by omega
      clear hr hL hz
      obtain ⟨m, hm⟩ : ∃ m, (2 : Int) ^ (L - 1).toNat = m := ⟨_, rfl⟩
      have hp := fun W => rpower_any (L - 1) (by omega) (by omega) W
      have hmb := pow_le7 (k := (L - 1).toNat) (by omega)
      rw [hm] at hmb
      obtain ⟨hm1, hm2⟩ := hmb
      rw [hm] at hp
      have HR2 : Hid (x + m = r) := Lib.hid (by rw [← hm]; exact HR.out)
      have HP := Lib.hid hp
      clear hp HR hm
      go_enter Tryd.func27, Tryd.ntmps27
      go_wp2_with (first
        | (go_at_call 19; refine (ris_any _ _ _).mono ?_; rw [hi]; rintro e w' ⟨rfl, rfl⟩)
        | (go_at_call 21; refine (HLEV.out _).mono ?_; rintro e w' ⟨rfl, rfl⟩)
        | (go_at_call 47; refine (HP.out _).mono ?_; rintro e w' ⟨rfl, rfl⟩))
      go_ret
      exact ⟨ret_int HR2.out, rfl⟩

def ParRef (x w : Int) : Prop := x ≠ root w → par x w = if x / 2 ^ ((lvl x).toNat + 1) % 2 = 0 then x + 2 ^ (lvl x).toNat else x - 2 ^ (lvl x).toNat
instance (x w : Int) : Decidable (ParRef x w) := by unfold ParRef; infer_instance
theorem parref_at {x w : Int} (h : isN x w = true) : ParRef x w := fin_node (P := ParRef) (by decide +kernel) h
def SibRef (x w : Int) : Prop := (Parent x w < 0 → Sibling x w = -1) ∧ (0 ≤ Parent x w → (Left (Parent x w) w = x → Sibling x w = Right (Parent x w) w) ∧ (Left (Parent x w) w ≠ x → Sibling x w = Left (Parent x w) w))
instance (x w : Int) : Decidable (SibRef x w) := by unfold SibRef; infer_instance
theorem sibref_at {x w : Int} (h : isN x w = true) : SibRef x w := fin_node (P := SibRef) (by decide +kernel) h

set_option maxHeartbeats 1000000 in
theorem rparent_any (x w : Int) (W : World) :
    Calls Tryd.prog 29 #[.int .i64 x, .int .i64 w] W fun e W' => e = .returned (.int .i64 (Parent x w)) ∧ W = W' := by
  cases hi : isN x w
  · rw [Parent_out hi]
    go_enter Tryd.func29, Tryd.ntmps29
    go_wp2_with (go_at_call 19; refine (ris_any _ _ _).mono ?_; rw [hi]; rintro e w' ⟨rfl, rfl⟩)
    go_ret
    exact ⟨rfl, rfl⟩
  · have hF : Parent x w = par x w := by simp [Parent, hi]
    rw [hF]
    obtain ⟨r0, r1, -, -⟩ := isN_range hi
    obtain ⟨b0, b6⟩ := lvl_bd r0 r1
    by_cases hx : x = root w
    · have hr : par x w = -1 := by unfold par; rw [if_pos hx]
      rw [hr]
      have hq : (x == root w) = true := by simp [← hx]
      have hroot := fun W => rroot_any w W
      rw [← hx] at hroot
      have HROOT := Lib.hid hroot
      clear hroot hr hF hx hq b0 b6
      go_enter Tryd.func29, Tryd.ntmps29
      go_wp2_with (first
        | (go_at_call 19; refine (ris_any _ _ _).mono ?_; rw [hi]; rintro e w' ⟨rfl, rfl⟩)
        | (go_at_call 23; refine (HROOT.out _).mono ?_; rintro e w' ⟨rfl, rfl⟩))
      go_ret
      exact ⟨rfl, rfl⟩
    · have hp := parref_at hi hx
      obtain ⟨r, hr⟩ : ∃ r, par x w = r := ⟨_, rfl⟩
      obtain ⟨L, hL⟩ : ∃ L, lvl x = L := ⟨_, rfl⟩
      obtain ⟨R, hR⟩ : ∃ R, root w = R := ⟨_, rfl⟩
      rw [hr] at hp ⊢
      rw [hL] at hp b0 b6
      have hroot := fun W => rroot_any w W
      rw [hR] at hroot hx
      have HROOT := Lib.hid hroot
      have hlev := fun W => rlevel_any x W
      rw [hL] at hlev
      have HLEV := Lib.hid hlev
      have hq : (x == R) = false := by simp [hx]
      clear hroot hlev hr hL hR hF hx
      have hp1 := fun W => rpower_any L (by omega) (by omega) W
      have hp2 := fun W => rpower_any (L + 1) (by omega) (by omega) W
      have e2 : (L + 1).toNat = L.toNat + 1 := by omega
      rw [e2] at hp2
      have m1 := pow_le7 (k := L.toNat) (by omega)
      have m2 := pow_le7 (k := L.toNat + 1) (by omega)
      generalize (2 : Int) ^ L.toNat = M at *
      generalize (2 : Int) ^ (L.toNat + 1) = M2 at *
      obtain ⟨m11, m12⟩ := m1
      obtain ⟨m21, m22⟩ := m2
      have HP1 := Lib.hid hp1
      have HP2 := Lib.hid hp2
      clear hp1 hp2 e2
      by_cases hc : x / M2 % 2 = 0
      · rw [if_pos hc] at hp
        have HP := Lib.hid hp
        have hqc : ((x / M2).tmod 2 == 0) = true := by rw [Int.tmod_eq_emod_of_nonneg (Int.ediv_nonneg r0 (by omega)), hc]; rfl
        clear hp hc
        go_enter Tryd.func29, Tryd.ntmps29
        go_wp2_with (first
          | (go_at_call 19; refine (ris_any _ _ _).mono ?_; rw [hi]; rintro e w' ⟨rfl, rfl⟩)
          | (go_at_call 23; refine (HROOT.out _).mono ?_; rintro e w' ⟨rfl, rfl⟩)
          | (go_at_call 21; refine (HLEV.out _).mono ?_; rintro e w' ⟨rfl, rfl⟩)
          | (go_at_call 47; ((with_reducible refine (HP2.out _).mono ?_); rintro e w' ⟨rfl, rfl⟩))
          | (go_at_call 47; ((with_reducible refine (HP1.out _).mono ?_); rintro e w' ⟨rfl, rfl⟩)))
        go_ret
        exact ⟨ret_int HP.out.symm, rfl⟩
      · rw [if_neg hc] at hp
        have HP := Lib.hid hp
        have hqc : ((x / M2).tmod 2 == 0) = false := by rw [Int.tmod_eq_emod_of_nonneg (Int.ediv_nonneg r0 (by omega))]; simp [hc]
        clear hp hc
        go_enter Tryd.func29, Tryd.ntmps29
        go_wp2_with (first
          | (go_at_call 19; refine (ris_any _ _ _).mono ?_; rw [hi]; rintro e w' ⟨rfl, rfl⟩)
          | (go_at_call 23; refine (HROOT.out _).mono ?_; rintro e w' ⟨rfl, rfl⟩)
          | (go_at_call 21; refine (HLEV.out _).mono ?_; rintro e w' ⟨rfl, rfl⟩)
          | (go_at_call 47; ((with_reducible refine (HP2.out _).mono ?_); rintro e w' ⟨rfl, rfl⟩))
          | (go_at_call 47; ((with_reducible refine (HP1.out _).mono ?_); rintro e w' ⟨rfl, rfl⟩)))
        go_ret
        exact ⟨ret_int HP.out.symm, rfl⟩

theorem Parent_root_out {x w : Int} (h : isN x w = false) : Parent x w < 0 := by rw [Parent_out h]; decide

set_option maxHeartbeats 1000000 in
theorem rsibling_any (x w : Int) (W : World) :
    Calls Tryd.prog 31 #[.int .i64 x, .int .i64 w] W fun e W' => e = .returned (.int .i64 (Sibling x w)) ∧ W = W' := by
  have hs : SibRef x w := by
    cases hi : isN x w
    · refine ⟨fun _ => Sibling_out hi, fun h => ?_⟩
      have := Parent_root_out hi
      omega
    · exact sibref_at hi
  obtain ⟨h1, h2⟩ := hs
  obtain ⟨p, hp⟩ : ∃ p, Parent x w = p := ⟨_, rfl⟩
  obtain ⟨r, hr⟩ : ∃ r, Sibling x w = r := ⟨_, rfl⟩
  have hpar := fun W => rparent_any x w W
  rw [hp] at h1 h2 hpar
  rw [hr] at h1 h2 ⊢
  have HPAR := Lib.hid hpar
  clear hpar hp hr
  by_cases hn : p < 0
  · have HR := Lib.hid (h1 hn)
    clear h1 h2
    go_enter Tryd.func31, Tryd.ntmps31
    go_wp2_with (go_at_call 29; refine (HPAR.out _).mono ?_; rintro e w' ⟨rfl, rfl⟩)
    go_ret
    exact ⟨ret_int HR.out.symm, rfl⟩
  · obtain ⟨h3, h4⟩ := h2 (by omega)
    obtain ⟨l, hl⟩ : ∃ l, Left p w = l := ⟨_, rfl⟩
    have hleft := fun W => rleft_any p w W
    rw [hl] at h3 h4 hleft
    have HLEFT := Lib.hid hleft
    clear hleft hl h1 h2
    by_cases hx : l = x
    · have HR := Lib.hid (h3 hx)
      have hq : (l == x) = true := by simp [hx]
      have HX := Lib.hid hx
      clear h3 h4 hx
      go_enter Tryd.func31, Tryd.ntmps31
      go_wp2_with (first
        | (go_at_call 29; refine (HPAR.out _).mono ?_; rintro e w' ⟨rfl, rfl⟩)
        | (go_at_call 25; refine (HLEFT.out _).mono ?_; rintro e w' ⟨rfl, rfl⟩)
        | (go_at_call 27; refine (rright_any _ _ _).mono ?_; rintro e w' ⟨rfl, rfl⟩))
      go_ret
      exact ⟨ret_int HR.out.symm, rfl⟩
    · have HR := Lib.hid (h4 hx)
      have hq : (l == x) = false := by simp [hx]
      clear h3 h4 hx
      go_enter Tryd.func31, Tryd.ntmps31
      go_wp2_with (first
        | (go_at_call 29; refine (HPAR.out _).mono ?_; rintro e w' ⟨rfl, rfl⟩)
        | (go_at_call 25; refine (HLEFT.out _).mono ?_; rintro e w' ⟨rfl, rfl⟩)
        | (go_at_call 27; refine (rright_any _ _ _).mono ?_; rintro e w' ⟨rfl, rfl⟩))
      go_ret
      exact ⟨ret_int HR.out.symm, rfl⟩

end Go.Proofs.YtgfplpkmcdpbeaaDoor
