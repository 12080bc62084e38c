/- The plain functions that package index computes (no program in sight). -/
import Derived.Lib.TrailingZeros
import Derived.RowKit
import Derived.Laws.Entries
namespace Go.Proofs.YtgfplpkmcdpbeaaDoor
open Go.RowKit

def lvl (x : Int) : Int := if 0 ≤ x ∧ x < 127 then ((Lib.ctz 64 (18446744073709551615 - x.toNat) : Nat) : Int) else -1
def whole (w : Int) : Bool := w == 1 || w == 3 || w == 7 || w == 15 || w == 31 || w == 63 || w == 127
def isN (x w : Int) : Bool := whole w && (decide (0 ≤ x) && decide (x < w))

theorem whole_and : ∀ n : Nat, n < 128 → 0 < n → (bits BinOp.and IntKind.i64 (n : Int) ((n : Int) + 1) == 0) = whole (n : Int) := by decide +kernel

theorem comp_at : ∀ n : Nat, n < 127 → bits BinOp.xor IntKind.u64 IntKind.u64.max (n : Int) = ((18446744073709551615 - n : Nat) : Int) := by decide +kernel
theorem lvl_in {x : Int} (h0 : 0 ≤ x) (h1 : x < 127) : lvl x = ((Lib.ctz 64 (18446744073709551615 - x.toNat) : Nat) : Int) := by
  unfold lvl
  rw [if_pos ⟨h0, h1⟩]
theorem lvl_out {x : Int} (h : x < 0 ∨ 127 ≤ x) : lvl x = -1 := by
  unfold lvl
  rw [if_neg (by omega)]
theorem lvl_small : ∀ n : Nat, n < 127 → lvl (n : Int) = 0 ∨ lvl (n : Int) = 1 ∨ lvl (n : Int) = 2 ∨ lvl (n : Int) = 3 ∨ lvl (n : Int) = 4 ∨ lvl (n : Int) = 5 ∨ lvl (n : Int) = 6 := by decide +kernel
theorem lvl_cases {x : Int} (h0 : 0 ≤ x) (h1 : x < 127) : lvl x = 0 ∨ lvl x = 1 ∨ lvl x = 2 ∨ lvl x = 3 ∨ lvl x = 4 ∨ lvl x = 5 ∨ lvl x = 6 := by
  obtain ⟨n, rfl⟩ := Int.eq_ofNat_of_zero_le h0
  exact lvl_small n (by omega)
theorem comp_int {x : Int} (h0 : 0 ≤ x) (h1 : x < 127) : bits BinOp.xor IntKind.u64 IntKind.u64.max x = ((18446744073709551615 - x.toNat : Nat) : Int) := by
  obtain ⟨n, rfl⟩ := Int.eq_ofNat_of_zero_le h0
  exact comp_at n (by omega)
def root (w : Int) : Int := if whole w then w / 2 else -1
/-- The left child of a node within a whole width. -/
def lft (x : Int) : Int := if 0 < lvl x then x - 2 ^ (lvl x - 1).toNat else -1
def rgt (x : Int) : Int := if 0 < lvl x then x + 2 ^ (lvl x - 1).toNat else -1
def par (x w : Int) : Int := if x = root w then -1 else bits BinOp.andNot IntKind.i64 (bits BinOp.or IntKind.i64 x (2 ^ (lvl x).toNat)) (2 ^ ((lvl x).toNat + 1))
theorem par_range_nat : ∀ n : Nat, n < 127 → 0 ≤ bits BinOp.andNot IntKind.i64 (bits BinOp.or IntKind.i64 (n : Int) (2 ^ (lvl (n : Int)).toNat)) (2 ^ ((lvl (n : Int)).toNat + 1)) ∧ bits BinOp.andNot IntKind.i64 (bits BinOp.or IntKind.i64 (n : Int) (2 ^ (lvl (n : Int)).toNat)) (2 ^ ((lvl (n : Int)).toNat + 1)) < 256 := by decide +kernel
theorem par_range (x w : Int) (h0 : 0 ≤ x) (h1 : x < 127) : -1 ≤ par x w ∧ par x w < 256 := by
  unfold par
  obtain ⟨n, rfl⟩ := Int.eq_ofNat_of_zero_le h0
  have := par_range_nat n (by omega)
  split <;> omega
theorem isN_range {x w : Int} (h : isN x w = true) : 0 ≤ x ∧ x < 127 ∧ x < w ∧ w ≤ 127 := by
  unfold isN whole at h
  simp at h
  omega
def sib (x w : Int) : Int := if par x w < 0 then -1 else 2 * par x w - x
def Left (x w : Int) : Int := if isN x w then lft x else -1
def Right (x w : Int) : Int := if isN x w then rgt x else -1
def Parent (x w : Int) : Int := if isN x w then par x w else -1
def Sibling (x w : Int) : Int := if isN x w then sib x w else -1
end Go.Proofs.YtgfplpkmcdpbeaaDoor
