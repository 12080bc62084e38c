/- Facts on pairs of a node and a leaf, held at all of them by the kernel over a quick form of the ways. -/
import Derived.Test.YtgfplpkmcdpbeaaDoorInts
namespace Go.Proofs.YtgfplpkmcdpbeaaDoor
open Go.RowKit

/-- Two to the power of the level and one. -/
def pw (n : Nat) : Nat := (n ^^^ (n + 1)) + 1
def goN (n w : Nat) : Nat → Nat → List Nat
  | 0, _ => []
  | f + 1, p => if p ≤ w + 1 then (n / p * p + p / 2 - 1) :: goN n w f (2 * p) else []
def wayN (n w : Nat) : List Nat := goN n w 8 (pw n)
def loN (x : Nat) : Nat := (x + 1 - pw x / 2) / 2
def hiN (x : Nat) : Nat := (x + pw x / 2 - 1) / 2

theorem fast_at : ∀ w ∈ widths, ∀ n : Nat, n < w → way (n : Int) (w : Int) = (wayN n w).map (fun m : Nat => (m : Int)) ∧ lo (n : Int) = (loN n : Int) ∧ hi (n : Int) = (hiN n : Int) := by decide +kernel

def pairB (w k x : Nat) : Bool := (wayN (2 * k) w).contains x == (Nat.ble (loN x) k && Nat.ble k (hiN x))
theorem pairs_all : (widths.all fun w => (List.range 64).all fun k => !Nat.ble (2 * k + 1) w || (List.range w).all fun x => pairB w k x) = true := by decide +kernel

theorem width_of {x w : Int} (h : isN x w = true) : ∃ n : Nat, w = (n : Int) ∧ n ∈ widths := by
  have hr := isN_range h
  refine ⟨w.toNat, by omega, ?_⟩
  unfold isN whole at h
  simp at h
  simp [widths]
  omega

theorem pair_at {x w k : Int} (hx : isN x w = true) (k0 : 0 ≤ k) (k63 : k ≤ 63) : isN (2 * k) w = true → (x ∈ way (2 * k) w ↔ lo x ≤ k ∧ k ≤ hi x) := by
  intro h2
  obtain ⟨n, rfl, hn⟩ := width_of hx
  obtain ⟨r0, r1, r2, r3⟩ := isN_range hx
  obtain ⟨s0, s1, s2, s3⟩ := isN_range h2
  obtain ⟨a, rfl⟩ := Int.eq_ofNat_of_zero_le r0
  obtain ⟨j, rfl⟩ := Int.eq_ofNat_of_zero_le k0
  have hall := pairs_all
  rw [List.all_eq_true] at hall
  have h3 := hall n hn
  rw [List.all_eq_true] at h3
  have h4 := h3 j (List.mem_range.2 (by omega))
  have hle : Nat.ble (2 * j + 1) n = true := Nat.ble_eq_true_of_le (by omega)
  rw [hle] at h4
  simp only [Bool.not_true, Bool.false_or] at h4
  rw [List.all_eq_true] at h4
  have h5 := h4 a (List.mem_range.2 (by omega))
  unfold pairB at h5
  have e1 : (2 : Int) * (j : Int) = ((2 * j : Nat) : Int) := by omega
  obtain ⟨f1, -, -⟩ := fast_at n hn (2 * j) (by omega)
  obtain ⟨-, f2, f3⟩ := fast_at n hn a (by omega)
  rw [e1, f1, f2, f3]
  have e2 : ((a : Int) ∈ (wayN (2 * j) n).map fun m : Nat => (m : Int)) ↔ a ∈ wayN (2 * j) n := by
    constructor
    · intro h
      obtain ⟨m, hm, he⟩ := List.mem_map.1 h
      obtain rfl : m = a := by omega
      exact hm
    · exact fun h => List.mem_map.2 ⟨a, h, rfl⟩
  rw [e2]
  have e3 := eq_of_beq h5
  constructor
  · intro hm
    rw [List.contains_iff_mem.2 hm] at e3
    have e4 := e3.symm
    rw [Bool.and_eq_true] at e4
    have b1 := Nat.le_of_ble_eq_true e4.1
    have b2 := Nat.le_of_ble_eq_true e4.2
    omega
  · rintro ⟨b1, b2⟩
    have e4 : (Nat.ble (loN a) j && Nat.ble j (hiN a)) = true := by
      rw [Bool.and_eq_true]
      exact ⟨Nat.ble_eq_true_of_le (by omega), Nat.ble_eq_true_of_le (by omega)⟩
    rw [e4] at e3
    exact List.contains_iff_mem.1 e3

def Span (x w : Int) : Prop :=
  0 ≤ lvl x ∧ lvl x ≤ 6 ∧ hi x - lo x + 1 = (2 : Int) ^ (lvl x).toNat ∧ 0 ≤ lo x ∧ hi x ≤ 63 ∧ lo x ≤ hi x ∧ (lvl x = 0 → lo x = x / 2) ∧
    (0 < lvl x → isN (Left x w) w = true ∧ isN (Right x w) w = true ∧ lo (Left x w) = lo x ∧ hi (Right x w) = hi x ∧ lo (Right x w) = hi (Left x w) + 1 ∧ 0 ≤ hi (Left x w) ∧ hi (Left x w) ≤ 63)
instance (x w : Int) : Decidable (Span x w) := by unfold Span; infer_instance
theorem span_at {x w : Int} (h : isN x w = true) : Span x w := fin_node (P := Span) (by decide +kernel) h

theorem pow_one_iff {L : Int} (h0 : 0 ≤ L) (h6 : L ≤ 6) : (2 : Int) ^ L.toNat = 1 ↔ L = 0 := by
  have : ∀ j : Nat, j ≤ 6 → ((2 : Int) ^ j = 1 ↔ j = 0) := by decide
  rw [this L.toNat (by omega)]
  omega

theorem and63 (a : Int) : 0 ≤ bits BinOp.and IntKind.i64 a 63 ∧ bits BinOp.and IntKind.i64 a 63 ≤ 63 := by
  have h : (BitVec.ofInt 64 a &&& BitVec.ofInt 64 63).toNat ≤ 63 := by
    rw [BitVec.toNat_and]
    exact Nat.and_le_right
  have e : bits BinOp.and IntKind.i64 a 63 = IntKind.i64.wrap ((BitVec.ofInt 64 a &&& BitVec.ofInt 64 63).toNat : Int) := rfl
  rw [e, IntKind.wrap_i64]
  omega

end Go.Proofs.YtgfplpkmcdpbeaaDoor
