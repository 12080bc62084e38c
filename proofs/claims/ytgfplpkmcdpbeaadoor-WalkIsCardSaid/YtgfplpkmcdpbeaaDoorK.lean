/- The contracts of layers 5 and 6 in one form: what was there is as it was, the table lies, and the slices that were read before read on. And what the example of layer 6 answers. -/
import Derived.Test.YtgfplpkmcdpbeaaDoorInts
namespace Go.Proofs.YtgfplpkmcdpbeaaDoor
open Go.RowKit

structure K (W0 : World) (vs : List (Value × List Int)) (W : World) : Prop where
  below : Below W0.heap.size W0 W
  tab : Tab W
  rds : ∀ p ∈ vs, Rd W p.1 p.2
theorem dr_below {w w' : World} (h : Dr w w') (n : Nat) : Below n w w' := by
  have hg := dr_grownBy h none
  exact ⟨hg.os, hg.tape, hg.output, hg.size, fun k _ => by rw [dr_heap h]⟩
theorem K.next {W0 W W' : World} {vs : List (Value × List Int)} (h : K W0 vs W) (hb : Below W.heap.size W W') : K W0 vs W' :=
  ⟨h.below.trans (hb.mono h.below.size), h.tab.block (hb.block 1 h.tab.lt), fun p hp => (h.rds p hp).keep hb⟩
theorem K.dr {W0 W W' : World} {vs : List (Value × List Int)} (h : K W0 vs W) (hd : Dr W W') : K W0 vs W' := h.next (dr_below hd _)
theorem K.cons {W0 W : World} {vs : List (Value × List Int)} {v : Value} {l : List Int} (h : K W0 vs W) (hr : Rd W v l) : K W0 ((v, l) :: vs) W :=
  ⟨h.below, h.tab, fun p hp => by
    rcases List.mem_cons.1 hp with rfl | hp
    · exact hr
    · exact h.rds p hp⟩
theorem K.alloc {W0 W : World} {vs : List (Value × List Int)} (h : K W0 vs W) (o : Obj) : K W0 vs (W.alloc o) := h.next ((Below.refl _ W).alloc (Nat.le_refl _) o)
theorem K.refl {W : World} (h : Tab W) : K W [] W := ⟨Below.refl _ _, h, fun p hp => by cases hp⟩
theorem K.drop {W0 W : World} {vs us : List (Value × List Int)} (h : K W0 (us ++ vs) W) : K W0 vs W := ⟨h.below, h.tab, fun p hp => h.rds p (List.mem_append.2 (.inr hp))⟩

theorem whole_k (w : Int) {W0 : World} {vs : List (Value × List Int)} (W : World) (h : K W0 vs W) : Calls Tryd.prog 16 #[.int .i64 w] W fun e W' => e = .returned (.bool (whole w)) ∧ K W0 vs W' :=
  (whole_g w W W (G.refl h.tab)).mono fun _ _ ⟨a, b⟩ => ⟨a, h.dr b.dr⟩
theorem is_k (x w : Int) {W0 : World} {vs : List (Value × List Int)} (W : World) (h : K W0 vs W) : Calls Tryd.prog 18 #[.int .i64 x, .int .i64 w] W fun e W' => e = .returned (.bool (isN x w)) ∧ K W0 vs W' :=
  (is_g x w W W (G.refl h.tab)).mono fun _ _ ⟨a, b⟩ => ⟨a, h.dr b.dr⟩
theorem level_k (x : Int) {W0 : World} {vs : List (Value × List Int)} (W : World) (h : K W0 vs W) : Calls Tryd.prog 20 #[.int .i64 x] W fun e W' => e = .returned (.int .i64 (lvl x)) ∧ K W0 vs W' :=
  (level_g x W W (G.refl h.tab)).mono fun _ _ ⟨a, b⟩ => ⟨a, h.dr b.dr⟩
theorem root_k (w : Int) {W0 : World} {vs : List (Value × List Int)} (W : World) (h : K W0 vs W) : Calls Tryd.prog 22 #[.int .i64 w] W fun e W' => e = .returned (.int .i64 (root w)) ∧ K W0 vs W' :=
  (root_g w W W (G.refl h.tab)).mono fun _ _ ⟨a, b⟩ => ⟨a, h.dr b.dr⟩
theorem left_k (x w : Int) {W0 : World} {vs : List (Value × List Int)} (W : World) (h : K W0 vs W) : Calls Tryd.prog 24 #[.int .i64 x, .int .i64 w] W fun e W' => e = .returned (.int .i64 (Left x w)) ∧ K W0 vs W' :=
  (left_g x w W W (G.refl h.tab)).mono fun _ _ ⟨a, b⟩ => ⟨a, h.dr b.dr⟩
theorem right_k (x w : Int) {W0 : World} {vs : List (Value × List Int)} (W : World) (h : K W0 vs W) : Calls Tryd.prog 26 #[.int .i64 x, .int .i64 w] W fun e W' => e = .returned (.int .i64 (Right x w)) ∧ K W0 vs W' :=
  (right_g x w W W (G.refl h.tab)).mono fun _ _ ⟨a, b⟩ => ⟨a, h.dr b.dr⟩
theorem parent_k (x w : Int) {W0 : World} {vs : List (Value × List Int)} (W : World) (h : K W0 vs W) : Calls Tryd.prog 28 #[.int .i64 x, .int .i64 w] W fun e W' => e = .returned (.int .i64 (Parent x w)) ∧ K W0 vs W' :=
  (parent_g x w W W (G.refl h.tab)).mono fun _ _ ⟨a, b⟩ => ⟨a, h.dr b.dr⟩
theorem sibling_k (x w : Int) {W0 : World} {vs : List (Value × List Int)} (W : World) (h : K W0 vs W) : Calls Tryd.prog 30 #[.int .i64 x, .int .i64 w] W fun e W' => e = .returned (.int .i64 (Sibling x w)) ∧ K W0 vs W' :=
  (sibling_g x w W W (G.refl h.tab)).mono fun _ _ ⟨a, b⟩ => ⟨a, h.dr b.dr⟩
theorem below_k (x w : Int) {W0 : World} {vs : List (Value × List Int)} (W : World) (h : K W0 vs W) : Calls Tryd.prog 33 #[.int .i64 x, .int .i64 w] W fun e W' => e = .returned (.tuple #[.int .i64 (if isN x w then lo x else -1), .int .i64 (if isN x w then hi x else -1)]) ∧ K W0 vs W' :=
  (below_any x w W h.tab).mono fun _ _ ⟨a, b⟩ => ⟨a, b ▸ h⟩
theorem direct_k (x w : Int) {W0 : World} {vs : List (Value × List Int)} (W : World) (h : K W0 vs W) : Calls Tryd.prog 36 #[.int .i64 x, .int .i64 w] W fun e W' => ∃ v, e = .returned v ∧ K W0 ((v, (way x w).tail) :: vs) W' :=
  (direct_any x w W h.tab).mono fun _ _ ⟨v, a, b, c⟩ => ⟨v, a, (h.next c).cons b⟩
theorem copath_k (x w : Int) {W0 : World} {vs : List (Value × List Int)} (W : World) (h : K W0 vs W) : Calls Tryd.prog 38 #[.int .i64 x, .int .i64 w] W fun e W' => ∃ v, e = .returned v ∧ K W0 ((v, cops w (way x w)) :: vs) W' :=
  (copath_any x w W h.tab).mono fun _ _ ⟨v, a, b, c⟩ => ⟨v, a, (h.next c).cons b⟩
theorem under_k (x y w : Int) {W0 : World} {vs : List (Value × List Int)} (W : World) (h : K W0 vs W) : Calls Tryd.prog 42 #[.int .i64 x, .int .i64 y, .int .i64 w] W fun e W' => e = .returned (.bool (decide (y ∈ way x w))) ∧ K W0 vs W' :=
  (under_any x y w W h.tab).mono fun _ _ ⟨a, b⟩ => ⟨a, h.next b⟩
theorem common_k (x y w : Int) {W0 : World} {vs : List (Value × List Int)} (W : World) (h : K W0 vs W) : Calls Tryd.prog 40 #[.int .i64 x, .int .i64 y, .int .i64 w] W fun e W' => e = .returned (.int .i64 (common x y w)) ∧ K W0 vs W' :=
  (common_any x y w W h.tab).mono fun _ _ ⟨a, b⟩ => ⟨a, h.next b⟩
theorem ints_k (va vb : Value) (la lb : List Int) {W0 : World} {vs : List (Value × List Int)} (W : World) (h : K W0 vs W) (ha : Rd W va la) (hb : Rd W vb lb) : Calls Tryd.prog 35 #[va, vb] W fun e W' => e = .returned (.bool (decide (la = lb))) ∧ K W0 vs W' :=
  (ints_any va vb la lb W ha hb).mono fun _ _ ⟨a, b⟩ => ⟨a, h.dr b⟩

theorem rd_two (W : World) (p q : Int) : Rd (W.alloc (.cells #[.int .i64 p, .int .i64 q] 3)) (.slice (some ⟨W.heap.size, 0, none⟩) 2 2) [p, q] :=
  ⟨_, 2, rfl, by simp, by omega, fun _ => ⟨_, 0, rfl, fun i hi => by
    have hi2 : i < 2 := by simpa using hi
    have hh := World.alloc_heap_new W (.cells #[.int .i64 p, .int .i64 q] 3)
    rcases (show i = 0 ∨ i = 1 by omega) with rfl | rfl
    · unfold World.cell?
      simp only [Nat.zero_add]
      rw [hh]
      rfl
    · unfold World.cell?
      simp only [Nat.zero_add]
      rw [hh]
      rfl⟩⟩

set_option maxHeartbeats 2000000 in
theorem awake6_k {W0 : World} {vs : List (Value × List Int)} (W : World) (h : K W0 vs W) : Calls Tryd.prog 32 #[] W fun e W' => e = .returned (.bool true) ∧ ∃ us, K W0 (us ++ vs) W' := by
  have e0 : isN 5 7 = true := by decide
  have e1 : lo 5 = 2 := by decide
  have e2 : hi 5 = 3 := by decide
  have w1 : (way 4 7).tail = [5, 3] := by decide
  have w2 : cops 7 (way 4 7) = [6, 1] := by decide
  have w3 : common 0 2 7 = 1 := by decide
  have w4 : decide ((3 : Int) ∈ way 4 7) = true := by decide
  have w5 : decide ((4 : Int) ∈ way 3 7) = false := by decide
  have W1 := Lib.hid w1
  have W2 := Lib.hid w2
  have W4 := Lib.hid w4
  have W5 := Lib.hid w5
  clear w1 w2 w4 w5
  go_enter Tryd.func32, Tryd.ntmps32
  go_wp2_with (first
    | (go_at_call 33; refine (below_k _ _ _ (by assumption)).mono ?_; rintro e w' ⟨rfl, hg⟩)
    | (go_at_call 36; refine (direct_k _ _ _ (by assumption)).mono ?_; rw [W1.out]; rintro e w' ⟨v, rfl, hg⟩))
  refine (ints_k v _ [5, 3] [5, 3] _ (hg.alloc _) ((hg.alloc _).rds _ (List.mem_cons_self ..)) (rd_two _ _ _)).mono ?_
  rintro e w2 ⟨rfl, hg2⟩
  have hd2 : decide (([5, 3] : List Int) = [5, 3]) = true := by decide
  rw [hd2]
  clear hd2
  go_wp2_with (go_at_call 38; refine (copath_k _ _ _ hg2).mono ?_; rw [W2.out]; rintro e w3 ⟨v3, rfl, hg3⟩)
  refine (ints_k v3 _ [6, 1] [6, 1] _ (hg3.alloc _) ((hg3.alloc _).rds _ (List.mem_cons_self ..)) (rd_two _ _ _)).mono ?_
  rintro e w4 ⟨rfl, hg4⟩
  have hd4 : decide (([6, 1] : List Int) = [6, 1]) = true := by decide
  rw [hd4]
  clear hd4
  clear hg hg2 hg3
  go_wp2_with (first
    | (go_at_call 40; refine (common_k _ _ _ _ (by assumption)).mono ?_; rintro e w5 ⟨rfl, hg5⟩)
    | (go_at_call 42; refine (under_k _ _ _ _ (by assumption)).mono ?_; rw [W4.out]; rintro e w6 ⟨rfl, hg6⟩)
    | (go_at_call 42; refine (under_k _ _ _ _ (by assumption)).mono ?_; rw [W5.out]; rintro e w7 ⟨rfl, hg7⟩))
  go_ret
  exact ⟨rfl, [(v3, [6, 1]), (v, [5, 3])], by assumption⟩

theorem awake6_h {W0 : World} {vs : List (Value × List Int)} (W : World) (h : K W0 vs W) : Calls Tryd.prog 32 #[] W fun e W' => e = .returned (.bool true) ∧ K W0 vs W' :=
  (awake6_k W h).mono fun _ _ ⟨a, _, b⟩ => ⟨a, b.drop⟩

theorem K.grown {W0 W : World} {vs : List (Value × List Int)} (h : K W0 vs W) : Below W0.heap.size W0 W := h.below

end Go.Proofs.YtgfplpkmcdpbeaaDoor
