/- The walk of a law of layer 6: it returns true, whatever the input. -/
import Derived.Test.YtgfplpkmcdpbeaaDoorRefC
namespace Go.Proofs.YtgfplpkmcdpbeaaDoor
open Go.RowKit

theorem rdirect_k (x w : Int) {W0 : World} {vs : List (Value × List Int)} (W : World) (h : K W0 vs W) : Calls Tryd.prog 37 #[.int .i64 x, .int .i64 w] W fun e W' => ∃ v, e = .returned v ∧ K W0 ((v, (way x w).tail) :: vs) W' :=
  (rdirect_any x w W h.tab).mono fun _ _ ⟨v, a, b⟩ => ⟨v, a, (h.next b.below).cons b.head⟩
theorem rcopath_k (x w : Int) {W0 : World} {vs : List (Value × List Int)} (W : World) (h : K W0 vs W) : Calls Tryd.prog 39 #[.int .i64 x, .int .i64 w] W fun e W' => ∃ v, e = .returned v ∧ K W0 ((v, cops w (way x w)) :: vs) W' :=
  (rcopath_any x w W h.tab).mono fun _ _ ⟨v, a, b⟩ => ⟨v, a, (h.next b.below).cons b.head⟩
theorem rcommon_k (x y w : Int) {W0 : World} {vs : List (Value × List Int)} (W : World) (h : K W0 vs W) : Calls Tryd.prog 41 #[.int .i64 x, .int .i64 y, .int .i64 w] W fun e W' => e = .returned (.int .i64 (common x y w)) ∧ K W0 vs W' :=
  (rcommon_any x y w W h.tab).mono fun _ _ ⟨a, b⟩ => ⟨a, h.next b.below⟩
theorem rbelow_k (x w : Int) {W0 : World} {vs : List (Value × List Int)} (W : World) (h : K W0 vs W) : Calls Tryd.prog 34 #[.int .i64 x, .int .i64 w] W fun e W' => e = .returned (.tuple #[.int .i64 (if isN x w then lo x else -1), .int .i64 (if isN x w then hi x else -1)]) ∧ K W0 vs W' :=
  (rbelow_any x w W h.tab).mono fun _ _ ⟨a, b⟩ => ⟨a, h.next b.below⟩

set_option maxHeartbeats 4000000 in
theorem wis_walk (x y w : Int) (W0 : World) (h : K W0 [] W0) :
    Calls Tryd.prog 9 #[.int .i64 x, .int .i64 y, .int .i64 w] W0 fun e W' => e = .returned (.bool true) ∧ ∃ vs, K W0 vs W' := by
  have hb1 := fun (W : World) (vs : List (Value × List Int)) (h : K W0 vs W) => below_k x w W h
  have hb2 := fun (W : World) (vs : List (Value × List Int)) (h : K W0 vs W) => rbelow_k x w W h
  obtain ⟨p, hp⟩ : ∃ p, (if isN x w = true then lo x else -1) = p := ⟨_, rfl⟩
  obtain ⟨q, hq⟩ : ∃ q, (if isN x w = true then hi x else -1) = q := ⟨_, rfl⟩
  rw [hp, hq] at hb1 hb2
  have HB1 := Lib.hid hb1
  have HB2 := Lib.hid hb2
  clear hb1 hb2 hp hq
  obtain ⟨D, hD⟩ : ∃ D, (way x w).tail = D := ⟨_, rfl⟩
  obtain ⟨C, hC⟩ : ∃ C, cops w (way x w) = C := ⟨_, rfl⟩
  have HD := Lib.hid hD
  have HC := Lib.hid hC
  clear hD hC
  go_enter Tryd.func9, Tryd.ntmps9
  go_wp2_with (first
    | (go_at_call 32; refine (awake6_h _ (by assumption)).mono ?_; rintro e w1 ⟨rfl, hk1⟩)
    | (go_at_call 33; refine (HB1.out _ _ (by assumption)).mono ?_; rintro e w2 ⟨rfl, hk2⟩)
    | (go_at_call 34; refine (HB2.out _ _ (by assumption)).mono ?_; rintro e w3 ⟨rfl, hk3⟩)
    | (go_at_call 36; refine (direct_k _ _ _ (by assumption)).mono ?_; rw [HD.out]; rintro e w4 ⟨v4, rfl, hk4⟩)
    | (go_at_call 37; refine (rdirect_k _ _ _ (by assumption)).mono ?_; rw [HD.out]; rintro e w5 ⟨v5, rfl, hk5⟩))
  refine (ints_same _ _ D _ hk5 hk5.rd2 hk5.head).mono ?_
  rintro e w6 ⟨rfl, hk6⟩
  clear hk1 hk2 hk3 hk4 hk5
  go_wp2_with (first
    | (go_at_call 38; refine (copath_k _ _ _ (by assumption)).mono ?_; rw [HC.out]; rintro e w7 ⟨v7, rfl, hk7⟩)
    | (go_at_call 39; refine (rcopath_k _ _ _ (by assumption)).mono ?_; rw [HC.out]; rintro e w8 ⟨v8, rfl, hk8⟩))
  refine (ints_same _ _ C _ hk8 hk8.rd2 hk8.head).mono ?_
  rintro e w9 ⟨rfl, hk9⟩
  clear hk6 hk7 hk8
  go_wp2_with (first
    | (go_at_call 40; refine (common_k _ _ _ _ (by assumption)).mono ?_; rintro e w10 ⟨rfl, hk10⟩)
    | (go_at_call 41; refine (rcommon_k _ _ _ _ (by assumption)).mono ?_; rintro e w11 ⟨rfl, hk11⟩)
    | (go_at_call 42; refine (under_k _ _ _ _ (by assumption)).mono ?_; rintro e w12 ⟨rfl, hk12⟩)
    | (go_at_call 43; refine (runder_k _ _ _ _ (by assumption)).mono ?_; rintro e w13 ⟨rfl, hk13⟩))
  go_ret
  exact ⟨rfl, _, hk13⟩

theorem wis_w (x y w : Int) (W : World) (hT : Tab W) : Calls Tryd.prog 9 #[.int .i64 x, .int .i64 y, .int .i64 w] W fun e W' => e = .returned (.bool true) ∧ Below W.heap.size W W' :=
  (wis_walk x y w W (K.refl hT)).mono fun _ _ ⟨a, _, b⟩ => ⟨a, b.below⟩

end Go.Proofs.YtgfplpkmcdpbeaaDoor
