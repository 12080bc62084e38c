/- Contracts of the functions that the laws reach, in the words of the kit's print; written by a program of this claim (gen_q.py). -/
import Derived.Test.YtkabbahfaeeihaaQ0
namespace Go.Proofs.Ytkabbahfaeeihaa.Q
open Go.RowKit Go.Proofs.YtkabbahfaeeihaaW.PrintWords Go.Proofs.YtkabbahfaeeihaaW.PrintLast Go.Proofs.YtkabbahfaeeihaaW.PrintMore
attribute [local go_sem] max2_int min2_int max_two min_two max_three min_three max_four min_four   -- for this text's walks alone
set_option linter.unusedVariables false
set_option linter.unusedSimpArgs false

/-! ### cordwoodref21_Keep: function 32 -/
def cordwoodref21_Keep.f (l0_0 : List (S86)) (a0_1 : Int) (a0_2 : Int) (l1 : List (S72)) : Option ((List (S86)) × Int × Int × Int × Int) := if (l0_0.length : Int) ≥ a0_1 then (some (([] : List (S86)), 0, 0, 0, 10)) else ((some (([] : List (S86)) : List (S86))).bind fun y393 => (if y393.length + l0_0.length < 4398046511104 then ((some (y393 ++ l0_0 : List (S86))).bind fun y396 => (if y396.length < 4398046511104 then (some ((y396 ++ [(⟨wrap64 (a0_2 + 1), l1⟩ : S86)]), a0_1, wrap64 (a0_2 + 1), wrap64 (a0_2 + 1), 0)) else (none))) else (none)))
def cordwoodref21_Keep.T3 : Bool × List (List Nat × List Nat) := (true, [([], []), ([], []), ([1], [1]), ([0, 2], [0, 2]), ([], []), ([4], [4]), ([], []), ([6], [6]), ([7], [7]), ([3, 5, 8], [3, 5, 8]), ([], []), ([10, 9, 3, 0, 1, 2, 3, 4, 5, 6, 7, 8, 9, 10], [9, 10])])
def cordwoodref21_Keep.B3 : List Nat := [0, 0, 2, 7, 0, 16, 0, 64, 192, 511, 0, 2047]
theorem cordwoodref21_Keep.tab3 : rtab .any (opsOf Try.f32 3) = cordwoodref21_Keep.T3 := by kernel_rfl
theorem cordwoodref21_Keep.bits3 : waitsOk cordwoodref21_Keep.T3.2 cordwoodref21_Keep.B3 = true := by kernel_rfl
set_option maxHeartbeats 8000000 in
set_option maxRecDepth 100000 in
theorem cordwoodref21_Keep.calls (P0_0_ : Nat → Prop) (A0_0 : Option Addr) (c0_0 : Nat) (l0_0 : List (S86)) (a0_1 : Int) (a0_2 : Int) (P1_ : Nat → Prop) (A1 : Option Addr) (c1 : Nat) (l1 : List (S72)) (r1 : List (S86)) (r2 : Int) (r3 : Int) (r4 : Int) (r5 : Int) (w : World) (hs0_0 : Kd.V k86 86 w w.heap.size (fun k_ => P0_0_ k_) (.slice A0_0 l0_0.length c0_0) l0_0) (hs1 : Kd.V k72 72 w w.heap.size (fun k_ => P1_ k_) (.slice A1 l1.length c1) l1) (h : cordwoodref21_Keep.f l0_0 a0_1 a0_2 l1 = some (r1, r2, r3, r4, r5)) :
    Calls Try.prog 32 #[.agg #[.slice A0_0 l0_0.length c0_0, .int .i64 a0_1, .int .i64 a0_2], .slice A1 l1.length c1] w fun e w' => ∃ v0_ : Value, e = .returned (.tuple #[.agg #[v0_, .int .i64 r2, .int .i64 r3], .int .i64 r4, .int .i64 r5]) ∧ Kd.N k86 86 w' w.heap.size (fun k_ => ((P0_0_ k_ ∨ P1_ k_) ∨ w.heap.size ≤ k_)) v0_ r1 ∧ Below w.heap.size w w' := by
  have hu46 := Try.underlying46
  have hu86 := Try.underlying86
  have HO0_0 := Aside0.mk (show Kd.V k86 86 w w.heap.size (fun k_ => ((P0_0_ k_ ∨ P1_ k_) ∨ w.heap.size ≤ k_)) (.slice A0_0 l0_0.length c0_0) l0_0 from Kd.V_mono hs0_0 (fun k_ hk => .inl (.inl hk)))
  have HO1 := Aside0.mk (show Kd.V k72 72 w w.heap.size (fun k_ => ((P0_0_ k_ ∨ P1_ k_) ∨ w.heap.size ≤ k_)) (.slice A1 l1.length c1) l1 from Kd.V_mono hs1 (fun k_ hk => .inl (.inr hk)))
  have HB := Aside0.mk (Below.refl w.heap.size w)
  have H : (if (l0_0.length : Int) ≥ a0_1 then (some (([] : List (S86)), 0, 0, 0, 10)) else ((some (([] : List (S86)) : List (S86))).bind fun y393 => (if y393.length + l0_0.length < 4398046511104 then ((some (y393 ++ l0_0 : List (S86))).bind fun y396 => (if y396.length < 4398046511104 then (some ((y396 ++ [(⟨wrap64 (a0_2 + 1), l1⟩ : S86)]), a0_1, wrap64 (a0_2 + 1), wrap64 (a0_2 + 1), 0)) else (none))) else (none)))) = some (r1, r2, r3, r4, r5) := h
  clear h
  by_cases c3 : (l0_0.length : Int) ≥ a0_1
  · rw [if_pos c3] at H
    have c3b0 : decide (a0_1 ≤ (l0_0.length : Int)) = true := decide_eq_true c3
    clear c3
    simp only [Option.some.injEq, Prod.mk.injEq] at H
    obtain ⟨rfl, rfl, rfl, rfl, rfl⟩ := H
    go_enter Try.func32, Try.ntmps32
    go_wp2_with (first | ((with_reducible refine gate_dst (N := 2) rfl ?_); refine box_event ?hg (N := 2) ?hd (cs := #[.slice A0_0 l0_0.length c0_0, .int .i64 a0_1, .int .i64 a0_2]) (t := 46) ?hr ?_; (case hd => rfl); (case hg => rfl); (case hr => first | (go_simp; done) | (go_simp; rfl)); intro gb391 hg w4 hbox hb; have n0_ := Aside0.mk (Kd.V_below (Kd.V_elderB (by (with_reducible repeat (first | apply Kd.V_alloc | apply Kd.V_drewN | apply Kd.V_drew)); exact HO0_0.out) gb391 (Nat.le_of_eq hg.symm)) hb); have n1_ := Aside0.mk (Kd.V_below (Kd.V_elderB (by (with_reducible repeat (first | apply Kd.V_alloc | apply Kd.V_drewN | apply Kd.V_drew)); exact HO1.out) gb391 (Nat.le_of_eq hg.symm)) hb); have n2_ := Aside0.mk (below_step (by repeat (first | (with_reducible first | exact HB.out | apply below_alloc | apply pw_below_drewN | apply below_drew1) | exact HB.out)) hb); have n3_ := Aside0.mk (hbox); have n4_ := Aside0.mk ((by rw [hg]; exact (below_size (by repeat (first | (with_reducible first | exact HB.out | apply below_alloc | apply pw_below_drewN | apply below_drew1) | exact HB.out))) : w.heap.size ≤ gb391)); have n5_ := Aside0.mk ((by rw [hg]; exact (below_size (by repeat (first | (with_reducible first | exact HB.out | apply below_alloc | apply pw_below_drewN | apply below_drew1) | exact HB.out))) : w.heap.size ≤ gb391)); clear HO0_0; clear HO1; clear HB; have HO0_0 := n0_; have HO1 := n1_; have HB := n2_; have BK391 := n3_; have GW391 := n4_; have GE391 := n5_; clear n0_ n1_ n2_ n3_ n4_ n5_; clear hb hbox hg) | ((with_reducible refine gate_dst (N := 4) rfl ?_); refine box_event ?hg (N := 4) ?hd (cs := #[.slice none 0 0, .int .i64 0, .int .i64 0]) (t := 46) ?hr ?_; (case hd => rfl); (case hg => rfl); (case hr => first | (go_simp; done) | (go_simp; rfl)); intro gb392 hg w5 hbox hb; have n0_ := Aside0.mk (Kd.V_below (Kd.V_elderB (by (with_reducible repeat (first | apply Kd.V_alloc | apply Kd.V_drewN | apply Kd.V_drew)); exact HO0_0.out) gb392 (Nat.le_of_eq hg.symm)) hb); have n1_ := Aside0.mk (Kd.V_below (Kd.V_elderB (by (with_reducible repeat (first | apply Kd.V_alloc | apply Kd.V_drewN | apply Kd.V_drew)); exact HO1.out) gb392 (Nat.le_of_eq hg.symm)) hb); have n2_ := Aside0.mk (blk_below (g := gb391) (o := .cells #[.slice A0_0 l0_0.length c0_0, .int .i64 a0_1, .int .i64 a0_2] 46 (0, 0)) (by (with_reducible repeat (first | refine blk_drewN ?_ _ | refine blk_drew ?_ | refine blk_alloc ?_ _)); exact BK391.out) hb); have n3_ := Aside0.mk (below_step (by repeat (first | (with_reducible first | exact HB.out | apply below_alloc | apply pw_below_drewN | apply below_drew1 | refine below_set ?_ GE391.out) | exact HB.out)) hb); have n4_ := Aside0.mk (hbox); have n5_ := Aside0.mk ((by rw [hg]; exact (below_size (by repeat (first | (with_reducible first | exact HB.out | apply below_alloc | apply pw_below_drewN | apply below_drew1 | refine below_set ?_ GE391.out) | exact HB.out))) : w.heap.size ≤ gb392)); have n6_ := Aside0.mk ((by rw [hg]; exact (below_size (by repeat (first | (with_reducible first | exact HB.out | apply below_alloc | apply pw_below_drewN | apply below_drew1 | refine below_set ?_ GE391.out) | exact HB.out))) : w.heap.size ≤ gb392)); have n7_ := Aside0.mk ((by rw [hg]; exact Nat.ne_of_lt (blk_lt (g := gb391) (o := .cells #[.slice A0_0 l0_0.length c0_0, .int .i64 a0_1, .int .i64 a0_2] 46 (0, 0)) (by (with_reducible repeat (first | refine blk_drewN ?_ _ | refine blk_drew ?_ | refine blk_alloc ?_ _)); exact BK391.out)) : gb391 ≠ gb392)); have n8_ := Aside0.mk ((by rw [hg]; exact Nat.ne_of_gt (blk_lt (g := gb391) (o := .cells #[.slice A0_0 l0_0.length c0_0, .int .i64 a0_1, .int .i64 a0_2] 46 (0, 0)) (by (with_reducible repeat (first | refine blk_drewN ?_ _ | refine blk_drew ?_ | refine blk_alloc ?_ _)); exact BK391.out)) : gb392 ≠ gb391)); clear HO0_0; clear HO1; clear BK391; clear HB; have HO0_0 := n0_; have HO1 := n1_; have BK391 := n2_; have HB := n3_; have BK392 := n4_; have GW392 := n5_; have GE392 := n6_; have NB391_392 := n7_; have NB392_391 := n8_; clear n0_ n1_ n2_ n3_ n4_ n5_ n6_ n7_ n8_; clear hb hbox hg; have hnb6 := NB391_392.out; have hnc6 := NB392_391.out; have hcz7_0 : w5.cell? ⟨gb391, 0, none⟩ = some (.slice A0_0 l0_0.length c0_0) := (blk_cell BK391.out 0).trans rfl; have hcz7_1 : w5.cell? ⟨gb391, 1, none⟩ = some (.int .i64 a0_1) := (blk_cell BK391.out 1).trans rfl; have hcz7_2 : w5.cell? ⟨gb391, 2, none⟩ = some (.int .i64 a0_2) := (blk_cell BK391.out 2).trans rfl; have hfz7_0 := blk_frozen BK391.out 0; have hfz7_1 := blk_frozen BK391.out 1; have hfz7_2 := blk_frozen BK391.out 2; have hcz8_0 : w5.cell? ⟨gb392, 0, none⟩ = some (.slice none 0 0) := (blk_cell BK392.out 0).trans rfl; have hcz8_1 : w5.cell? ⟨gb392, 1, none⟩ = some (.int .i64 0) := (blk_cell BK392.out 1).trans rfl; have hcz8_2 : w5.cell? ⟨gb392, 2, none⟩ = some (.int .i64 0) := (blk_cell BK392.out 2).trans rfl; have hfz8_0 := blk_frozen BK392.out 0; have hfz8_1 := blk_frozen BK392.out 1; have hfz8_2 := blk_frozen BK392.out 2))
    refine bodyPost_ret (results_ctt rfl _ _ gb392 46 #[.slice none 0 0, .int .i64 0, .int .i64 0] (0, 0) _ rfl (by (with_reducible repeat (first | refine blk_drewN ?_ _ | refine blk_drew ?_ | refine blk_alloc ?_ _)); refine blk_put (cs := #[.slice none 0 0, .int .i64 0, .int .i64 0]) ?_ 2 _ rfl; (with_reducible repeat (first | refine blk_drewN ?_ _ | refine blk_drew ?_ | refine blk_alloc ?_ _)); refine blk_put (cs := #[.slice none 0 0, .int .i64 0, .int .i64 0]) ?_ 1 _ rfl; (with_reducible repeat (first | refine blk_drewN ?_ _ | refine blk_drew ?_ | refine blk_alloc ?_ _)); refine blk_put (cs := #[.slice none 0 0, .int .i64 0, .int .i64 0]) ?_ 0 _ rfl; (with_reducible repeat (first | refine blk_drewN ?_ _ | refine blk_drew ?_ | refine blk_alloc ?_ _)); exact BK392.out) Try.underlying46 rfl (by kernel_rfl)) rfl ?_
    exact ⟨_, by first | rfl | (simp [errW_none, errW_some] <;> rfl) | (simp [*, errW_none, errW_some] <;> rfl), by first | exact Kd.R_nil _ _ _ _ _ | exact Kd.N_nil _ _ _ _ _ | exact Kd.V_nil _ _ _ _ _ | exact Kd.Q_nil _ _ _ _ _ | exact Kd.S_nil _ _ _ _ _, by repeat (first | (with_reducible first | exact HB.out | apply below_alloc | apply pw_below_drewN | apply below_drew1 | refine below_set ?_ GE391.out | refine below_set ?_ GE392.out) | exact HB.out)⟩
  · rw [if_neg c3] at H
    have c3b0 : decide (a0_1 ≤ (l0_0.length : Int)) = false := decide_eq_false c3
    clear c3
    obtain ⟨y393, hy393⟩ : ∃ y_ : List (S86), y_ = (([] : List (S86))) := ⟨_, rfl⟩
    replace H : (if y393.length + l0_0.length < 4398046511104 then ((some (y393 ++ l0_0 : List (S86))).bind fun y396 => (if y396.length < 4398046511104 then (some ((y396 ++ [(⟨wrap64 (a0_2 + 1), l1⟩ : S86)]), a0_1, wrap64 (a0_2 + 1), wrap64 (a0_2 + 1), 0)) else (none))) else (none)) = some (r1, r2, r3, r4, r5) := by first | (rw [hy393]; with_reducible exact H) | (have H2_ := (Option.bind_some _ _).symm.trans H; rw [hy393]; with_reducible exact H2_) | (have H2_ := (Option.bind_some _ _).symm.trans H; with_reducible exact H2_) | with_reducible exact H | (rw [hy393]; exact H) | exact H
    have Ny393 := Aside0.mk hy393
    clear hy393
    by_cases c9 : y393.length + l0_0.length < 4398046511104
    · rw [if_pos c9] at H
      have LMc9 := Aside0.mk c9
      clear c9
      obtain ⟨y396, hy396⟩ : ∃ y_ : List (S86), y_ = (y393 ++ l0_0) := ⟨_, rfl⟩
      replace H : (if y396.length < 4398046511104 then (some ((y396 ++ [(⟨wrap64 (a0_2 + 1), l1⟩ : S86)]), a0_1, wrap64 (a0_2 + 1), wrap64 (a0_2 + 1), 0)) else (none)) = some (r1, r2, r3, r4, r5) := by first | (rw [hy396]; with_reducible exact H) | (have H2_ := (Option.bind_some _ _).symm.trans H; rw [hy396]; with_reducible exact H2_) | (have H2_ := (Option.bind_some _ _).symm.trans H; with_reducible exact H2_) | with_reducible exact H | (rw [hy396]; exact H) | exact H
      have Ny396 := Aside0.mk hy396
      clear hy396
      by_cases c10 : y396.length < 4398046511104
      · rw [if_pos c10] at H
        have LMc10 := Aside0.mk c10
        clear c10
        obtain ⟨y400, hy400⟩ : ∃ y_ : List (S86), y_ = (y396 ++ [(⟨wrap64 (a0_2 + 1), l1⟩ : S86)]) := ⟨_, rfl⟩
        replace H : (some (y400, a0_1, wrap64 (a0_2 + 1), wrap64 (a0_2 + 1), 0)) = some (r1, r2, r3, r4, r5) := by first | (rw [hy400]; with_reducible exact H) | (have H2_ := (Option.bind_some _ _).symm.trans H; rw [hy400]; with_reducible exact H2_) | (have H2_ := (Option.bind_some _ _).symm.trans H; with_reducible exact H2_) | with_reducible exact H | (rw [hy400]; exact H) | exact H
        have Ny400 := Aside0.mk hy400
        clear hy400
        simp only [Option.some.injEq, Prod.mk.injEq] at H
        obtain ⟨rfl, rfl, rfl, rfl, rfl⟩ := H
        go_enter Try.func32, Try.ntmps32
        try go_wp2_with (first | ((with_reducible refine gate_dst (N := 2) rfl ?_); refine box_event ?hg (N := 2) ?hd (cs := #[.slice A0_0 l0_0.length c0_0, .int .i64 a0_1, .int .i64 a0_2]) (t := 46) ?hr ?_; (case hd => rfl); (case hg => rfl); (case hr => first | (go_simp; done) | (go_simp; rfl)); intro gb391 hg w11 hbox hb; have n0_ := Aside0.mk (Kd.V_below (Kd.V_elderB (by (with_reducible repeat (first | apply Kd.V_alloc | apply Kd.V_drewN | apply Kd.V_drew)); exact HO0_0.out) gb391 (Nat.le_of_eq hg.symm)) hb); have n1_ := Aside0.mk (Kd.V_below (Kd.V_elderB (by (with_reducible repeat (first | apply Kd.V_alloc | apply Kd.V_drewN | apply Kd.V_drew)); exact HO1.out) gb391 (Nat.le_of_eq hg.symm)) hb); have n2_ := Aside0.mk (below_step (by repeat (first | (with_reducible first | exact HB.out | apply below_alloc | apply pw_below_drewN | apply below_drew1) | exact HB.out)) hb); have n3_ := Aside0.mk (hbox); have n4_ := Aside0.mk ((by rw [hg]; exact (below_size (by repeat (first | (with_reducible first | exact HB.out | apply below_alloc | apply pw_below_drewN | apply below_drew1) | exact HB.out))) : w.heap.size ≤ gb391)); have n5_ := Aside0.mk ((by rw [hg]; exact (below_size (by repeat (first | (with_reducible first | exact HB.out | apply below_alloc | apply pw_below_drewN | apply below_drew1) | exact HB.out))) : w.heap.size ≤ gb391)); clear HO0_0; clear HO1; clear HB; have HO0_0 := n0_; have HO1 := n1_; have HB := n2_; have BK391 := n3_; have GW391 := n4_; have GE391 := n5_; clear n0_ n1_ n2_ n3_ n4_ n5_; clear hb hbox hg) | ((with_reducible refine gate_dst (N := 4) rfl ?_); refine box_event ?hg (N := 4) ?hd (cs := #[.slice none 0 0, .int .i64 0, .int .i64 0]) (t := 46) ?hr ?_; (case hd => rfl); (case hg => rfl); (case hr => first | (go_simp; done) | (go_simp; rfl)); intro gb392 hg w12 hbox hb; have n0_ := Aside0.mk (Kd.V_below (Kd.V_elderB (by (with_reducible repeat (first | apply Kd.V_alloc | apply Kd.V_drewN | apply Kd.V_drew)); exact HO0_0.out) gb392 (Nat.le_of_eq hg.symm)) hb); have n1_ := Aside0.mk (Kd.V_below (Kd.V_elderB (by (with_reducible repeat (first | apply Kd.V_alloc | apply Kd.V_drewN | apply Kd.V_drew)); exact HO1.out) gb392 (Nat.le_of_eq hg.symm)) hb); have n2_ := Aside0.mk (blk_below (g := gb391) (o := .cells #[.slice A0_0 l0_0.length c0_0, .int .i64 a0_1, .int .i64 a0_2] 46 (0, 0)) (by (with_reducible repeat (first | refine blk_drewN ?_ _ | refine blk_drew ?_ | refine blk_alloc ?_ _)); exact BK391.out) hb); have n3_ := Aside0.mk (below_step (by repeat (first | (with_reducible first | exact HB.out | apply below_alloc | apply pw_below_drewN | apply below_drew1 | refine below_set ?_ GE391.out) | exact HB.out)) hb); have n4_ := Aside0.mk (hbox); have n5_ := Aside0.mk ((by rw [hg]; exact (below_size (by repeat (first | (with_reducible first | exact HB.out | apply below_alloc | apply pw_below_drewN | apply below_drew1 | refine below_set ?_ GE391.out) | exact HB.out))) : w.heap.size ≤ gb392)); have n6_ := Aside0.mk ((by rw [hg]; exact (below_size (by repeat (first | (with_reducible first | exact HB.out | apply below_alloc | apply pw_below_drewN | apply below_drew1 | refine below_set ?_ GE391.out) | exact HB.out))) : w.heap.size ≤ gb392)); have n7_ := Aside0.mk ((by rw [hg]; exact Nat.ne_of_lt (blk_lt (g := gb391) (o := .cells #[.slice A0_0 l0_0.length c0_0, .int .i64 a0_1, .int .i64 a0_2] 46 (0, 0)) (by (with_reducible repeat (first | refine blk_drewN ?_ _ | refine blk_drew ?_ | refine blk_alloc ?_ _)); exact BK391.out)) : gb391 ≠ gb392)); have n8_ := Aside0.mk ((by rw [hg]; exact Nat.ne_of_gt (blk_lt (g := gb391) (o := .cells #[.slice A0_0 l0_0.length c0_0, .int .i64 a0_1, .int .i64 a0_2] 46 (0, 0)) (by (with_reducible repeat (first | refine blk_drewN ?_ _ | refine blk_drew ?_ | refine blk_alloc ?_ _)); exact BK391.out)) : gb392 ≠ gb391)); clear HO0_0; clear HO1; clear BK391; clear HB; have HO0_0 := n0_; have HO1 := n1_; have BK391 := n2_; have HB := n3_; have BK392 := n4_; have GW392 := n5_; have GE392 := n6_; have NB391_392 := n7_; have NB392_391 := n8_; clear n0_ n1_ n2_ n3_ n4_ n5_ n6_ n7_ n8_; clear hb hbox hg; have hnb13 := NB391_392.out; have hnc13 := NB392_391.out; have hcz14_0 : w12.cell? ⟨gb391, 0, none⟩ = some (.slice A0_0 l0_0.length c0_0) := (blk_cell BK391.out 0).trans rfl; have hcz14_1 : w12.cell? ⟨gb391, 1, none⟩ = some (.int .i64 a0_1) := (blk_cell BK391.out 1).trans rfl; have hcz14_2 : w12.cell? ⟨gb391, 2, none⟩ = some (.int .i64 a0_2) := (blk_cell BK391.out 2).trans rfl; have hfz14_0 := blk_frozen BK391.out 0; have hfz14_1 := blk_frozen BK391.out 1; have hfz14_2 := blk_frozen BK391.out 2))
        have n0_ := Aside0.mk (Kd.V_drew HO0_0.out)
        have n1_ := Aside0.mk (Kd.V_drew HO1.out)
        have n2_ := Aside0.mk (blk_drew BK391.out)
        have n3_ := Aside0.mk (blk_drew BK392.out)
        have n4_ := Aside0.mk (below_drew1 HB.out)
        clear HO0_0
        clear HO1
        clear BK391
        clear BK392
        clear HB
        have HO0_0 := n0_
        have HO1 := n1_
        have BK391 := n2_
        have BK392 := n3_
        have HB := n4_
        clear n0_ n1_ n2_ n3_ n4_
        refine start_ (n := 12) (S := fun w' => w'.cell? ⟨gb391, 0, none⟩ = some (.slice A0_0 l0_0.length c0_0) ∧ w'.cell? ⟨gb391, 1, none⟩ = some (.int .i64 a0_1) ∧ w'.cell? ⟨gb391, 2, none⟩ = some (.int .i64 a0_2)) (ds := []) #[false, false, false, false, false, false, false, false, false, false, false, false] (by kernel_rfl) rfl rfl ⟨(blk_cell BK391.out 0).trans rfl, (blk_cell BK391.out 1).trans rfl, (blk_cell BK391.out 2).trans rfl⟩ (fun hHeld => ?_); refine with_tabW cordwoodref21_Keep.tab3 cordwoodref21_Keep.bits3 (fun HT_ HW_ => ?_)
        generalize w12.drew = w15 at HO0_0 HO1 BK391 BK392 HB hHeld ⊢
        refine pure_ (i := 1) (N := some 16) (v := ?_) (a' := ?_) #[false, true, false, false, false, false, false, false, false, false, false, false] rfl rfl (any_of HT_.out (by kernel_rfl)) (fun _ _ _ h => h) (Or.inl ⟨by rfl, ?_⟩) ?_ ?_
        rotate_left
        · intro w'
          go_simp
          with_reducible rfl
        rotate_left
        · simp only [Act.put, List.setIfInBounds_toArray, List.set_cons_zero, List.set_cons_succ, i64_w, i32_w]
          rfl
        refine pure_ (i := 4) (N := some 19) (v := ?_) (a' := ?_) #[false, true, false, false, true, false, false, false, false, false, false, false] rfl rfl (any_of HT_.out (by kernel_rfl)) (fun _ _ _ h => h) (Or.inl ⟨by rfl, ?_⟩) ?_ ?_
        rotate_left
        · intro w'
          go_simp
          with_reducible rfl
        rotate_left
        · simp only [Act.put, List.setIfInBounds_toArray, List.set_cons_zero, List.set_cons_succ, i64_w, i32_w]
          rfl
        refine pure_ (i := 6) (N := some 21) (v := ?_) (a' := ?_) #[false, true, false, false, true, false, true, false, false, false, false, false] rfl rfl (any_of HT_.out (by kernel_rfl)) (fun _ _ _ h => h) (Or.inl ⟨by rfl, ?_⟩) ?_ ?_
        rotate_left
        · intro w'
          go_simp
          with_reducible rfl
        rotate_left
        · simp only [Act.put, List.setIfInBounds_toArray, List.set_cons_zero, List.set_cons_succ, i64_w, i32_w]
          rfl
        refine take_ (i := 2) (N := some 17) (v := ?_) (a' := ?_) #[false, true, true, false, true, false, true, false, false, false, false, false] rfl rfl (take_ofW HT_.out HW_.out (by kernel_rfl)) (fun _ _ _ h => h) (Or.inl ⟨by rfl, ?_⟩) hHeld ?_ ?_
        rotate_left
        · rintro w' ⟨s0, s1, s2⟩
          go_simp
          with_reducible rfl
        rotate_left
        · simp only [Act.put, List.setIfInBounds_toArray, List.set_cons_zero, List.set_cons_succ, i64_w, i32_w]
          rfl
        refine take_ (i := 5) (N := some 20) (v := ?_) (a' := ?_) #[false, true, true, false, true, true, true, false, false, false, false, false] rfl rfl (take_ofW HT_.out HW_.out (by kernel_rfl)) (fun _ _ _ h => h) (Or.inl ⟨by rfl, ?_⟩) hHeld ?_ ?_
        rotate_left
        · rintro w' ⟨s0, s1, s2⟩
          go_simp
          with_reducible rfl
        rotate_left
        · simp only [Act.put, List.setIfInBounds_toArray, List.set_cons_zero, List.set_cons_succ, i64_w, i32_w]
          rfl
        refine take_ (i := 7) (N := some 22) (v := ?_) (a' := ?_) #[false, true, true, false, true, true, true, true, false, false, false, false] rfl rfl (take_ofW HT_.out HW_.out (by kernel_rfl)) (fun _ _ _ h => h) (Or.inl ⟨by rfl, ?_⟩) hHeld ?_ ?_
        rotate_left
        · rintro w' ⟨s0, s1, s2⟩
          go_simp
          with_reducible rfl
        rotate_left
        · simp only [Act.put, List.setIfInBounds_toArray, List.set_cons_zero, List.set_cons_succ, i64_w, i32_w]
          rfl
        refine pure_ (i := 8) (N := some 23) (v := ?_) (a' := ?_) #[false, true, true, false, true, true, true, true, true, false, false, false] rfl rfl (any_of HT_.out (by kernel_rfl)) (fun _ _ _ h => h) (Or.inl ⟨by rfl, ?_⟩) ?_ ?_
        rotate_left
        · intro w'
          go_simp
          with_reducible rfl
        rotate_left
        · simp only [Act.put, List.setIfInBounds_toArray, List.set_cons_zero, List.set_cons_succ, i64_w, i32_w]
          rfl
        refine join_ (σ := Value × Value × Nat) 1 #[true, true, true, true, true, true, true, true, true, true, true, false] (fun s_ => [(15, s_.1), (18, s_.2.1), (7, .pointer (some ⟨s_.2.2, 0, none⟩)), (24, .agg #[s_.2.1, .int .i64 a0_1, .int .i64 (wrap64 (a0_2 + 1))])]) (fun s_ w' => (w'.cell? ⟨gb391, 0, none⟩ = some (.slice A0_0 l0_0.length c0_0) ∧ w'.cell? ⟨gb391, 1, none⟩ = some (.int .i64 a0_1) ∧ w'.cell? ⟨gb391, 2, none⟩ = some (.int .i64 a0_2)) ∧ (Kd.V k86 86 w' w.heap.size (fun k_ => ((P0_0_ k_ ∨ P1_ k_) ∨ w.heap.size ≤ k_) ∧ some k_ ≠ (s_.2.1 : Value).ownBlock ∧ k_ ≠ gb391 ∧ k_ ≠ gb392 ∧ k_ ≠ s_.2.2) (.slice A0_0 l0_0.length c0_0) l0_0) ∧ (Kd.V k72 72 w' w.heap.size (fun k_ => ((P0_0_ k_ ∨ P1_ k_) ∨ w.heap.size ≤ k_) ∧ some k_ ≠ (s_.2.1 : Value).ownBlock ∧ k_ ≠ gb391 ∧ k_ ≠ gb392 ∧ k_ ≠ s_.2.2) (.slice A1 l1.length c1) l1) ∧ (Kd.N k86 86 w' w.heap.size (fun k_ => ((P0_0_ k_ ∨ P1_ k_) ∨ w.heap.size ≤ k_) ∧ k_ ≠ gb391 ∧ k_ ≠ gb392 ∧ k_ ≠ s_.2.2) s_.2.1 y396) ∧ (w'.heap[gb391]? = some (.cells #[.slice A0_0 l0_0.length c0_0, .int .i64 a0_1, .int .i64 a0_2] 46 (0, 0))) ∧ (w'.heap[gb392]? = some (.cells #[.slice none 0 0, .int .i64 0, .int .i64 0] 46 (0, 0))) ∧ (w'.heap[s_.2.2]? = some (.cells #[.slice none 0 0, .int .i64 0, .int .i64 0] 46 (0, 0))) ∧ (w.heap.size ≤ s_.2.2) ∧ (w.heap.size ≤ s_.2.2) ∧ (gb391 ≠ s_.2.2) ∧ (s_.2.2 ≠ gb391) ∧ (gb392 ≠ s_.2.2) ∧ (s_.2.2 ≠ gb392) ∧ (Below w.heap.size w w')) ?_ ?_
        rotate_left
        · intro hCont
          refine two_ (i := 0) (j := 10) (Ni := some 15) (Nj := some 7) #[true, true, true, false, true, true, true, true, true, false, false, false] #[false, true, true, false, true, true, true, true, true, false, true, false] rfl rfl rfl rfl (two_of HT_.out (by kernel_rfl)) (by decide) (by decide) (fun K hK => ?_) (fun K hK => ?_)
          · skip
            refine Kd.N_lit_step k86 _ 86 ?hg (N' := 15) ?hd (xs := ([] : List (S86))) (inner := []) (ok := (fun k_ => ((P0_0_ k_ ∨ P1_ k_) ∨ w.heap.size ≤ k_) ∧ k_ ≠ gb391 ∧ k_ ≠ gb392)) (okp := (fun k_ => ((P0_0_ k_ ∨ P1_ k_) ∨ w.heap.size ≤ k_) ∧ k_ ≠ gb391 ∧ k_ ≠ gb392)) ?hr ?hp (fun _ hk => hk) ((show ∀ k_, w15.heap.size ≤ k_ → (fun k_ => ((P0_0_ k_ ∨ P1_ k_) ∨ w.heap.size ≤ k_) ∧ k_ ≠ gb391 ∧ k_ ≠ gb392) k_ from fun k_ hk => ⟨(.inr (Nat.le_trans (below_size (by repeat (first | (with_reducible first | exact HB.out | apply below_alloc | apply pw_below_drewN | apply below_drew1 | refine below_set ?_ GE391.out | refine below_set ?_ GE392.out) | exact HB.out))) hk)), Kd.freshB (g := gb391) (o := .cells #[.slice A0_0 l0_0.length c0_0, .int .i64 a0_1, .int .i64 a0_2] 46 (0, 0)) (by (with_reducible repeat (first | refine blk_drewN ?_ _ | refine blk_drew ?_ | refine blk_alloc ?_ _)); exact BK391.out) k_ hk, Kd.freshB (g := gb392) (o := .cells #[.slice none 0 0, .int .i64 0, .int .i64 0] 46 (0, 0)) (by (with_reducible repeat (first | refine blk_drewN ?_ _ | refine blk_drew ?_ | refine blk_alloc ?_ _)); exact BK392.out) k_ hk⟩) _ (Nat.le_refl _)) (Below.refl _ _) (Nat.le_refl _) (by simp) ?_; (case hd => rfl); (case hg => rfl); (case hr => first | (go_simp; done) | (go_simp; rfl)); (case hp => exact (Reps.none _ _))
            intro v394 w16 ho17 hb hg_ hnew_
            clear hg_ hnew_
            (first | rw [← Ny393.out] at ho17 | (simp only [Int.reduceToNat] at ho17; rw [← Ny393.out] at ho17))
            have n0_ := Aside0.mk (Kd.V_elder' (by (with_reducible repeat (first | apply Kd.V_alloc | apply Kd.V_drewN | apply Kd.V_drew)); exact HO0_0.out) (Kd.N_base ho17) hb)
            have n1_ := Aside0.mk (Kd.V_elder' (by (with_reducible repeat (first | apply Kd.V_alloc | apply Kd.V_drewN | apply Kd.V_drew)); exact HO1.out) (Kd.N_base ho17) hb)
            have n2_ := Aside0.mk (Kd.N_lower ho17 (below_size (by repeat (first | (with_reducible first | exact HB.out | apply below_alloc | apply pw_below_drewN | apply below_drew1 | refine below_set ?_ GE391.out | refine below_set ?_ GE392.out) | exact HB.out))))
            have n3_ := Aside0.mk (blk_below (g := gb391) (o := .cells #[.slice A0_0 l0_0.length c0_0, .int .i64 a0_1, .int .i64 a0_2] 46 (0, 0)) (by (with_reducible repeat (first | refine blk_drewN ?_ _ | refine blk_drew ?_ | refine blk_alloc ?_ _)); exact BK391.out) hb)
            have n4_ := Aside0.mk (blk_below (g := gb392) (o := .cells #[.slice none 0 0, .int .i64 0, .int .i64 0] 46 (0, 0)) (by (with_reducible repeat (first | refine blk_drewN ?_ _ | refine blk_drew ?_ | refine blk_alloc ?_ _)); exact BK392.out) hb)
            have n5_ := Aside0.mk (below_step (by repeat (first | (with_reducible first | exact HB.out | apply below_alloc | apply pw_below_drewN | apply below_drew1 | refine below_set ?_ GE391.out | refine below_set ?_ GE392.out) | exact HB.out)) hb)
            clear HO0_0
            clear HO1
            clear BK391
            clear BK392
            clear HB
            have HO0_0 := n0_
            have HO1 := n1_
            have HO395 := n2_
            have BK391 := n3_
            have BK392 := n4_
            have HB := n5_
            clear n0_ n1_ n2_ n3_ n4_ n5_
            clear hb ho17
            refine hK.out _ _ ⟨(blk_cell BK391.out 0).trans rfl, (blk_cell BK391.out 1).trans rfl, (blk_cell BK391.out 2).trans rfl⟩ (fun hHeld => ?_)
            clear hK K
            refine norm_ (a' := ?_) ?_ ?_
            rotate_left
            · show Act.put _ (some 15) _ = _
              simp only [Act.put, List.setIfInBounds_toArray, List.set_cons_zero, List.set_cons_succ, i64_w, i32_w]
              rfl
            refine two_ (i := 3) (j := 10) (Ni := some 18) (Nj := some 7) #[true, true, true, true, true, true, true, true, true, false, false, false] #[true, true, true, false, true, true, true, true, true, false, true, false] rfl rfl rfl rfl (two_of HT_.out (by kernel_rfl)) (by decide) (by decide) (fun K hK => ?_) (fun K hK => ?_)
            · skip
              refine Kd.N_append_rows_step k86 (w0 := w) w.heap.size (by rfl) (.tmp 15) (.tmp 17) 44 86 (.agg #[(.int .i64 0), (.slice none 0 0)]) 32 rfl Try.underlying44 info86 rfl (by decide) (by omega) v394 y393 l0_0 _ _ _ (fun k_ => ((P0_0_ k_ ∨ P1_ k_) ∨ w.heap.size ≤ k_) ∧ k_ ≠ gb391 ∧ k_ ≠ gb392) (fun k_ => ((fun k_ => ((P0_0_ k_ ∨ P1_ k_) ∨ w.heap.size ≤ k_) ∧ k_ ≠ gb391 ∧ k_ ≠ gb392)) k_ ∧ some k_ ≠ (v394 : Value).ownBlock) rfl rfl ?aO ?aR (fun _ hk => hk) ?aF ?aB ?aS ?aL ?_
              (case aR => exact (by skip; exact Kd.V_F (Kd.V_mono (ok' := (fun k_ => ((fun k_ => ((P0_0_ k_ ∨ P1_ k_) ∨ w.heap.size ≤ k_) ∧ k_ ≠ gb391 ∧ k_ ≠ gb392)) k_ ∧ some k_ ≠ (v394 : Value).ownBlock)) (HO0_0.out) (fun k_ hk => ⟨⟨hk.1.1.1, ⟨hk.1.1.2, hk.1.2⟩⟩, hk.2⟩))))
              (case aB => exact (by repeat (first | (with_reducible first | exact HB.out | apply below_alloc | apply pw_below_drewN | apply below_drew1 | refine below_set ?_ GE391.out | refine below_set ?_ GE392.out) | exact HB.out)))
              (case aF => exact (fun k_ hk => ⟨(.inr (Nat.le_trans (below_size (by repeat (first | (with_reducible first | exact HB.out | apply below_alloc | apply pw_below_drewN | apply below_drew1 | refine below_set ?_ GE391.out | refine below_set ?_ GE392.out) | exact HB.out))) hk)), Kd.freshB (g := gb391) (o := .cells #[.slice A0_0 l0_0.length c0_0, .int .i64 a0_1, .int .i64 a0_2] 46 (0, 0)) (by (with_reducible repeat (first | refine blk_drewN ?_ _ | refine blk_drew ?_ | refine blk_alloc ?_ _)); exact BK391.out) k_ hk, Kd.freshB (g := gb392) (o := .cells #[.slice none 0 0, .int .i64 0, .int .i64 0] 46 (0, 0)) (by (with_reducible repeat (first | refine blk_drewN ?_ _ | refine blk_drew ?_ | refine blk_alloc ?_ _)); exact BK392.out) k_ hk⟩))
              (case aO => exact (by (with_reducible repeat (first | apply Kd.N_alloc | apply Kd.N_drewN | apply Kd.N_drew)); exact HO395.out))
              (case aS => exact (below_size (by repeat (first | (with_reducible first | exact HB.out | apply below_alloc | apply pw_below_drewN | apply below_drew1 | refine below_set ?_ GE391.out | refine below_set ?_ GE392.out) | exact HB.out))))
              (case aL => have := LMc9.out; omega)
              intro v397 w18 ho hb hg hat
              rw [← Ny396.out] at ho
              have n0_ := Aside0.mk (Kd.V_afterv (ok := (fun k_ => ((P0_0_ k_ ∨ P1_ k_) ∨ w.heap.size ≤ k_) ∧ k_ ≠ gb391 ∧ k_ ≠ gb392)) (by (with_reducible repeat (first | apply Kd.V_alloc | apply Kd.V_drewN | apply Kd.V_drew)); exact Kd.V_mono HO0_0.out (fun _ hk => ⟨⟨hk.1.1.1, ⟨hk.1.1.2, hk.1.2⟩⟩, hk.2⟩)) hg hat)
              have n1_ := Aside0.mk (Kd.V_afterv (ok := (fun k_ => ((P0_0_ k_ ∨ P1_ k_) ∨ w.heap.size ≤ k_) ∧ k_ ≠ gb391 ∧ k_ ≠ gb392)) (by (with_reducible repeat (first | apply Kd.V_alloc | apply Kd.V_drewN | apply Kd.V_drew)); exact Kd.V_mono HO1.out (fun _ hk => ⟨⟨hk.1.1.1, ⟨hk.1.1.2, hk.1.2⟩⟩, hk.2⟩)) hg hat)
              have n2_ := Aside0.mk (blk_grown (g := gb391) (o := .cells #[.slice A0_0 l0_0.length c0_0, .int .i64 a0_1, .int .i64 a0_2] 46 (0, 0)) (by (with_reducible repeat (first | refine blk_drewN ?_ _ | refine blk_drew ?_ | refine blk_alloc ?_ _)); exact BK391.out) hg (Kd.N_ne HO395.out BK391.out (by decide)))
              have n3_ := Aside0.mk (blk_grown (g := gb392) (o := .cells #[.slice none 0 0, .int .i64 0, .int .i64 0] 46 (0, 0)) (by (with_reducible repeat (first | refine blk_drewN ?_ _ | refine blk_drew ?_ | refine blk_alloc ?_ _)); exact BK392.out) hg (Kd.N_ne HO395.out BK392.out (by decide)))
              have n4_ := Aside0.mk (hb)
              have n5_ := Aside0.mk (ho)
              clear HO0_0
              clear HO1
              clear BK391
              clear BK392
              clear HB
              clear HO395
              have HO0_0 := n0_
              have HO1 := n1_
              have BK391 := n2_
              have BK392 := n3_
              have HB := n4_
              have HO398 := n5_
              clear n0_ n1_ n2_ n3_ n4_ n5_
              clear ho hb hg hat
              obtain ⟨Ao19, co19, eo19⟩ := Kd.N_slice HO398.out
              (first | subst eo19 | (injection eo19 with f1_ f2_ f3_; have f4_ := f1_.symm; have f5_ := f3_.symm; clear f1_ f2_ f3_; subst f4_; subst f5_))
              refine hK.out _ _ ⟨(blk_cell BK391.out 0).trans rfl, (blk_cell BK391.out 1).trans rfl, (blk_cell BK391.out 2).trans rfl⟩ (fun hHeld => ?_)
              clear hK K
              refine norm_ (a' := ?_) ?_ ?_
              rotate_left
              · show Act.put _ (some 18) _ = _
                simp only [Act.put, List.setIfInBounds_toArray, List.set_cons_zero, List.set_cons_succ, i64_w, i32_w]
                rfl
              refine pure_ (i := 9) (N := some 24) (v := ?_) (a' := ?_) #[true, true, true, true, true, true, true, true, true, true, false, false] rfl rfl (any_of HT_.out (by kernel_rfl)) (fun _ _ _ h => h) (Or.inl ⟨by rfl, ?_⟩) ?_ ?_
              rotate_left
              · intro w'
                go_simp
                with_reducible rfl
              rotate_left
              · simp only [Act.put, List.setIfInBounds_toArray, List.set_cons_zero, List.set_cons_succ, i64_w, i32_w]
                rfl
              refine one_ (i := 10) (N := some 7) #[true, true, true, true, true, true, true, true, true, true, true, false] rfl rfl (one_of HT_.out (by kernel_rfl)) (by decide) (fun K hK => ?_)
              refine box_step ?hg (N := 7) ?hd (cs := #[.slice none 0 0, .int .i64 0, .int .i64 0]) (t := 46) ?hr ?_; (case hd => rfl); (case hg => rfl); (case hr => first | (go_simp; done) | (go_simp; rfl))
              intro gb399 hg w20 hbox hb
              have n0_ := Aside0.mk (Kd.V_below (Kd.V_elderB (by (with_reducible repeat (first | apply Kd.V_alloc | apply Kd.V_drewN | apply Kd.V_drew)); exact HO0_0.out) gb399 (Nat.le_of_eq hg.symm)) hb)
              have n1_ := Aside0.mk (Kd.V_below (Kd.V_elderB (by (with_reducible repeat (first | apply Kd.V_alloc | apply Kd.V_drewN | apply Kd.V_drew)); exact HO1.out) gb399 (Nat.le_of_eq hg.symm)) hb)
              have n2_ := Aside0.mk (Kd.N_below (Kd.N_elderB (by (with_reducible repeat (first | apply Kd.N_alloc | apply Kd.N_drewN | apply Kd.N_drew)); exact HO398.out) gb399 (Nat.le_of_eq hg.symm)) hb)
              have n3_ := Aside0.mk (blk_below (g := gb391) (o := .cells #[.slice A0_0 l0_0.length c0_0, .int .i64 a0_1, .int .i64 a0_2] 46 (0, 0)) (by (with_reducible repeat (first | refine blk_drewN ?_ _ | refine blk_drew ?_ | refine blk_alloc ?_ _)); exact BK391.out) hb)
              have n4_ := Aside0.mk (blk_below (g := gb392) (o := .cells #[.slice none 0 0, .int .i64 0, .int .i64 0] 46 (0, 0)) (by (with_reducible repeat (first | refine blk_drewN ?_ _ | refine blk_drew ?_ | refine blk_alloc ?_ _)); exact BK392.out) hb)
              have n5_ := Aside0.mk (below_step (by repeat (first | (with_reducible first | exact HB.out | apply below_alloc | apply pw_below_drewN | apply below_drew1 | refine below_set ?_ GE391.out | refine below_set ?_ GE392.out) | exact HB.out)) hb)
              have n6_ := Aside0.mk (hbox)
              have n7_ := Aside0.mk ((by rw [hg]; exact (below_size (by repeat (first | (with_reducible first | exact HB.out | apply below_alloc | apply pw_below_drewN | apply below_drew1 | refine below_set ?_ GE391.out | refine below_set ?_ GE392.out) | exact HB.out))) : w.heap.size ≤ gb399))
              have n8_ := Aside0.mk ((by rw [hg]; exact (below_size (by repeat (first | (with_reducible first | exact HB.out | apply below_alloc | apply pw_below_drewN | apply below_drew1 | refine below_set ?_ GE391.out | refine below_set ?_ GE392.out) | exact HB.out))) : w.heap.size ≤ gb399))
              have n9_ := Aside0.mk ((by rw [hg]; exact Nat.ne_of_lt (blk_lt (g := gb391) (o := .cells #[.slice A0_0 l0_0.length c0_0, .int .i64 a0_1, .int .i64 a0_2] 46 (0, 0)) (by (with_reducible repeat (first | refine blk_drewN ?_ _ | refine blk_drew ?_ | refine blk_alloc ?_ _)); exact BK391.out)) : gb391 ≠ gb399))
              have n10_ := Aside0.mk ((by rw [hg]; exact Nat.ne_of_gt (blk_lt (g := gb391) (o := .cells #[.slice A0_0 l0_0.length c0_0, .int .i64 a0_1, .int .i64 a0_2] 46 (0, 0)) (by (with_reducible repeat (first | refine blk_drewN ?_ _ | refine blk_drew ?_ | refine blk_alloc ?_ _)); exact BK391.out)) : gb399 ≠ gb391))
              have n11_ := Aside0.mk ((by rw [hg]; exact Nat.ne_of_lt (blk_lt (g := gb392) (o := .cells #[.slice none 0 0, .int .i64 0, .int .i64 0] 46 (0, 0)) (by (with_reducible repeat (first | refine blk_drewN ?_ _ | refine blk_drew ?_ | refine blk_alloc ?_ _)); exact BK392.out)) : gb392 ≠ gb399))
              have n12_ := Aside0.mk ((by rw [hg]; exact Nat.ne_of_gt (blk_lt (g := gb392) (o := .cells #[.slice none 0 0, .int .i64 0, .int .i64 0] 46 (0, 0)) (by (with_reducible repeat (first | refine blk_drewN ?_ _ | refine blk_drew ?_ | refine blk_alloc ?_ _)); exact BK392.out)) : gb399 ≠ gb392))
              clear HO0_0
              clear HO1
              clear HO398
              clear BK391
              clear BK392
              clear HB
              have HO0_0 := n0_
              have HO1 := n1_
              have HO398 := n2_
              have BK391 := n3_
              have BK392 := n4_
              have HB := n5_
              have BK399 := n6_
              have GW399 := n7_
              have GE399 := n8_
              have NB391_399 := n9_
              have NB399_391 := n10_
              have NB392_399 := n11_
              have NB399_392 := n12_
              clear n0_ n1_ n2_ n3_ n4_ n5_ n6_ n7_ n8_ n9_ n10_ n11_ n12_
              clear hb hbox hg
              refine hK.out _ _ ⟨(blk_cell BK391.out 0).trans rfl, (blk_cell BK391.out 1).trans rfl, (blk_cell BK391.out 2).trans rfl⟩ (fun hHeld => ?_)
              clear hK K
              refine norm_ (a' := ?_) ?_ ?_
              rotate_left
              · show Act.put _ (some 7) _ = _
                simp only [Act.put, List.setIfInBounds_toArray, List.set_cons_zero, List.set_cons_succ, i64_w, i32_w]
                rfl
              exact norm_ (by simp only [putAll, Act.put, List.setIfInBounds_toArray, List.set_cons_zero, List.set_cons_succ]) (hCont (v394, .slice Ao19 y396.length co19, gb399) _ ⟨hHeld, (by (with_reducible repeat (first | apply Kd.V_alloc | apply Kd.V_drewN | apply Kd.V_drew)); exact Kd.V_mono HO0_0.out (fun _ hk => ⟨hk.1.1.1, ⟨hk.1.2, ⟨hk.1.1.2.1, ⟨hk.1.1.2.2, hk.2⟩⟩⟩⟩)), (by (with_reducible repeat (first | apply Kd.V_alloc | apply Kd.V_drewN | apply Kd.V_drew)); exact Kd.V_mono HO1.out (fun _ hk => ⟨hk.1.1.1, ⟨hk.1.2, ⟨hk.1.1.2.1, ⟨hk.1.1.2.2, hk.2⟩⟩⟩⟩)), (by (with_reducible repeat (first | apply Kd.N_alloc | apply Kd.N_drewN | apply Kd.N_drew)); exact Kd.N_mono HO398.out (fun _ hk => ⟨hk.1.1, ⟨hk.1.2.1, ⟨hk.1.2.2, hk.2⟩⟩⟩)), (by (with_reducible repeat (first | refine blk_drewN ?_ _ | refine blk_drew ?_ | refine blk_alloc ?_ _)); exact BK391.out), (by (with_reducible repeat (first | refine blk_drewN ?_ _ | refine blk_drew ?_ | refine blk_alloc ?_ _)); exact BK392.out), (by (with_reducible repeat (first | refine blk_drewN ?_ _ | refine blk_drew ?_ | refine blk_alloc ?_ _)); exact BK399.out), GW399.out, GE399.out, NB391_399.out, NB399_391.out, NB392_399.out, NB399_392.out, (by repeat (first | (with_reducible first | exact HB.out | apply below_alloc | apply pw_below_drewN | apply below_drew1 | refine below_set ?_ GE391.out | refine below_set ?_ GE392.out | refine below_set ?_ GE399.out) | exact HB.out))⟩)
            · skip
              refine box_step ?hg (N := 7) ?hd (cs := #[.slice none 0 0, .int .i64 0, .int .i64 0]) (t := 46) ?hr ?_; (case hd => rfl); (case hg => rfl); (case hr => first | (go_simp; done) | (go_simp; rfl))
              intro gb399 hg w18 hbox hb
              have n0_ := Aside0.mk (Kd.V_below (Kd.V_elderB (by (with_reducible repeat (first | apply Kd.V_alloc | apply Kd.V_drewN | apply Kd.V_drew)); exact HO0_0.out) gb399 (Nat.le_of_eq hg.symm)) hb)
              have n1_ := Aside0.mk (Kd.V_below (Kd.V_elderB (by (with_reducible repeat (first | apply Kd.V_alloc | apply Kd.V_drewN | apply Kd.V_drew)); exact HO1.out) gb399 (Nat.le_of_eq hg.symm)) hb)
              have n2_ := Aside0.mk (Kd.N_below (Kd.N_elderB (by (with_reducible repeat (first | apply Kd.N_alloc | apply Kd.N_drewN | apply Kd.N_drew)); exact HO395.out) gb399 (Nat.le_of_eq hg.symm)) hb)
              have n3_ := Aside0.mk (blk_below (g := gb391) (o := .cells #[.slice A0_0 l0_0.length c0_0, .int .i64 a0_1, .int .i64 a0_2] 46 (0, 0)) (by (with_reducible repeat (first | refine blk_drewN ?_ _ | refine blk_drew ?_ | refine blk_alloc ?_ _)); exact BK391.out) hb)
              have n4_ := Aside0.mk (blk_below (g := gb392) (o := .cells #[.slice none 0 0, .int .i64 0, .int .i64 0] 46 (0, 0)) (by (with_reducible repeat (first | refine blk_drewN ?_ _ | refine blk_drew ?_ | refine blk_alloc ?_ _)); exact BK392.out) hb)
              have n5_ := Aside0.mk (below_step (by repeat (first | (with_reducible first | exact HB.out | apply below_alloc | apply pw_below_drewN | apply below_drew1 | refine below_set ?_ GE391.out | refine below_set ?_ GE392.out) | exact HB.out)) hb)
              have n6_ := Aside0.mk (hbox)
              have n7_ := Aside0.mk ((by rw [hg]; exact (below_size (by repeat (first | (with_reducible first | exact HB.out | apply below_alloc | apply pw_below_drewN | apply below_drew1 | refine below_set ?_ GE391.out | refine below_set ?_ GE392.out) | exact HB.out))) : w.heap.size ≤ gb399))
              have n8_ := Aside0.mk ((by rw [hg]; exact (below_size (by repeat (first | (with_reducible first | exact HB.out | apply below_alloc | apply pw_below_drewN | apply below_drew1 | refine below_set ?_ GE391.out | refine below_set ?_ GE392.out) | exact HB.out))) : w.heap.size ≤ gb399))
              have n9_ := Aside0.mk ((by rw [hg]; exact Nat.ne_of_lt (blk_lt (g := gb391) (o := .cells #[.slice A0_0 l0_0.length c0_0, .int .i64 a0_1, .int .i64 a0_2] 46 (0, 0)) (by (with_reducible repeat (first | refine blk_drewN ?_ _ | refine blk_drew ?_ | refine blk_alloc ?_ _)); exact BK391.out)) : gb391 ≠ gb399))
              have n10_ := Aside0.mk ((by rw [hg]; exact Nat.ne_of_gt (blk_lt (g := gb391) (o := .cells #[.slice A0_0 l0_0.length c0_0, .int .i64 a0_1, .int .i64 a0_2] 46 (0, 0)) (by (with_reducible repeat (first | refine blk_drewN ?_ _ | refine blk_drew ?_ | refine blk_alloc ?_ _)); exact BK391.out)) : gb399 ≠ gb391))
              have n11_ := Aside0.mk ((by rw [hg]; exact Nat.ne_of_lt (blk_lt (g := gb392) (o := .cells #[.slice none 0 0, .int .i64 0, .int .i64 0] 46 (0, 0)) (by (with_reducible repeat (first | refine blk_drewN ?_ _ | refine blk_drew ?_ | refine blk_alloc ?_ _)); exact BK392.out)) : gb392 ≠ gb399))
              have n12_ := Aside0.mk ((by rw [hg]; exact Nat.ne_of_gt (blk_lt (g := gb392) (o := .cells #[.slice none 0 0, .int .i64 0, .int .i64 0] 46 (0, 0)) (by (with_reducible repeat (first | refine blk_drewN ?_ _ | refine blk_drew ?_ | refine blk_alloc ?_ _)); exact BK392.out)) : gb399 ≠ gb392))
              clear HO0_0
              clear HO1
              clear HO395
              clear BK391
              clear BK392
              clear HB
              have HO0_0 := n0_
              have HO1 := n1_
              have HO395 := n2_
              have BK391 := n3_
              have BK392 := n4_
              have HB := n5_
              have BK399 := n6_
              have GW399 := n7_
              have GE399 := n8_
              have NB391_399 := n9_
              have NB399_391 := n10_
              have NB392_399 := n11_
              have NB399_392 := n12_
              clear n0_ n1_ n2_ n3_ n4_ n5_ n6_ n7_ n8_ n9_ n10_ n11_ n12_
              clear hb hbox hg
              refine hK.out _ _ ⟨(blk_cell BK391.out 0).trans rfl, (blk_cell BK391.out 1).trans rfl, (blk_cell BK391.out 2).trans rfl⟩ (fun hHeld => ?_)
              clear hK K
              refine norm_ (a' := ?_) ?_ ?_
              rotate_left
              · show Act.put _ (some 7) _ = _
                simp only [Act.put, List.setIfInBounds_toArray, List.set_cons_zero, List.set_cons_succ, i64_w, i32_w]
                rfl
              refine one_ (i := 3) (N := some 18) #[true, true, true, true, true, true, true, true, true, false, true, false] rfl rfl (one_of HT_.out (by kernel_rfl)) (by decide) (fun K hK => ?_)
              refine Kd.N_append_rows_step k86 (w0 := w) w.heap.size (by rfl) (.tmp 15) (.tmp 17) 44 86 (.agg #[(.int .i64 0), (.slice none 0 0)]) 32 rfl Try.underlying44 info86 rfl (by decide) (by omega) v394 y393 l0_0 _ _ _ (fun k_ => ((P0_0_ k_ ∨ P1_ k_) ∨ w.heap.size ≤ k_) ∧ k_ ≠ gb391 ∧ k_ ≠ gb392 ∧ k_ ≠ gb399) (fun k_ => ((fun k_ => ((P0_0_ k_ ∨ P1_ k_) ∨ w.heap.size ≤ k_) ∧ k_ ≠ gb391 ∧ k_ ≠ gb392 ∧ k_ ≠ gb399)) k_ ∧ some k_ ≠ (v394 : Value).ownBlock) rfl rfl ?aO ?aR (fun _ hk => hk) ?aF ?aB ?aS ?aL ?_
              (case aR => exact (by skip; exact Kd.V_F (Kd.V_mono (ok' := (fun k_ => ((fun k_ => ((P0_0_ k_ ∨ P1_ k_) ∨ w.heap.size ≤ k_) ∧ k_ ≠ gb391 ∧ k_ ≠ gb392 ∧ k_ ≠ gb399)) k_ ∧ some k_ ≠ (v394 : Value).ownBlock)) (HO0_0.out) (fun k_ hk => ⟨⟨hk.1.1.1.1, ⟨hk.1.1.1.2, ⟨hk.1.1.2, hk.2⟩⟩⟩, hk.1.2⟩))))
              (case aB => exact (by repeat (first | (with_reducible first | exact HB.out | apply below_alloc | apply pw_below_drewN | apply below_drew1 | refine below_set ?_ GE391.out | refine below_set ?_ GE392.out | refine below_set ?_ GE399.out) | exact HB.out)))
              (case aF => exact (fun k_ hk => ⟨(.inr (Nat.le_trans (below_size (by repeat (first | (with_reducible first | exact HB.out | apply below_alloc | apply pw_below_drewN | apply below_drew1 | refine below_set ?_ GE391.out | refine below_set ?_ GE392.out | refine below_set ?_ GE399.out) | exact HB.out))) hk)), Kd.freshB (g := gb391) (o := .cells #[.slice A0_0 l0_0.length c0_0, .int .i64 a0_1, .int .i64 a0_2] 46 (0, 0)) (by (with_reducible repeat (first | refine blk_drewN ?_ _ | refine blk_drew ?_ | refine blk_alloc ?_ _)); exact BK391.out) k_ hk, Kd.freshB (g := gb392) (o := .cells #[.slice none 0 0, .int .i64 0, .int .i64 0] 46 (0, 0)) (by (with_reducible repeat (first | refine blk_drewN ?_ _ | refine blk_drew ?_ | refine blk_alloc ?_ _)); exact BK392.out) k_ hk, Kd.freshB (g := gb399) (o := .cells #[.slice none 0 0, .int .i64 0, .int .i64 0] 46 (0, 0)) (by (with_reducible repeat (first | refine blk_drewN ?_ _ | refine blk_drew ?_ | refine blk_alloc ?_ _)); exact BK399.out) k_ hk⟩))
              (case aO => exact (by (with_reducible repeat (first | apply Kd.N_alloc | apply Kd.N_drewN | apply Kd.N_drew)); exact Kd.N_mono HO395.out (fun _ hk => ⟨hk.1.1, ⟨hk.1.2.1, ⟨hk.1.2.2, hk.2⟩⟩⟩)))
              (case aS => exact (below_size (by repeat (first | (with_reducible first | exact HB.out | apply below_alloc | apply pw_below_drewN | apply below_drew1 | refine below_set ?_ GE391.out | refine below_set ?_ GE392.out | refine below_set ?_ GE399.out) | exact HB.out))))
              (case aL => have := LMc9.out; omega)
              intro v397 w19 ho hb hg hat
              rw [← Ny396.out] at ho
              have n0_ := Aside0.mk (Kd.V_afterv (ok := (fun k_ => ((P0_0_ k_ ∨ P1_ k_) ∨ w.heap.size ≤ k_) ∧ k_ ≠ gb391 ∧ k_ ≠ gb392 ∧ k_ ≠ gb399)) (by (with_reducible repeat (first | apply Kd.V_alloc | apply Kd.V_drewN | apply Kd.V_drew)); exact Kd.V_mono HO0_0.out (fun _ hk => ⟨⟨hk.1.1.1.1, ⟨hk.1.1.1.2, ⟨hk.1.1.2, hk.2⟩⟩⟩, hk.1.2⟩)) hg hat)
              have n1_ := Aside0.mk (Kd.V_afterv (ok := (fun k_ => ((P0_0_ k_ ∨ P1_ k_) ∨ w.heap.size ≤ k_) ∧ k_ ≠ gb391 ∧ k_ ≠ gb392 ∧ k_ ≠ gb399)) (by (with_reducible repeat (first | apply Kd.V_alloc | apply Kd.V_drewN | apply Kd.V_drew)); exact Kd.V_mono HO1.out (fun _ hk => ⟨⟨hk.1.1.1.1, ⟨hk.1.1.1.2, ⟨hk.1.1.2, hk.2⟩⟩⟩, hk.1.2⟩)) hg hat)
              have n2_ := Aside0.mk (blk_grown (g := gb391) (o := .cells #[.slice A0_0 l0_0.length c0_0, .int .i64 a0_1, .int .i64 a0_2] 46 (0, 0)) (by (with_reducible repeat (first | refine blk_drewN ?_ _ | refine blk_drew ?_ | refine blk_alloc ?_ _)); exact BK391.out) hg (Kd.N_ne HO395.out BK391.out (by decide)))
              have n3_ := Aside0.mk (blk_grown (g := gb392) (o := .cells #[.slice none 0 0, .int .i64 0, .int .i64 0] 46 (0, 0)) (by (with_reducible repeat (first | refine blk_drewN ?_ _ | refine blk_drew ?_ | refine blk_alloc ?_ _)); exact BK392.out) hg (Kd.N_ne HO395.out BK392.out (by decide)))
              have n4_ := Aside0.mk (blk_grown (g := gb399) (o := .cells #[.slice none 0 0, .int .i64 0, .int .i64 0] 46 (0, 0)) (by (with_reducible repeat (first | refine blk_drewN ?_ _ | refine blk_drew ?_ | refine blk_alloc ?_ _)); exact BK399.out) hg (Kd.N_ne HO395.out BK399.out (by decide)))
              have n5_ := Aside0.mk (hb)
              have n6_ := Aside0.mk (ho)
              clear HO0_0
              clear HO1
              clear BK391
              clear BK392
              clear BK399
              clear HB
              clear HO395
              have HO0_0 := n0_
              have HO1 := n1_
              have BK391 := n2_
              have BK392 := n3_
              have BK399 := n4_
              have HB := n5_
              have HO398 := n6_
              clear n0_ n1_ n2_ n3_ n4_ n5_ n6_
              clear ho hb hg hat
              obtain ⟨Ao20, co20, eo20⟩ := Kd.N_slice HO398.out
              (first | subst eo20 | (injection eo20 with f1_ f2_ f3_; have f4_ := f1_.symm; have f5_ := f3_.symm; clear f1_ f2_ f3_; subst f4_; subst f5_))
              refine hK.out _ _ ⟨(blk_cell BK391.out 0).trans rfl, (blk_cell BK391.out 1).trans rfl, (blk_cell BK391.out 2).trans rfl⟩ (fun hHeld => ?_)
              clear hK K
              refine norm_ (a' := ?_) ?_ ?_
              rotate_left
              · show Act.put _ (some 18) _ = _
                simp only [Act.put, List.setIfInBounds_toArray, List.set_cons_zero, List.set_cons_succ, i64_w, i32_w]
                rfl
              refine pure_ (i := 9) (N := some 24) (v := ?_) (a' := ?_) #[true, true, true, true, true, true, true, true, true, true, true, false] rfl rfl (any_of HT_.out (by kernel_rfl)) (fun _ _ _ h => h) (Or.inl ⟨by rfl, ?_⟩) ?_ ?_
              rotate_left
              · intro w'
                go_simp
                with_reducible rfl
              rotate_left
              · simp only [Act.put, List.setIfInBounds_toArray, List.set_cons_zero, List.set_cons_succ, i64_w, i32_w]
                rfl
              exact norm_ (by simp only [putAll, Act.put, List.setIfInBounds_toArray, List.set_cons_zero, List.set_cons_succ]) (hCont (v394, .slice Ao20 y396.length co20, gb399) _ ⟨hHeld, (by (with_reducible repeat (first | apply Kd.V_alloc | apply Kd.V_drewN | apply Kd.V_drew)); exact Kd.V_mono HO0_0.out (fun _ hk => ⟨hk.1.1, ⟨hk.2, ⟨hk.1.2.1, ⟨hk.1.2.2.1, hk.1.2.2.2⟩⟩⟩⟩)), (by (with_reducible repeat (first | apply Kd.V_alloc | apply Kd.V_drewN | apply Kd.V_drew)); exact Kd.V_mono HO1.out (fun _ hk => ⟨hk.1.1, ⟨hk.2, ⟨hk.1.2.1, ⟨hk.1.2.2.1, hk.1.2.2.2⟩⟩⟩⟩)), (by (with_reducible repeat (first | apply Kd.N_alloc | apply Kd.N_drewN | apply Kd.N_drew)); exact HO398.out), (by (with_reducible repeat (first | refine blk_drewN ?_ _ | refine blk_drew ?_ | refine blk_alloc ?_ _)); exact BK391.out), (by (with_reducible repeat (first | refine blk_drewN ?_ _ | refine blk_drew ?_ | refine blk_alloc ?_ _)); exact BK392.out), (by (with_reducible repeat (first | refine blk_drewN ?_ _ | refine blk_drew ?_ | refine blk_alloc ?_ _)); exact BK399.out), GW399.out, GE399.out, NB391_399.out, NB399_391.out, NB392_399.out, NB399_392.out, (by repeat (first | (with_reducible first | exact HB.out | apply below_alloc | apply pw_below_drewN | apply below_drew1 | refine below_set ?_ GE391.out | refine below_set ?_ GE392.out | refine below_set ?_ GE399.out) | exact HB.out))⟩)
          · skip
            refine box_step ?hg (N := 7) ?hd (cs := #[.slice none 0 0, .int .i64 0, .int .i64 0]) (t := 46) ?hr ?_; (case hd => rfl); (case hg => rfl); (case hr => first | (go_simp; done) | (go_simp; rfl))
            intro gb399 hg w16 hbox hb
            have n0_ := Aside0.mk (Kd.V_below (Kd.V_elderB (by (with_reducible repeat (first | apply Kd.V_alloc | apply Kd.V_drewN | apply Kd.V_drew)); exact HO0_0.out) gb399 (Nat.le_of_eq hg.symm)) hb)
            have n1_ := Aside0.mk (Kd.V_below (Kd.V_elderB (by (with_reducible repeat (first | apply Kd.V_alloc | apply Kd.V_drewN | apply Kd.V_drew)); exact HO1.out) gb399 (Nat.le_of_eq hg.symm)) hb)
            have n2_ := Aside0.mk (blk_below (g := gb391) (o := .cells #[.slice A0_0 l0_0.length c0_0, .int .i64 a0_1, .int .i64 a0_2] 46 (0, 0)) (by (with_reducible repeat (first | refine blk_drewN ?_ _ | refine blk_drew ?_ | refine blk_alloc ?_ _)); exact BK391.out) hb)
            have n3_ := Aside0.mk (blk_below (g := gb392) (o := .cells #[.slice none 0 0, .int .i64 0, .int .i64 0] 46 (0, 0)) (by (with_reducible repeat (first | refine blk_drewN ?_ _ | refine blk_drew ?_ | refine blk_alloc ?_ _)); exact BK392.out) hb)
            have n4_ := Aside0.mk (below_step (by repeat (first | (with_reducible first | exact HB.out | apply below_alloc | apply pw_below_drewN | apply below_drew1 | refine below_set ?_ GE391.out | refine below_set ?_ GE392.out) | exact HB.out)) hb)
            have n5_ := Aside0.mk (hbox)
            have n6_ := Aside0.mk ((by rw [hg]; exact (below_size (by repeat (first | (with_reducible first | exact HB.out | apply below_alloc | apply pw_below_drewN | apply below_drew1 | refine below_set ?_ GE391.out | refine below_set ?_ GE392.out) | exact HB.out))) : w.heap.size ≤ gb399))
            have n7_ := Aside0.mk ((by rw [hg]; exact (below_size (by repeat (first | (with_reducible first | exact HB.out | apply below_alloc | apply pw_below_drewN | apply below_drew1 | refine below_set ?_ GE391.out | refine below_set ?_ GE392.out) | exact HB.out))) : w.heap.size ≤ gb399))
            have n8_ := Aside0.mk ((by rw [hg]; exact Nat.ne_of_lt (blk_lt (g := gb391) (o := .cells #[.slice A0_0 l0_0.length c0_0, .int .i64 a0_1, .int .i64 a0_2] 46 (0, 0)) (by (with_reducible repeat (first | refine blk_drewN ?_ _ | refine blk_drew ?_ | refine blk_alloc ?_ _)); exact BK391.out)) : gb391 ≠ gb399))
            have n9_ := Aside0.mk ((by rw [hg]; exact Nat.ne_of_gt (blk_lt (g := gb391) (o := .cells #[.slice A0_0 l0_0.length c0_0, .int .i64 a0_1, .int .i64 a0_2] 46 (0, 0)) (by (with_reducible repeat (first | refine blk_drewN ?_ _ | refine blk_drew ?_ | refine blk_alloc ?_ _)); exact BK391.out)) : gb399 ≠ gb391))
            have n10_ := Aside0.mk ((by rw [hg]; exact Nat.ne_of_lt (blk_lt (g := gb392) (o := .cells #[.slice none 0 0, .int .i64 0, .int .i64 0] 46 (0, 0)) (by (with_reducible repeat (first | refine blk_drewN ?_ _ | refine blk_drew ?_ | refine blk_alloc ?_ _)); exact BK392.out)) : gb392 ≠ gb399))
            have n11_ := Aside0.mk ((by rw [hg]; exact Nat.ne_of_gt (blk_lt (g := gb392) (o := .cells #[.slice none 0 0, .int .i64 0, .int .i64 0] 46 (0, 0)) (by (with_reducible repeat (first | refine blk_drewN ?_ _ | refine blk_drew ?_ | refine blk_alloc ?_ _)); exact BK392.out)) : gb399 ≠ gb392))
            clear HO0_0
            clear HO1
            clear BK391
            clear BK392
            clear HB
            have HO0_0 := n0_
            have HO1 := n1_
            have BK391 := n2_
            have BK392 := n3_
            have HB := n4_
            have BK399 := n5_
            have GW399 := n6_
            have GE399 := n7_
            have NB391_399 := n8_
            have NB399_391 := n9_
            have NB392_399 := n10_
            have NB399_392 := n11_
            clear n0_ n1_ n2_ n3_ n4_ n5_ n6_ n7_ n8_ n9_ n10_ n11_
            clear hb hbox hg
            refine hK.out _ _ ⟨(blk_cell BK391.out 0).trans rfl, (blk_cell BK391.out 1).trans rfl, (blk_cell BK391.out 2).trans rfl⟩ (fun hHeld => ?_)
            clear hK K
            refine norm_ (a' := ?_) ?_ ?_
            rotate_left
            · show Act.put _ (some 7) _ = _
              simp only [Act.put, List.setIfInBounds_toArray, List.set_cons_zero, List.set_cons_succ, i64_w, i32_w]
              rfl
            refine one_ (i := 0) (N := some 15) #[true, true, true, false, true, true, true, true, true, false, true, false] rfl rfl (one_of HT_.out (by kernel_rfl)) (by decide) (fun K hK => ?_)
            refine Kd.N_lit_step k86 _ 86 ?hg (N' := 15) ?hd (xs := ([] : List (S86))) (inner := []) (ok := (fun k_ => ((P0_0_ k_ ∨ P1_ k_) ∨ w.heap.size ≤ k_) ∧ k_ ≠ gb391 ∧ k_ ≠ gb392 ∧ k_ ≠ gb399)) (okp := (fun k_ => ((P0_0_ k_ ∨ P1_ k_) ∨ w.heap.size ≤ k_) ∧ k_ ≠ gb391 ∧ k_ ≠ gb392 ∧ k_ ≠ gb399)) ?hr ?hp (fun _ hk => hk) ((show ∀ k_, w16.heap.size ≤ k_ → (fun k_ => ((P0_0_ k_ ∨ P1_ k_) ∨ w.heap.size ≤ k_) ∧ k_ ≠ gb391 ∧ k_ ≠ gb392 ∧ k_ ≠ gb399) k_ from fun k_ hk => ⟨(.inr (Nat.le_trans (below_size (by repeat (first | (with_reducible first | exact HB.out | apply below_alloc | apply pw_below_drewN | apply below_drew1 | refine below_set ?_ GE391.out | refine below_set ?_ GE392.out | refine below_set ?_ GE399.out) | exact HB.out))) hk)), Kd.freshB (g := gb391) (o := .cells #[.slice A0_0 l0_0.length c0_0, .int .i64 a0_1, .int .i64 a0_2] 46 (0, 0)) (by (with_reducible repeat (first | refine blk_drewN ?_ _ | refine blk_drew ?_ | refine blk_alloc ?_ _)); exact BK391.out) k_ hk, Kd.freshB (g := gb392) (o := .cells #[.slice none 0 0, .int .i64 0, .int .i64 0] 46 (0, 0)) (by (with_reducible repeat (first | refine blk_drewN ?_ _ | refine blk_drew ?_ | refine blk_alloc ?_ _)); exact BK392.out) k_ hk, Kd.freshB (g := gb399) (o := .cells #[.slice none 0 0, .int .i64 0, .int .i64 0] 46 (0, 0)) (by (with_reducible repeat (first | refine blk_drewN ?_ _ | refine blk_drew ?_ | refine blk_alloc ?_ _)); exact BK399.out) k_ hk⟩) _ (Nat.le_refl _)) (Below.refl _ _) (Nat.le_refl _) (by simp) ?_; (case hd => rfl); (case hg => rfl); (case hr => first | (go_simp; done) | (go_simp; rfl)); (case hp => exact (Reps.none _ _))
            intro v394 w17 ho18 hb hg_ hnew_
            clear hg_ hnew_
            (first | rw [← Ny393.out] at ho18 | (simp only [Int.reduceToNat] at ho18; rw [← Ny393.out] at ho18))
            have n0_ := Aside0.mk (Kd.V_elder' (by (with_reducible repeat (first | apply Kd.V_alloc | apply Kd.V_drewN | apply Kd.V_drew)); exact HO0_0.out) (Kd.N_base ho18) hb)
            have n1_ := Aside0.mk (Kd.V_elder' (by (with_reducible repeat (first | apply Kd.V_alloc | apply Kd.V_drewN | apply Kd.V_drew)); exact HO1.out) (Kd.N_base ho18) hb)
            have n2_ := Aside0.mk (Kd.N_lower ho18 (below_size (by repeat (first | (with_reducible first | exact HB.out | apply below_alloc | apply pw_below_drewN | apply below_drew1 | refine below_set ?_ GE391.out | refine below_set ?_ GE392.out | refine below_set ?_ GE399.out) | exact HB.out))))
            have n3_ := Aside0.mk (blk_below (g := gb391) (o := .cells #[.slice A0_0 l0_0.length c0_0, .int .i64 a0_1, .int .i64 a0_2] 46 (0, 0)) (by (with_reducible repeat (first | refine blk_drewN ?_ _ | refine blk_drew ?_ | refine blk_alloc ?_ _)); exact BK391.out) hb)
            have n4_ := Aside0.mk (blk_below (g := gb392) (o := .cells #[.slice none 0 0, .int .i64 0, .int .i64 0] 46 (0, 0)) (by (with_reducible repeat (first | refine blk_drewN ?_ _ | refine blk_drew ?_ | refine blk_alloc ?_ _)); exact BK392.out) hb)
            have n5_ := Aside0.mk (blk_below (g := gb399) (o := .cells #[.slice none 0 0, .int .i64 0, .int .i64 0] 46 (0, 0)) (by (with_reducible repeat (first | refine blk_drewN ?_ _ | refine blk_drew ?_ | refine blk_alloc ?_ _)); exact BK399.out) hb)
            have n6_ := Aside0.mk (below_step (by repeat (first | (with_reducible first | exact HB.out | apply below_alloc | apply pw_below_drewN | apply below_drew1 | refine below_set ?_ GE391.out | refine below_set ?_ GE392.out | refine below_set ?_ GE399.out) | exact HB.out)) hb)
            clear HO0_0
            clear HO1
            clear BK391
            clear BK392
            clear BK399
            clear HB
            have HO0_0 := n0_
            have HO1 := n1_
            have HO395 := n2_
            have BK391 := n3_
            have BK392 := n4_
            have BK399 := n5_
            have HB := n6_
            clear n0_ n1_ n2_ n3_ n4_ n5_ n6_
            clear hb ho18
            refine hK.out _ _ ⟨(blk_cell BK391.out 0).trans rfl, (blk_cell BK391.out 1).trans rfl, (blk_cell BK391.out 2).trans rfl⟩ (fun hHeld => ?_)
            clear hK K
            refine norm_ (a' := ?_) ?_ ?_
            rotate_left
            · show Act.put _ (some 15) _ = _
              simp only [Act.put, List.setIfInBounds_toArray, List.set_cons_zero, List.set_cons_succ, i64_w, i32_w]
              rfl
            refine one_ (i := 3) (N := some 18) #[true, true, true, true, true, true, true, true, true, false, true, false] rfl rfl (one_of HT_.out (by kernel_rfl)) (by decide) (fun K hK => ?_)
            refine Kd.N_append_rows_step k86 (w0 := w) w.heap.size (by rfl) (.tmp 15) (.tmp 17) 44 86 (.agg #[(.int .i64 0), (.slice none 0 0)]) 32 rfl Try.underlying44 info86 rfl (by decide) (by omega) v394 y393 l0_0 _ _ _ (fun k_ => ((P0_0_ k_ ∨ P1_ k_) ∨ w.heap.size ≤ k_) ∧ k_ ≠ gb391 ∧ k_ ≠ gb392 ∧ k_ ≠ gb399) (fun k_ => ((fun k_ => ((P0_0_ k_ ∨ P1_ k_) ∨ w.heap.size ≤ k_) ∧ k_ ≠ gb391 ∧ k_ ≠ gb392 ∧ k_ ≠ gb399)) k_ ∧ some k_ ≠ (v394 : Value).ownBlock) rfl rfl ?aO ?aR (fun _ hk => hk) ?aF ?aB ?aS ?aL ?_
            (case aR => exact (by skip; exact Kd.V_F (Kd.V_mono (ok' := (fun k_ => ((fun k_ => ((P0_0_ k_ ∨ P1_ k_) ∨ w.heap.size ≤ k_) ∧ k_ ≠ gb391 ∧ k_ ≠ gb392 ∧ k_ ≠ gb399)) k_ ∧ some k_ ≠ (v394 : Value).ownBlock)) (HO0_0.out) (fun k_ hk => ⟨⟨hk.1.1.1.1, ⟨hk.1.1.1.2, ⟨hk.1.1.2, hk.1.2⟩⟩⟩, hk.2⟩))))
            (case aB => exact (by repeat (first | (with_reducible first | exact HB.out | apply below_alloc | apply pw_below_drewN | apply below_drew1 | refine below_set ?_ GE391.out | refine below_set ?_ GE392.out | refine below_set ?_ GE399.out) | exact HB.out)))
            (case aF => exact (fun k_ hk => ⟨(.inr (Nat.le_trans (below_size (by repeat (first | (with_reducible first | exact HB.out | apply below_alloc | apply pw_below_drewN | apply below_drew1 | refine below_set ?_ GE391.out | refine below_set ?_ GE392.out | refine below_set ?_ GE399.out) | exact HB.out))) hk)), Kd.freshB (g := gb391) (o := .cells #[.slice A0_0 l0_0.length c0_0, .int .i64 a0_1, .int .i64 a0_2] 46 (0, 0)) (by (with_reducible repeat (first | refine blk_drewN ?_ _ | refine blk_drew ?_ | refine blk_alloc ?_ _)); exact BK391.out) k_ hk, Kd.freshB (g := gb392) (o := .cells #[.slice none 0 0, .int .i64 0, .int .i64 0] 46 (0, 0)) (by (with_reducible repeat (first | refine blk_drewN ?_ _ | refine blk_drew ?_ | refine blk_alloc ?_ _)); exact BK392.out) k_ hk, Kd.freshB (g := gb399) (o := .cells #[.slice none 0 0, .int .i64 0, .int .i64 0] 46 (0, 0)) (by (with_reducible repeat (first | refine blk_drewN ?_ _ | refine blk_drew ?_ | refine blk_alloc ?_ _)); exact BK399.out) k_ hk⟩))
            (case aO => exact (by (with_reducible repeat (first | apply Kd.N_alloc | apply Kd.N_drewN | apply Kd.N_drew)); exact HO395.out))
            (case aS => exact (below_size (by repeat (first | (with_reducible first | exact HB.out | apply below_alloc | apply pw_below_drewN | apply below_drew1 | refine below_set ?_ GE391.out | refine below_set ?_ GE392.out | refine below_set ?_ GE399.out) | exact HB.out))))
            (case aL => have := LMc9.out; omega)
            intro v397 w19 ho hb hg hat
            rw [← Ny396.out] at ho
            have n0_ := Aside0.mk (Kd.V_afterv (ok := (fun k_ => ((P0_0_ k_ ∨ P1_ k_) ∨ w.heap.size ≤ k_) ∧ k_ ≠ gb391 ∧ k_ ≠ gb392 ∧ k_ ≠ gb399)) (by (with_reducible repeat (first | apply Kd.V_alloc | apply Kd.V_drewN | apply Kd.V_drew)); exact Kd.V_mono HO0_0.out (fun _ hk => ⟨⟨hk.1.1.1.1, ⟨hk.1.1.1.2, ⟨hk.1.1.2, hk.1.2⟩⟩⟩, hk.2⟩)) hg hat)
            have n1_ := Aside0.mk (Kd.V_afterv (ok := (fun k_ => ((P0_0_ k_ ∨ P1_ k_) ∨ w.heap.size ≤ k_) ∧ k_ ≠ gb391 ∧ k_ ≠ gb392 ∧ k_ ≠ gb399)) (by (with_reducible repeat (first | apply Kd.V_alloc | apply Kd.V_drewN | apply Kd.V_drew)); exact Kd.V_mono HO1.out (fun _ hk => ⟨⟨hk.1.1.1.1, ⟨hk.1.1.1.2, ⟨hk.1.1.2, hk.1.2⟩⟩⟩, hk.2⟩)) hg hat)
            have n2_ := Aside0.mk (blk_grown (g := gb391) (o := .cells #[.slice A0_0 l0_0.length c0_0, .int .i64 a0_1, .int .i64 a0_2] 46 (0, 0)) (by (with_reducible repeat (first | refine blk_drewN ?_ _ | refine blk_drew ?_ | refine blk_alloc ?_ _)); exact BK391.out) hg (Kd.N_ne HO395.out BK391.out (by decide)))
            have n3_ := Aside0.mk (blk_grown (g := gb392) (o := .cells #[.slice none 0 0, .int .i64 0, .int .i64 0] 46 (0, 0)) (by (with_reducible repeat (first | refine blk_drewN ?_ _ | refine blk_drew ?_ | refine blk_alloc ?_ _)); exact BK392.out) hg (Kd.N_ne HO395.out BK392.out (by decide)))
            have n4_ := Aside0.mk (blk_grown (g := gb399) (o := .cells #[.slice none 0 0, .int .i64 0, .int .i64 0] 46 (0, 0)) (by (with_reducible repeat (first | refine blk_drewN ?_ _ | refine blk_drew ?_ | refine blk_alloc ?_ _)); exact BK399.out) hg (Kd.N_ne HO395.out BK399.out (by decide)))
            have n5_ := Aside0.mk (hb)
            have n6_ := Aside0.mk (ho)
            clear HO0_0
            clear HO1
            clear BK391
            clear BK392
            clear BK399
            clear HB
            clear HO395
            have HO0_0 := n0_
            have HO1 := n1_
            have BK391 := n2_
            have BK392 := n3_
            have BK399 := n4_
            have HB := n5_
            have HO398 := n6_
            clear n0_ n1_ n2_ n3_ n4_ n5_ n6_
            clear ho hb hg hat
            obtain ⟨Ao20, co20, eo20⟩ := Kd.N_slice HO398.out
            (first | subst eo20 | (injection eo20 with f1_ f2_ f3_; have f4_ := f1_.symm; have f5_ := f3_.symm; clear f1_ f2_ f3_; subst f4_; subst f5_))
            refine hK.out _ _ ⟨(blk_cell BK391.out 0).trans rfl, (blk_cell BK391.out 1).trans rfl, (blk_cell BK391.out 2).trans rfl⟩ (fun hHeld => ?_)
            clear hK K
            refine norm_ (a' := ?_) ?_ ?_
            rotate_left
            · show Act.put _ (some 18) _ = _
              simp only [Act.put, List.setIfInBounds_toArray, List.set_cons_zero, List.set_cons_succ, i64_w, i32_w]
              rfl
            refine pure_ (i := 9) (N := some 24) (v := ?_) (a' := ?_) #[true, true, true, true, true, true, true, true, true, true, true, false] rfl rfl (any_of HT_.out (by kernel_rfl)) (fun _ _ _ h => h) (Or.inl ⟨by rfl, ?_⟩) ?_ ?_
            rotate_left
            · intro w'
              go_simp
              with_reducible rfl
            rotate_left
            · simp only [Act.put, List.setIfInBounds_toArray, List.set_cons_zero, List.set_cons_succ, i64_w, i32_w]
              rfl
            exact norm_ (by simp only [putAll, Act.put, List.setIfInBounds_toArray, List.set_cons_zero, List.set_cons_succ]) (hCont (v394, .slice Ao20 y396.length co20, gb399) _ ⟨hHeld, (by (with_reducible repeat (first | apply Kd.V_alloc | apply Kd.V_drewN | apply Kd.V_drew)); exact Kd.V_mono HO0_0.out (fun _ hk => ⟨hk.1.1, ⟨hk.2, ⟨hk.1.2.1, ⟨hk.1.2.2.1, hk.1.2.2.2⟩⟩⟩⟩)), (by (with_reducible repeat (first | apply Kd.V_alloc | apply Kd.V_drewN | apply Kd.V_drew)); exact Kd.V_mono HO1.out (fun _ hk => ⟨hk.1.1, ⟨hk.2, ⟨hk.1.2.1, ⟨hk.1.2.2.1, hk.1.2.2.2⟩⟩⟩⟩)), (by (with_reducible repeat (first | apply Kd.N_alloc | apply Kd.N_drewN | apply Kd.N_drew)); exact HO398.out), (by (with_reducible repeat (first | refine blk_drewN ?_ _ | refine blk_drew ?_ | refine blk_alloc ?_ _)); exact BK391.out), (by (with_reducible repeat (first | refine blk_drewN ?_ _ | refine blk_drew ?_ | refine blk_alloc ?_ _)); exact BK392.out), (by (with_reducible repeat (first | refine blk_drewN ?_ _ | refine blk_drew ?_ | refine blk_alloc ?_ _)); exact BK399.out), GW399.out, GE399.out, NB391_399.out, NB399_391.out, NB392_399.out, NB399_392.out, (by repeat (first | (with_reducible first | exact HB.out | apply below_alloc | apply pw_below_drewN | apply below_drew1 | refine below_set ?_ GE391.out | refine below_set ?_ GE392.out | refine below_set ?_ GE399.out) | exact HB.out))⟩)
        rintro ⟨v394, v397, gb399⟩ w21 ⟨hS_, h0_, h1_, h2_, h3_, h4_, h5_, h6_, h7_, h8_, h9_, h10_, h11_, h12_⟩
        have n0_ : Aside0 (Kd.V k86 86 w21 w.heap.size (fun k_ => ((P0_0_ k_ ∨ P1_ k_) ∨ w.heap.size ≤ k_) ∧ some k_ ≠ (v397 : Value).ownBlock ∧ k_ ≠ gb391 ∧ k_ ≠ gb392 ∧ k_ ≠ gb399) (.slice A0_0 l0_0.length c0_0) l0_0) := ⟨h0_⟩
        have n1_ : Aside0 (Kd.V k72 72 w21 w.heap.size (fun k_ => ((P0_0_ k_ ∨ P1_ k_) ∨ w.heap.size ≤ k_) ∧ some k_ ≠ (v397 : Value).ownBlock ∧ k_ ≠ gb391 ∧ k_ ≠ gb392 ∧ k_ ≠ gb399) (.slice A1 l1.length c1) l1) := ⟨h1_⟩
        have n2_ : Aside0 (Kd.N k86 86 w21 w.heap.size (fun k_ => ((P0_0_ k_ ∨ P1_ k_) ∨ w.heap.size ≤ k_) ∧ k_ ≠ gb391 ∧ k_ ≠ gb392 ∧ k_ ≠ gb399) v397 y396) := ⟨h2_⟩
        have n3_ : Aside0 (w21.heap[gb391]? = some (.cells #[.slice A0_0 l0_0.length c0_0, .int .i64 a0_1, .int .i64 a0_2] 46 (0, 0))) := ⟨h3_⟩
        have n4_ : Aside0 (w21.heap[gb392]? = some (.cells #[.slice none 0 0, .int .i64 0, .int .i64 0] 46 (0, 0))) := ⟨h4_⟩
        have n5_ : Aside0 (w21.heap[gb399]? = some (.cells #[.slice none 0 0, .int .i64 0, .int .i64 0] 46 (0, 0))) := ⟨h5_⟩
        have n6_ : Aside0 (w.heap.size ≤ gb399) := ⟨h6_⟩
        have n7_ : Aside0 (w.heap.size ≤ gb399) := ⟨h7_⟩
        have n8_ : Aside0 (gb391 ≠ gb399) := ⟨h8_⟩
        have n9_ : Aside0 (gb399 ≠ gb391) := ⟨h9_⟩
        have n10_ : Aside0 (gb392 ≠ gb399) := ⟨h10_⟩
        have n11_ : Aside0 (gb399 ≠ gb392) := ⟨h11_⟩
        have n12_ : Aside0 (Below w.heap.size w w21) := ⟨h12_⟩
        clear HO0_0
        clear HO1
        clear BK391
        clear BK392
        clear HB
        clear h0_ h1_ h2_ h3_ h4_ h5_ h6_ h7_ h8_ h9_ h10_ h11_ h12_
        have HO0_0 := n0_
        have HO1 := n1_
        have HO398 := n2_
        have BK391 := n3_
        have BK392 := n4_
        have BK399 := n5_
        have GW399 := n6_
        have GE399 := n7_
        have NB391_399 := n8_
        have NB399_391 := n9_
        have NB392_399 := n10_
        have NB399_392 := n11_
        have HB := n12_
        clear n0_ n1_ n2_ n3_ n4_ n5_ n6_ n7_ n8_ n9_ n10_ n11_ n12_
        have hHeld : w21.cell? ⟨gb391, 0, none⟩ = some (.slice A0_0 l0_0.length c0_0) ∧ w21.cell? ⟨gb391, 1, none⟩ = some (.int .i64 a0_1) ∧ w21.cell? ⟨gb391, 2, none⟩ = some (.int .i64 a0_2) := hS_
        obtain ⟨Ao22, co22, eo22⟩ := Kd.N_slice HO398.out
        (first | subst eo22 | (injection eo22 with f1_ f2_ f3_; have f4_ := f1_.symm; have f5_ := f3_.symm; clear f1_ f2_ f3_; subst f4_; subst f5_))
        refine norm_ (a' := ?_) ?_ ?_
        rotate_left
        · simp only [putAll, Act.put, List.setIfInBounds_toArray, List.set_cons_zero, List.set_cons_succ]
          rfl
        refine one_ (i := 11) (N := none) #[true, true, true, true, true, true, true, true, true, true, true, true] rfl rfl (one_of HT_.out (by kernel_rfl)) (by decide) (fun K hK => ?_)
        have hs23 : w21.cell? ⟨gb399, 0, none⟩ = some (.slice none 0 0) := (blk_cell BK399.out 0).trans rfl
        have hfs23 := blk_frozen BK399.out 0
        have hns23_0 := NB391_399.out
        have hns23_1 := NB392_399.out
        have hms23_0 := NB399_391.out
        have hms23_1 := NB399_392.out
        have hs24 : w21.cell? ⟨gb399, 1, none⟩ = some (.int .i64 0) := (blk_cell BK399.out 1).trans rfl
        have hfs24 := blk_frozen BK399.out 1
        have hns24_0 := NB391_399.out
        have hns24_1 := NB392_399.out
        have hms24_0 := NB399_391.out
        have hms24_1 := NB399_392.out
        have hs25 : w21.cell? ⟨gb399, 2, none⟩ = some (.int .i64 0) := (blk_cell BK399.out 2).trans rfl
        have hfs25 := blk_frozen BK399.out 2
        have hns25_0 := NB391_399.out
        have hns25_1 := NB392_399.out
        have hms25_0 := NB399_391.out
        have hms25_1 := NB399_392.out
        refine skip_ (w1 := ?_) (by rfl) rfl ?_ ?_
        rotate_left
        · go_simp
          rfl
        refine hK.out _ _ ⟨((cell_far (p := ⟨gb399, _, none⟩) NB391_399.out _).trans (((cell_far (p := ⟨gb399, _, none⟩) NB391_399.out _).trans (((cell_far (p := ⟨gb399, _, none⟩) NB391_399.out _).trans (hHeld.1)))))), ((cell_far (p := ⟨gb399, _, none⟩) NB391_399.out _).trans (((cell_far (p := ⟨gb399, _, none⟩) NB391_399.out _).trans (((cell_far (p := ⟨gb399, _, none⟩) NB391_399.out _).trans (hHeld.2.1)))))), ((cell_far (p := ⟨gb399, _, none⟩) NB391_399.out _).trans (((cell_far (p := ⟨gb399, _, none⟩) NB391_399.out _).trans (((cell_far (p := ⟨gb399, _, none⟩) NB391_399.out _).trans (hHeld.2.2))))))⟩ (fun hHeld => ?_)
        clear hK K
        refine done_ (done_of HT_.out (by kernel_rfl)) ?_
        have n0_ : Aside0 (Kd.V k86 86 (((w21.setCell ⟨gb399, 0, none⟩ (.slice Ao22 y396.length co22)).setCell ⟨gb399, 1, none⟩ (.int .i64 a0_1)).setCell ⟨gb399, 2, none⟩ (.int .i64 (wrap64 (a0_2 + 1)))) w.heap.size (fun k_ => ((P0_0_ k_ ∨ P1_ k_) ∨ w.heap.size ≤ k_) ∧ some k_ ≠ (.slice Ao22 y396.length co22 : Value).ownBlock ∧ k_ ≠ gb391 ∧ k_ ≠ gb392 ∧ k_ ≠ gb399) (.slice A0_0 l0_0.length c0_0) l0_0) := ⟨by (with_reducible repeat (first | apply Kd.V_alloc | apply Kd.V_drewN | apply Kd.V_drew)); exact Kd.V_mono (Kd.V_far (p := ⟨gb399, 2, none⟩) (Kd.V_far (p := ⟨gb399, 1, none⟩) (Kd.V_far (p := ⟨gb399, 0, none⟩) (Kd.V_mono HO0_0.out (fun k_ hk => (⟨hk, hk.2.2.2.2⟩ : _ ∧ k_ ≠ gb399))) (fun _ hk => hk.2) (.slice Ao22 y396.length co22)) (fun _ hk => hk.2) (.int .i64 a0_1)) (fun _ hk => hk.2) (.int .i64 (wrap64 (a0_2 + 1)))) (fun _ hk => ⟨hk.1.1, ⟨hk.1.2.1, ⟨hk.1.2.2.1, ⟨hk.1.2.2.2.1, hk.1.2.2.2.2⟩⟩⟩⟩)⟩
        have n1_ : Aside0 (Kd.V k72 72 (((w21.setCell ⟨gb399, 0, none⟩ (.slice Ao22 y396.length co22)).setCell ⟨gb399, 1, none⟩ (.int .i64 a0_1)).setCell ⟨gb399, 2, none⟩ (.int .i64 (wrap64 (a0_2 + 1)))) w.heap.size (fun k_ => ((P0_0_ k_ ∨ P1_ k_) ∨ w.heap.size ≤ k_) ∧ some k_ ≠ (.slice Ao22 y396.length co22 : Value).ownBlock ∧ k_ ≠ gb391 ∧ k_ ≠ gb392 ∧ k_ ≠ gb399) (.slice A1 l1.length c1) l1) := ⟨by (with_reducible repeat (first | apply Kd.V_alloc | apply Kd.V_drewN | apply Kd.V_drew)); exact Kd.V_mono (Kd.V_far (p := ⟨gb399, 2, none⟩) (Kd.V_far (p := ⟨gb399, 1, none⟩) (Kd.V_far (p := ⟨gb399, 0, none⟩) (Kd.V_mono HO1.out (fun k_ hk => (⟨hk, hk.2.2.2.2⟩ : _ ∧ k_ ≠ gb399))) (fun _ hk => hk.2) (.slice Ao22 y396.length co22)) (fun _ hk => hk.2) (.int .i64 a0_1)) (fun _ hk => hk.2) (.int .i64 (wrap64 (a0_2 + 1)))) (fun _ hk => ⟨hk.1.1, ⟨hk.1.2.1, ⟨hk.1.2.2.1, ⟨hk.1.2.2.2.1, hk.1.2.2.2.2⟩⟩⟩⟩)⟩
        have n2_ : Aside0 (Kd.N k86 86 (((w21.setCell ⟨gb399, 0, none⟩ (.slice Ao22 y396.length co22)).setCell ⟨gb399, 1, none⟩ (.int .i64 a0_1)).setCell ⟨gb399, 2, none⟩ (.int .i64 (wrap64 (a0_2 + 1)))) w.heap.size (fun k_ => ((P0_0_ k_ ∨ P1_ k_) ∨ w.heap.size ≤ k_) ∧ k_ ≠ gb391 ∧ k_ ≠ gb392 ∧ k_ ≠ gb399) (.slice Ao22 y396.length co22) y396) := ⟨by (with_reducible repeat (first | apply Kd.N_alloc | apply Kd.N_drewN | apply Kd.N_drew)); exact Kd.N_mono (Kd.N_far (p := ⟨gb399, 2, none⟩) (Kd.N_far (p := ⟨gb399, 1, none⟩) (Kd.N_far (p := ⟨gb399, 0, none⟩) (Kd.N_mono HO398.out (fun k_ hk => (⟨hk, hk.2.2.2⟩ : _ ∧ k_ ≠ gb399))) (fun _ hk => hk.2) (.slice Ao22 y396.length co22)) (fun _ hk => hk.2) (.int .i64 a0_1)) (fun _ hk => hk.2) (.int .i64 (wrap64 (a0_2 + 1)))) (fun _ hk => ⟨hk.1.1, ⟨hk.1.2.1, ⟨hk.1.2.2.1, hk.1.2.2.2⟩⟩⟩)⟩
        have n3_ : Aside0 ((((w21.setCell ⟨gb399, 0, none⟩ (.slice Ao22 y396.length co22)).setCell ⟨gb399, 1, none⟩ (.int .i64 a0_1)).setCell ⟨gb399, 2, none⟩ (.int .i64 (wrap64 (a0_2 + 1)))).heap[gb391]? = some (.cells #[.slice A0_0 l0_0.length c0_0, .int .i64 a0_1, .int .i64 a0_2] 46 (0, 0))) := ⟨by (with_reducible repeat (first | refine blk_drewN ?_ _ | refine blk_drew ?_ | refine blk_alloc ?_ _)); refine blk_far ?_ NB391_399.out _; (with_reducible repeat (first | refine blk_drewN ?_ _ | refine blk_drew ?_ | refine blk_alloc ?_ _)); refine blk_far ?_ NB391_399.out _; (with_reducible repeat (first | refine blk_drewN ?_ _ | refine blk_drew ?_ | refine blk_alloc ?_ _)); refine blk_far ?_ NB391_399.out _; (with_reducible repeat (first | refine blk_drewN ?_ _ | refine blk_drew ?_ | refine blk_alloc ?_ _)); exact BK391.out⟩
        have n4_ : Aside0 ((((w21.setCell ⟨gb399, 0, none⟩ (.slice Ao22 y396.length co22)).setCell ⟨gb399, 1, none⟩ (.int .i64 a0_1)).setCell ⟨gb399, 2, none⟩ (.int .i64 (wrap64 (a0_2 + 1)))).heap[gb392]? = some (.cells #[.slice none 0 0, .int .i64 0, .int .i64 0] 46 (0, 0))) := ⟨by (with_reducible repeat (first | refine blk_drewN ?_ _ | refine blk_drew ?_ | refine blk_alloc ?_ _)); refine blk_far ?_ NB392_399.out _; (with_reducible repeat (first | refine blk_drewN ?_ _ | refine blk_drew ?_ | refine blk_alloc ?_ _)); refine blk_far ?_ NB392_399.out _; (with_reducible repeat (first | refine blk_drewN ?_ _ | refine blk_drew ?_ | refine blk_alloc ?_ _)); refine blk_far ?_ NB392_399.out _; (with_reducible repeat (first | refine blk_drewN ?_ _ | refine blk_drew ?_ | refine blk_alloc ?_ _)); exact BK392.out⟩
        have n5_ : Aside0 ((((w21.setCell ⟨gb399, 0, none⟩ (.slice Ao22 y396.length co22)).setCell ⟨gb399, 1, none⟩ (.int .i64 a0_1)).setCell ⟨gb399, 2, none⟩ (.int .i64 (wrap64 (a0_2 + 1)))).heap[gb399]? = some (.cells #[.slice Ao22 y396.length co22, .int .i64 a0_1, .int .i64 (wrap64 (a0_2 + 1))] 46 (0, 0))) := ⟨by (with_reducible repeat (first | refine blk_drewN ?_ _ | refine blk_drew ?_ | refine blk_alloc ?_ _)); refine blk_put (cs := #[.slice Ao22 y396.length co22, .int .i64 a0_1, .int .i64 0]) ?_ 2 _ rfl; (with_reducible repeat (first | refine blk_drewN ?_ _ | refine blk_drew ?_ | refine blk_alloc ?_ _)); refine blk_put (cs := #[.slice Ao22 y396.length co22, .int .i64 0, .int .i64 0]) ?_ 1 _ rfl; (with_reducible repeat (first | refine blk_drewN ?_ _ | refine blk_drew ?_ | refine blk_alloc ?_ _)); refine blk_put (cs := #[.slice none 0 0, .int .i64 0, .int .i64 0]) ?_ 0 _ rfl; (with_reducible repeat (first | refine blk_drewN ?_ _ | refine blk_drew ?_ | refine blk_alloc ?_ _)); exact BK399.out⟩
        have n6_ : Aside0 (Below w.heap.size w (((w21.setCell ⟨gb399, 0, none⟩ (.slice Ao22 y396.length co22)).setCell ⟨gb399, 1, none⟩ (.int .i64 a0_1)).setCell ⟨gb399, 2, none⟩ (.int .i64 (wrap64 (a0_2 + 1))))) := ⟨by repeat (first | (with_reducible first | exact HB.out | apply below_alloc | apply pw_below_drewN | apply below_drew1 | refine below_set ?_ GE391.out | refine below_set ?_ GE392.out | refine below_set ?_ GE399.out) | exact HB.out)⟩
        (try clear HO0_0)
        (try clear HO1)
        (try clear HO398)
        (try clear BK391)
        (try clear BK392)
        (try clear BK399)
        (try clear HB)
        generalize (((w21.setCell ⟨gb399, 0, none⟩ (.slice Ao22 y396.length co22)).setCell ⟨gb399, 1, none⟩ (.int .i64 a0_1)).setCell ⟨gb399, 2, none⟩ (.int .i64 (wrap64 (a0_2 + 1)))) = w26 at n0_ n1_ n2_ n3_ n4_ n5_ n6_ ⊢
        have HO0_0 := n0_
        have HO1 := n1_
        have HO398 := n2_
        have BK391 := n3_
        have BK392 := n4_
        have BK399 := n5_
        have HB := n6_
        clear n0_ n1_ n2_ n3_ n4_ n5_ n6_
        have hnb27 := NB399_391.out
        have hnc27 := NB391_399.out
        have hnb28 := NB399_392.out
        have hnc28 := NB392_399.out
        have hcz29_0 : w26.cell? ⟨gb399, 0, none⟩ = some (.slice Ao22 y396.length co22) := (blk_cell BK399.out 0).trans rfl
        have hcz29_1 : w26.cell? ⟨gb399, 1, none⟩ = some (.int .i64 a0_1) := (blk_cell BK399.out 1).trans rfl
        have hcz29_2 : w26.cell? ⟨gb399, 2, none⟩ = some (.int .i64 (wrap64 (a0_2 + 1))) := (blk_cell BK399.out 2).trans rfl
        have hfz29_0 := blk_frozen BK399.out 0
        have hfz29_1 := blk_frozen BK399.out 1
        have hfz29_2 := blk_frozen BK399.out 2
        have hcz30_0 : w26.cell? ⟨gb391, 0, none⟩ = some (.slice A0_0 l0_0.length c0_0) := (blk_cell BK391.out 0).trans rfl
        have hcz30_1 : w26.cell? ⟨gb391, 1, none⟩ = some (.int .i64 a0_1) := (blk_cell BK391.out 1).trans rfl
        have hcz30_2 : w26.cell? ⟨gb391, 2, none⟩ = some (.int .i64 a0_2) := (blk_cell BK391.out 2).trans rfl
        have hfz30_0 := blk_frozen BK391.out 0
        have hfz30_1 := blk_frozen BK391.out 1
        have hfz30_2 := blk_frozen BK391.out 2
        try go_wp2_with (first | ((with_reducible refine gate_builtin (b := .append) (xs := #[.tmp 26, .tmp 32]) rfl ?_); at_builtin; refine Kd.N_append k86 (w0 := w) w.heap.size rfl (.tmp 26) (.tmp 32) 44 86 (.agg #[(.int .i64 0), (.slice none 0 0)]) 32 rfl Try.underlying44 info86 rfl (by decide) (by omega) (.slice Ao22 y396.length co22) y396 (⟨wrap64 (a0_2 + 1), l1⟩ : S86) [.int .i64 (wrap64 (a0_2 + 1)), .slice A1 l1.length c1] (fun k_ => ((P0_0_ k_ ∨ P1_ k_) ∨ w.heap.size ≤ k_) ∧ k_ ≠ gb391 ∧ k_ ≠ gb392 ∧ k_ ≠ gb399) (fun k_ => ((fun k_ => ((P0_0_ k_ ∨ P1_ k_) ∨ w.heap.size ≤ k_) ∧ k_ ≠ gb391 ∧ k_ ≠ gb392 ∧ k_ ≠ gb399)) k_ ∧ some k_ ≠ (.slice Ao22 y396.length co22 : Value).ownBlock) rfl rfl ?aP (fun _ hk => hk) ?aF ?aO ?aB ?aS ?aL ?_; (case aP => exact (k86_mkF _ _ (⟨wrap64 (a0_2 + 1), l1⟩ : S86) (Kd.V_reads' (Kd.V_mono (ok' := (fun k_ => ((fun k_ => ((P0_0_ k_ ∨ P1_ k_) ∨ w.heap.size ≤ k_) ∧ k_ ≠ gb391 ∧ k_ ≠ gb392 ∧ k_ ≠ gb399)) k_ ∧ some k_ ≠ (.slice Ao22 y396.length co22 : Value).ownBlock)) (HO1.out) (fun k_ hk => ⟨⟨hk.1, ⟨hk.2.2.1, ⟨hk.2.2.2.1, hk.2.2.2.2⟩⟩⟩, hk.2.1⟩))).2.1 (Kd.V_F (Kd.V_mono (ok' := (fun k_ => ((fun k_ => ((P0_0_ k_ ∨ P1_ k_) ∨ w.heap.size ≤ k_) ∧ k_ ≠ gb391 ∧ k_ ≠ gb392 ∧ k_ ≠ gb399)) k_ ∧ some k_ ≠ (.slice Ao22 y396.length co22 : Value).ownBlock)) (HO1.out) (fun k_ hk => ⟨⟨hk.1, ⟨hk.2.2.1, ⟨hk.2.2.2.1, hk.2.2.2.2⟩⟩⟩, hk.2.1⟩))))); (case aB => exact (by repeat (first | (with_reducible first | exact HB.out | apply below_alloc | apply pw_below_drewN | apply below_drew1 | refine below_set ?_ GE391.out | refine below_set ?_ GE392.out | refine below_set ?_ GE399.out) | exact HB.out))); (case aF => exact (fun k_ hk => ⟨(.inr (Nat.le_trans (below_size (by repeat (first | (with_reducible first | exact HB.out | apply below_alloc | apply pw_below_drewN | apply below_drew1 | refine below_set ?_ GE391.out | refine below_set ?_ GE392.out | refine below_set ?_ GE399.out) | exact HB.out))) hk)), Kd.freshB (g := gb391) (o := .cells #[.slice A0_0 l0_0.length c0_0, .int .i64 a0_1, .int .i64 a0_2] 46 (0, 0)) (by (with_reducible repeat (first | refine blk_drewN ?_ _ | refine blk_drew ?_ | refine blk_alloc ?_ _)); exact BK391.out) k_ hk, Kd.freshB (g := gb392) (o := .cells #[.slice none 0 0, .int .i64 0, .int .i64 0] 46 (0, 0)) (by (with_reducible repeat (first | refine blk_drewN ?_ _ | refine blk_drew ?_ | refine blk_alloc ?_ _)); exact BK392.out) k_ hk, Kd.freshB (g := gb399) (o := .cells #[.slice Ao22 y396.length co22, .int .i64 a0_1, .int .i64 (wrap64 (a0_2 + 1))] 46 (0, 0)) (by (with_reducible repeat (first | refine blk_drewN ?_ _ | refine blk_drew ?_ | refine blk_alloc ?_ _)); exact BK399.out) k_ hk⟩)); (case aO => exact (by (with_reducible repeat (first | apply Kd.N_alloc | apply Kd.N_drewN | apply Kd.N_drew)); exact HO398.out)); (case aS => exact (below_size (by repeat (first | (with_reducible first | exact HB.out | apply below_alloc | apply pw_below_drewN | apply below_drew1 | refine below_set ?_ GE391.out | refine below_set ?_ GE392.out | refine below_set ?_ GE399.out) | exact HB.out)))); (case aL => have := LMc10.out; omega); intro v401 w31 ho hb hg hat; rw [← Ny400.out] at ho; have n0_ := Aside0.mk (Kd.V_afterv (ok := (fun k_ => ((P0_0_ k_ ∨ P1_ k_) ∨ w.heap.size ≤ k_) ∧ k_ ≠ gb391 ∧ k_ ≠ gb392 ∧ k_ ≠ gb399)) (by (with_reducible repeat (first | apply Kd.V_alloc | apply Kd.V_drewN | apply Kd.V_drew)); exact Kd.V_mono HO0_0.out (fun _ hk => ⟨⟨hk.1, ⟨hk.2.2.1, ⟨hk.2.2.2.1, hk.2.2.2.2⟩⟩⟩, hk.2.1⟩)) hg hat); have n1_ := Aside0.mk (Kd.V_afterv (ok := (fun k_ => ((P0_0_ k_ ∨ P1_ k_) ∨ w.heap.size ≤ k_) ∧ k_ ≠ gb391 ∧ k_ ≠ gb392 ∧ k_ ≠ gb399)) (by (with_reducible repeat (first | apply Kd.V_alloc | apply Kd.V_drewN | apply Kd.V_drew)); exact Kd.V_mono HO1.out (fun _ hk => ⟨⟨hk.1, ⟨hk.2.2.1, ⟨hk.2.2.2.1, hk.2.2.2.2⟩⟩⟩, hk.2.1⟩)) hg hat); have n2_ := Aside0.mk (blk_grown (g := gb391) (o := .cells #[.slice A0_0 l0_0.length c0_0, .int .i64 a0_1, .int .i64 a0_2] 46 (0, 0)) (by (with_reducible repeat (first | refine blk_drewN ?_ _ | refine blk_drew ?_ | refine blk_alloc ?_ _)); exact BK391.out) hg (Kd.N_ne HO398.out BK391.out (by decide))); have n3_ := Aside0.mk (blk_grown (g := gb392) (o := .cells #[.slice none 0 0, .int .i64 0, .int .i64 0] 46 (0, 0)) (by (with_reducible repeat (first | refine blk_drewN ?_ _ | refine blk_drew ?_ | refine blk_alloc ?_ _)); exact BK392.out) hg (Kd.N_ne HO398.out BK392.out (by decide))); have n4_ := Aside0.mk (blk_grown (g := gb399) (o := .cells #[.slice Ao22 y396.length co22, .int .i64 a0_1, .int .i64 (wrap64 (a0_2 + 1))] 46 (0, 0)) (by (with_reducible repeat (first | refine blk_drewN ?_ _ | refine blk_drew ?_ | refine blk_alloc ?_ _)); exact BK399.out) hg (Kd.N_ne HO398.out BK399.out (by decide))); have n5_ := Aside0.mk (hb); have n6_ := Aside0.mk (ho); clear HO0_0; clear HO1; clear BK391; clear BK392; clear BK399; clear HB; clear HO398; have HO0_0 := n0_; have HO1 := n1_; have BK391 := n2_; have BK392 := n3_; have BK399 := n4_; have HB := n5_; have HO402 := n6_; clear n0_ n1_ n2_ n3_ n4_ n5_ n6_; clear ho hb hg hat; obtain ⟨Ao32, co32, eo32⟩ := Kd.N_slice HO402.out; subst eo32; have hcz33_0 : w31.cell? ⟨gb399, 0, none⟩ = some (.slice Ao22 y396.length co22) := (blk_cell BK399.out 0).trans rfl; have hcz33_1 : w31.cell? ⟨gb399, 1, none⟩ = some (.int .i64 a0_1) := (blk_cell BK399.out 1).trans rfl; have hcz33_2 : w31.cell? ⟨gb399, 2, none⟩ = some (.int .i64 (wrap64 (a0_2 + 1))) := (blk_cell BK399.out 2).trans rfl; have hfz33_0 := blk_frozen BK399.out 0; have hfz33_1 := blk_frozen BK399.out 1; have hfz33_2 := blk_frozen BK399.out 2))
        have n0_ : Aside0 (Kd.V k86 86 (w31.setCell ⟨gb399, 0, none⟩ (.slice Ao32 y400.length co32)) w.heap.size (fun k_ => ((P0_0_ k_ ∨ P1_ k_) ∨ w.heap.size ≤ k_) ∧ some k_ ≠ (.slice Ao32 y400.length co32 : Value).ownBlock ∧ k_ ≠ gb391 ∧ k_ ≠ gb392 ∧ k_ ≠ gb399) (.slice A0_0 l0_0.length c0_0) l0_0) := ⟨by (with_reducible repeat (first | apply Kd.V_alloc | apply Kd.V_drewN | apply Kd.V_drew)); exact Kd.V_mono (Kd.V_far (p := ⟨gb399, 0, none⟩) (Kd.V_mono HO0_0.out (fun k_ hk => (⟨hk, hk.1.2.2.2⟩ : _ ∧ k_ ≠ gb399))) (fun _ hk => hk.2) (.slice Ao32 y400.length co32)) (fun _ hk => ⟨hk.1.1.1, ⟨hk.1.2, ⟨hk.1.1.2.1, ⟨hk.1.1.2.2.1, hk.1.1.2.2.2⟩⟩⟩⟩)⟩
        have n1_ : Aside0 (Kd.V k72 72 (w31.setCell ⟨gb399, 0, none⟩ (.slice Ao32 y400.length co32)) w.heap.size (fun k_ => ((P0_0_ k_ ∨ P1_ k_) ∨ w.heap.size ≤ k_) ∧ some k_ ≠ (.slice Ao32 y400.length co32 : Value).ownBlock ∧ k_ ≠ gb391 ∧ k_ ≠ gb392 ∧ k_ ≠ gb399) (.slice A1 l1.length c1) l1) := ⟨by (with_reducible repeat (first | apply Kd.V_alloc | apply Kd.V_drewN | apply Kd.V_drew)); exact Kd.V_mono (Kd.V_far (p := ⟨gb399, 0, none⟩) (Kd.V_mono HO1.out (fun k_ hk => (⟨hk, hk.1.2.2.2⟩ : _ ∧ k_ ≠ gb399))) (fun _ hk => hk.2) (.slice Ao32 y400.length co32)) (fun _ hk => ⟨hk.1.1.1, ⟨hk.1.2, ⟨hk.1.1.2.1, ⟨hk.1.1.2.2.1, hk.1.1.2.2.2⟩⟩⟩⟩)⟩
        have n2_ : Aside0 (Kd.N k86 86 (w31.setCell ⟨gb399, 0, none⟩ (.slice Ao32 y400.length co32)) w.heap.size (fun k_ => ((P0_0_ k_ ∨ P1_ k_) ∨ w.heap.size ≤ k_) ∧ k_ ≠ gb391 ∧ k_ ≠ gb392 ∧ k_ ≠ gb399) (.slice Ao32 y400.length co32) y400) := ⟨by (with_reducible repeat (first | apply Kd.N_alloc | apply Kd.N_drewN | apply Kd.N_drew)); exact Kd.N_mono (Kd.N_far (p := ⟨gb399, 0, none⟩) (Kd.N_mono HO402.out (fun k_ hk => (⟨hk, hk.2.2.2⟩ : _ ∧ k_ ≠ gb399))) (fun _ hk => hk.2) (.slice Ao32 y400.length co32)) (fun _ hk => ⟨hk.1.1, ⟨hk.1.2.1, ⟨hk.1.2.2.1, hk.1.2.2.2⟩⟩⟩)⟩
        have n3_ : Aside0 ((w31.setCell ⟨gb399, 0, none⟩ (.slice Ao32 y400.length co32)).heap[gb391]? = some (.cells #[.slice A0_0 l0_0.length c0_0, .int .i64 a0_1, .int .i64 a0_2] 46 (0, 0))) := ⟨by (with_reducible repeat (first | refine blk_drewN ?_ _ | refine blk_drew ?_ | refine blk_alloc ?_ _)); refine blk_far ?_ NB391_399.out _; (with_reducible repeat (first | refine blk_drewN ?_ _ | refine blk_drew ?_ | refine blk_alloc ?_ _)); exact BK391.out⟩
        have n4_ : Aside0 ((w31.setCell ⟨gb399, 0, none⟩ (.slice Ao32 y400.length co32)).heap[gb392]? = some (.cells #[.slice none 0 0, .int .i64 0, .int .i64 0] 46 (0, 0))) := ⟨by (with_reducible repeat (first | refine blk_drewN ?_ _ | refine blk_drew ?_ | refine blk_alloc ?_ _)); refine blk_far ?_ NB392_399.out _; (with_reducible repeat (first | refine blk_drewN ?_ _ | refine blk_drew ?_ | refine blk_alloc ?_ _)); exact BK392.out⟩
        have n5_ : Aside0 ((w31.setCell ⟨gb399, 0, none⟩ (.slice Ao32 y400.length co32)).heap[gb399]? = some (.cells #[.slice Ao32 y400.length co32, .int .i64 a0_1, .int .i64 (wrap64 (a0_2 + 1))] 46 (0, 0))) := ⟨by (with_reducible repeat (first | refine blk_drewN ?_ _ | refine blk_drew ?_ | refine blk_alloc ?_ _)); refine blk_put (cs := #[.slice Ao22 y396.length co22, .int .i64 a0_1, .int .i64 (wrap64 (a0_2 + 1))]) ?_ 0 _ rfl; (with_reducible repeat (first | refine blk_drewN ?_ _ | refine blk_drew ?_ | refine blk_alloc ?_ _)); exact BK399.out⟩
        have n6_ : Aside0 (Below w.heap.size w (w31.setCell ⟨gb399, 0, none⟩ (.slice Ao32 y400.length co32))) := ⟨by repeat (first | (with_reducible first | exact HB.out | apply below_alloc | apply pw_below_drewN | apply below_drew1 | refine below_set ?_ GE391.out | refine below_set ?_ GE392.out | refine below_set ?_ GE399.out) | exact HB.out)⟩
        (try clear HO0_0)
        (try clear HO1)
        (try clear HO402)
        (try clear BK391)
        (try clear BK392)
        (try clear BK399)
        (try clear HB)
        generalize (w31.setCell ⟨gb399, 0, none⟩ (.slice Ao32 y400.length co32)) = w34 at n0_ n1_ n2_ n3_ n4_ n5_ n6_ ⊢
        have HO0_0 := n0_
        have HO1 := n1_
        have HO402 := n2_
        have BK391 := n3_
        have BK392 := n4_
        have BK399 := n5_
        have HB := n6_
        clear n0_ n1_ n2_ n3_ n4_ n5_ n6_
        have n0_ := Aside0.mk (Kd.V_drew HO0_0.out)
        have n1_ := Aside0.mk (Kd.V_drew HO1.out)
        have n2_ := Aside0.mk (Kd.N_drew HO402.out)
        have n3_ := Aside0.mk (blk_drew BK391.out)
        have n4_ := Aside0.mk (blk_drew BK392.out)
        have n5_ := Aside0.mk (blk_drew BK399.out)
        have n6_ := Aside0.mk (below_drew1 HB.out)
        clear HO0_0
        clear HO1
        clear HO402
        clear BK391
        clear BK392
        clear BK399
        clear HB
        have HO0_0 := n0_
        have HO1 := n1_
        have HO402 := n2_
        have BK391 := n3_
        have BK392 := n4_
        have BK399 := n5_
        have HB := n6_
        clear n0_ n1_ n2_ n3_ n4_ n5_ n6_
        refine start_ (n := 7) (S := fun w' => w'.cell? ⟨gb399, 0, none⟩ = some (.slice Ao32 y400.length co32) ∧ w'.cell? ⟨gb399, 1, none⟩ = some (.int .i64 a0_1) ∧ w'.cell? ⟨gb399, 2, none⟩ = some (.int .i64 (wrap64 (a0_2 + 1))) ∧ w'.cell? ⟨gb391, 0, none⟩ = some (.slice A0_0 l0_0.length c0_0) ∧ w'.cell? ⟨gb391, 1, none⟩ = some (.int .i64 a0_1) ∧ w'.cell? ⟨gb391, 2, none⟩ = some (.int .i64 a0_2)) (ds := []) #[false, false, false, false, false, false, false] (by kernel_rfl) rfl rfl ⟨(blk_cell BK399.out 0).trans rfl, (blk_cell BK399.out 1).trans rfl, (blk_cell BK399.out 2).trans rfl, (blk_cell BK391.out 0).trans rfl, (blk_cell BK391.out 1).trans rfl, (blk_cell BK391.out 2).trans rfl⟩ (fun hHeld => ?_)
        generalize w34.drew = w35 at HO0_0 HO1 HO402 BK391 BK392 BK399 HB hHeld ⊢
        refine pure_ (i := 1) (N := some 36) (v := ?_) (a' := ?_) #[false, true, false, false, false, false, false] rfl rfl (by kernel_rfl) (fun _ _ _ h => h) (Or.inl ⟨by rfl, ?_⟩) ?_ ?_
        rotate_left
        · intro w'
          go_simp
          with_reducible rfl
        rotate_left
        · simp only [Act.put, List.setIfInBounds_toArray, List.set_cons_zero, List.set_cons_succ, i64_w, i32_w]
          rfl
        refine take_ (i := 0) (N := some 35) (v := ?_) (a' := ?_) #[true, true, false, false, false, false, false] rfl rfl (by kernel_rfl) (fun _ _ _ h => h) (Or.inl ⟨by rfl, ?_⟩) hHeld ?_ ?_
        rotate_left
        · rintro w' ⟨s0, s1, s2, s3, s4, s5⟩
          go_simp
          with_reducible rfl
        rotate_left
        · simp only [Act.put, List.setIfInBounds_toArray, List.set_cons_zero, List.set_cons_succ, i64_w, i32_w]
          rfl
        refine take_ (i := 2) (N := some 37) (v := ?_) (a' := ?_) #[true, true, true, false, false, false, false] rfl rfl (by kernel_rfl) (fun _ _ _ h => h) (Or.inl ⟨by rfl, ?_⟩) hHeld ?_ ?_
        rotate_left
        · rintro w' ⟨s0, s1, s2, s3, s4, s5⟩
          go_simp
          with_reducible rfl
        rotate_left
        · simp only [Act.put, List.setIfInBounds_toArray, List.set_cons_zero, List.set_cons_succ, i64_w, i32_w]
          rfl
        refine pure_ (i := 3) (N := some 38) (v := ?_) (a' := ?_) #[true, true, true, true, false, false, false] rfl rfl (by kernel_rfl) (fun _ _ _ h => h) (Or.inl ⟨by rfl, ?_⟩) ?_ ?_
        rotate_left
        · intro w'
          go_simp
          with_reducible rfl
        rotate_left
        · simp only [Act.put, List.setIfInBounds_toArray, List.set_cons_zero, List.set_cons_succ, i64_w, i32_w]
          rfl
        refine one_ (i := 4) (N := none) #[true, true, true, true, true, false, false] rfl rfl (by kernel_rfl) (by decide) (fun K hK => ?_)
        have hs36 : w35.cell? ⟨gb392, 0, none⟩ = some (.slice none 0 0) := (blk_cell BK392.out 0).trans rfl
        have hfs36 := blk_frozen BK392.out 0
        have hns36_0 := NB391_392.out
        have hns36_2 := NB399_392.out
        have hms36_0 := NB392_391.out
        have hms36_2 := NB392_399.out
        have hs37 : w35.cell? ⟨gb392, 1, none⟩ = some (.int .i64 0) := (blk_cell BK392.out 1).trans rfl
        have hfs37 := blk_frozen BK392.out 1
        have hns37_0 := NB391_392.out
        have hns37_2 := NB399_392.out
        have hms37_0 := NB392_391.out
        have hms37_2 := NB392_399.out
        have hs38 : w35.cell? ⟨gb392, 2, none⟩ = some (.int .i64 0) := (blk_cell BK392.out 2).trans rfl
        have hfs38 := blk_frozen BK392.out 2
        have hns38_0 := NB391_392.out
        have hns38_2 := NB399_392.out
        have hms38_0 := NB392_391.out
        have hms38_2 := NB392_399.out
        refine skip_ (w1 := ?_) (by rfl) rfl ?_ ?_
        rotate_left
        · go_simp
          rfl
        refine hK.out _ _ ⟨((cell_far (p := ⟨gb392, _, none⟩) NB399_392.out _).trans (((cell_far (p := ⟨gb392, _, none⟩) NB399_392.out _).trans (((cell_far (p := ⟨gb392, _, none⟩) NB399_392.out _).trans (hHeld.1)))))), ((cell_far (p := ⟨gb392, _, none⟩) NB399_392.out _).trans (((cell_far (p := ⟨gb392, _, none⟩) NB399_392.out _).trans (((cell_far (p := ⟨gb392, _, none⟩) NB399_392.out _).trans (hHeld.2.1)))))), ((cell_far (p := ⟨gb392, _, none⟩) NB399_392.out _).trans (((cell_far (p := ⟨gb392, _, none⟩) NB399_392.out _).trans (((cell_far (p := ⟨gb392, _, none⟩) NB399_392.out _).trans (hHeld.2.2.1)))))), ((cell_far (p := ⟨gb392, _, none⟩) NB391_392.out _).trans (((cell_far (p := ⟨gb392, _, none⟩) NB391_392.out _).trans (((cell_far (p := ⟨gb392, _, none⟩) NB391_392.out _).trans (hHeld.2.2.2.1)))))), ((cell_far (p := ⟨gb392, _, none⟩) NB391_392.out _).trans (((cell_far (p := ⟨gb392, _, none⟩) NB391_392.out _).trans (((cell_far (p := ⟨gb392, _, none⟩) NB391_392.out _).trans (hHeld.2.2.2.2.1)))))), ((cell_far (p := ⟨gb392, _, none⟩) NB391_392.out _).trans (((cell_far (p := ⟨gb392, _, none⟩) NB391_392.out _).trans (((cell_far (p := ⟨gb392, _, none⟩) NB391_392.out _).trans (hHeld.2.2.2.2.2))))))⟩ (fun hHeld => ?_)
        clear hK K
        refine pure_ (i := 5) (N := some 5) (v := ?_) (a' := ?_) #[true, true, true, true, true, true, false] rfl rfl (by kernel_rfl) (fun _ _ _ h => h) (Or.inl ⟨by rfl, ?_⟩) ?_ ?_
        rotate_left
        · intro w'
          go_simp
          with_reducible rfl
        rotate_left
        · simp only [Act.put, List.setIfInBounds_toArray, List.set_cons_zero, List.set_cons_succ, i64_w, i32_w]
          rfl
        refine pure_ (i := 6) (N := some 6) (v := ?_) (a' := ?_) #[true, true, true, true, true, true, true] rfl rfl (by kernel_rfl) (fun _ _ _ h => h) (Or.inl ⟨by rfl, ?_⟩) ?_ ?_
        rotate_left
        · intro w'
          go_simp
          with_reducible rfl
        rotate_left
        · simp only [Act.put, List.setIfInBounds_toArray, List.set_cons_zero, List.set_cons_succ, i64_w, i32_w]
          rfl
        refine done_ (by kernel_rfl) ?_
        try go_wp2
        refine bodyPost_ret (results_ctt rfl _ _ gb392 46 #[.slice Ao32 y400.length co32, .int .i64 a0_1, .int .i64 (wrap64 (a0_2 + 1))] (0, 0) _ rfl (by (with_reducible repeat (first | refine blk_drewN ?_ _ | refine blk_drew ?_ | refine blk_alloc ?_ _)); refine blk_put (cs := #[.slice Ao32 y400.length co32, .int .i64 a0_1, .int .i64 0]) ?_ 2 _ rfl; (with_reducible repeat (first | refine blk_drewN ?_ _ | refine blk_drew ?_ | refine blk_alloc ?_ _)); refine blk_put (cs := #[.slice Ao32 y400.length co32, .int .i64 0, .int .i64 0]) ?_ 1 _ rfl; (with_reducible repeat (first | refine blk_drewN ?_ _ | refine blk_drew ?_ | refine blk_alloc ?_ _)); refine blk_put (cs := #[.slice none 0 0, .int .i64 0, .int .i64 0]) ?_ 0 _ rfl; (with_reducible repeat (first | refine blk_drewN ?_ _ | refine blk_drew ?_ | refine blk_alloc ?_ _)); exact BK392.out) Try.underlying46 rfl (by kernel_rfl)) rfl ?_
        exact ⟨_, by first | rfl | (simp [errW_none, errW_some] <;> rfl) | (simp [*, errW_none, errW_some] <;> rfl), by (with_reducible repeat (first | apply Kd.N_alloc | apply Kd.N_drewN | apply Kd.N_drew)); exact Kd.N_mono (Kd.N_far (p := ⟨gb392, 2, none⟩) (Kd.N_far (p := ⟨gb392, 1, none⟩) (Kd.N_far (p := ⟨gb392, 0, none⟩) (Kd.N_mono HO402.out (fun k_ hk => (⟨hk, hk.2.2.1⟩ : _ ∧ k_ ≠ gb392))) (fun _ hk => hk.2) (.slice Ao32 y400.length co32)) (fun _ hk => hk.2) (.int .i64 a0_1)) (fun _ hk => hk.2) (.int .i64 (wrap64 (a0_2 + 1)))) (fun _ hk => hk.1.1), by repeat (first | (with_reducible first | exact HB.out | apply below_alloc | apply pw_below_drewN | apply below_drew1 | refine below_set ?_ GE391.out | refine below_set ?_ GE392.out | refine below_set ?_ GE399.out) | exact HB.out)⟩
      · rw [if_neg c10] at H
        exact absurd H (by simp)
    · rw [if_neg c9] at H
      exact absurd H (by simp)

end Go.Proofs.Ytkabbahfaeeihaa.Q
