/- Contracts of the functions that the laws reach, in the words of the kit's print; written by a program of this claim (gen_q.py). -/
import Derived.Test.YtkabbahfaeeihaaQ0
import Derived.Test.YtkabbahfaeeihaaQ11
namespace Go.Proofs.Ytkabbahfaeeihaa.Q
open Go.RowKit Go.Proofs.YtkabbahfaeeihaaW.PrintWords Go.Proofs.YtkabbahfaeeihaaW.PrintLast Go.Proofs.YtkabbahfaeeihaaW.PrintMore
attribute [local go_sem] max2_int min2_int max_two min_two max_three min_three max_four min_four   -- for this text's walks alone
set_option linter.unusedVariables false
set_option linter.unusedSimpArgs false

/-! ### snaps_Oldest: function 25 -/
def snaps_Oldest.f (l0_0 : List Int) (l0_1 : List (List (S72))) (a0_2 : Int) (a0_3 : Int) : Option (List Int × (List (List (S72))) × Int × Int × Int) := if (l0_0.length : Int) = 0 then (some (l0_0, l0_1, a0_2, a0_3, 0)) else ((api_Node_without.f l0_0 l0_1 a0_2 a0_3 0).bind fun bt348 => (if 0 < (l0_0.length : Int) then (some (bt348.1, bt348.2.1, bt348.2.2.1, bt348.2.2.2, rd l0_0 0)) else (none)))
def snaps_Oldest.T3 : Bool × List (List Nat × List Nat) := (true, [([], []), ([0], [0]), ([1], [1]), ([2], [2]), ([], []), ([4], [4]), ([5], [5]), ([6], [6]), ([7], [7]), ([3, 2, 0, 1, 2, 3], [3]), ([8, 9, 0, 1, 2, 3, 4, 5, 6, 7, 8, 9], [8])])
def snaps_Oldest.B3 : List Nat := [0, 1, 3, 7, 0, 16, 48, 112, 240, 15, 1023]
theorem snaps_Oldest.tab3 : rtab .any (opsOf Try.f25 3) = snaps_Oldest.T3 := by kernel_rfl
theorem snaps_Oldest.bits3 : waitsOk snaps_Oldest.T3.2 snaps_Oldest.B3 = true := by kernel_rfl
set_option maxHeartbeats 8000000 in
set_option maxRecDepth 100000 in
theorem snaps_Oldest.calls (P0_0_ : Nat → Prop) (u9000_ : Value) (l0_0 : List Int) (P0_1_ : Nat → Prop) (A0_1 : Option Addr) (c0_1 : Nat) (l0_1 : List (List (S72))) (a0_2 : Int) (a0_3 : Int) (r1 : List Int) (r2 : List (List (S72))) (r3 : Int) (r4 : Int) (r5 : Int) (w0 w : World) (hB : Below w0.heap.size w0 w) (ho0_0 : Kd.R (Kd.int .i64) 3 w w0.heap.size P0_0_ u9000_ l0_0) (hs0_1 : Kd.V (Kd.slice 72 k72) 31 w w0.heap.size (fun k_ => P0_1_ k_ ∧ some k_ ≠ (u9000_ : Value).ownBlock) (.slice A0_1 l0_1.length c0_1) l0_1) (h : snaps_Oldest.f l0_0 l0_1 a0_2 a0_3 = some (r1, r2, r3, r4, r5)) :
    Calls Try.prog 25 #[.agg #[u9000_, .slice A0_1 l0_1.length c0_1, .int .i64 a0_2, .int .i64 a0_3]] w fun e w' => ∃ v0_ v1_ : Value, e = .returned (.tuple #[.agg #[v0_, v1_, .int .i64 r3, .int .i64 r4], .int .i64 r5]) ∧ Kd.R (Kd.int .i64) 3 w' w0.heap.size (fun k_ => (P0_0_ k_ ∨ w.heap.size ≤ k_)) v0_ r1 ∧ Kd.V (Kd.slice 72 k72) 31 w' w0.heap.size (fun k_ => ((P0_0_ k_ ∨ P0_1_ k_) ∨ w.heap.size ≤ k_) ∧ some k_ ≠ (v0_ : Value).ownBlock) v1_ r2 ∧ Below w0.heap.size w0 w' ∧ Kept w w' (fun k_ => P0_0_ k_) := by
  have hu28 := Try.underlying28
  have hu26 := Try.underlying26
  have HO0_0 := Aside0.mk (show Kd.R (Kd.int .i64) 3 w w0.heap.size (fun k_ => (P0_0_ k_ ∨ w.heap.size ≤ k_)) u9000_ l0_0 from Kd.R_mono ho0_0 (fun k_ hk => (.inl hk)))
  have HO0_1 := Aside0.mk (show Kd.V (Kd.slice 72 k72) 31 w w0.heap.size (fun k_ => ((P0_0_ k_ ∨ P0_1_ k_) ∨ w.heap.size ≤ k_) ∧ some k_ ≠ (u9000_ : Value).ownBlock) (.slice A0_1 l0_1.length c0_1) l0_1 from Kd.V_mono hs0_1 (fun k_ hk => ⟨.inl (.inr hk.1), hk.2⟩))
  have HK := Aside0.mk (Kept.refl w (fun k_ => P0_0_ k_))
  have HW0 := Aside0.mk hB.size
  have HB := Aside0.mk hB
  clear hB
  have H : (if (l0_0.length : Int) = 0 then (some (l0_0, l0_1, a0_2, a0_3, 0)) else ((api_Node_without.f l0_0 l0_1 a0_2 a0_3 0).bind fun bt348 => (if 0 < (l0_0.length : Int) then (some (bt348.1, bt348.2.1, bt348.2.2.1, bt348.2.2.2, rd l0_0 0)) else (none)))) = some (r1, r2, r3, r4, r5) := h
  clear h
  by_cases c2 : (l0_0.length : Int) = 0
  · rw [if_pos c2] at H
    have c2b0 : ((l0_0.length : Int) == 0) = true := beq_iff_eq.mpr c2
    have c2b1 : ((l0_0.length : Int) != 0) = false := bne_eq_false_iff_eq.mpr c2
    clear c2
    simp only [Option.some.injEq, Prod.mk.injEq] at H
    obtain ⟨rfl, rfl, rfl, rfl, rfl⟩ := H
    obtain ⟨Ao3, co3, eo3⟩ := Kd.R_slice HO0_0.out
    subst eo3
    go_enter Try.func25, Try.ntmps25
    go_wp2_with (first | ((with_reducible refine gate_dst (N := 1) rfl ?_); refine box_event ?hg (N := 1) ?hd (cs := #[.slice Ao3 l0_0.length co3, .slice A0_1 l0_1.length c0_1, .int .i64 a0_2, .int .i64 a0_3]) (t := 28) ?hr ?_; (case hd => rfl); (case hg => rfl); (case hr => first | (go_simp; done) | (go_simp; rfl)); intro gb346 hg w4 hbox hb; have n0_ := Aside0.mk (Kd.R_below (by (with_reducible repeat (first | apply Kd.R_alloc | apply Kd.R_drewN | apply Kd.R_drew)); exact HO0_0.out) hb); have n1_ := Aside0.mk (Kd.V_below (Kd.V_elderB (by (with_reducible repeat (first | apply Kd.V_alloc | apply Kd.V_drewN | apply Kd.V_drew)); exact HO0_1.out) gb346 (Nat.le_of_eq hg.symm)) hb); have n2_ := Aside0.mk (Kept.below (S := (fun k_ => P0_0_ k_)) (by repeat (first | (with_reducible first | exact HK.out | apply Kept.alloc | apply Kept.drewN | apply Kept.drew) | exact HK.out)) hb); have n3_ := Aside0.mk (below_step (by repeat (first | (with_reducible first | exact HB.out | apply below_alloc | apply pw_below_drewN | apply below_drew1) | exact HB.out)) hb); have n4_ := Aside0.mk (hbox); have n5_ := Aside0.mk ((by rw [hg]; exact (by first | exact HK.out.1 | exact (show Kept w _ (fun k_ => P0_0_ k_) from by repeat (first | (with_reducible first | exact HK.out | apply Kept.alloc | apply Kept.drewN | apply Kept.drew) | exact HK.out)).1) : w.heap.size ≤ gb346)); have n6_ := Aside0.mk ((by rw [hg]; exact (below_size (by repeat (first | (with_reducible first | exact HB.out | apply below_alloc | apply pw_below_drewN | apply below_drew1) | exact HB.out))) : w0.heap.size ≤ gb346)); clear HO0_0; clear HO0_1; clear HK; clear HB; have HO0_0 := n0_; have HO0_1 := n1_; have HK := n2_; have HB := n3_; have BK346 := n4_; have GW346 := n5_; have GE346 := n6_; clear n0_ n1_ n2_ n3_ n4_ n5_ n6_; clear hb hbox hg) | ((with_reducible refine gate_dst (N := 2) rfl ?_); refine box_event ?hg (N := 2) ?hd (cs := #[.slice none 0 0, .slice none 0 0, .int .i64 0, .int .i64 0]) (t := 28) ?hr ?_; (case hd => rfl); (case hg => rfl); (case hr => first | (go_simp; done) | (go_simp; rfl)); intro gb347 hg w5 hbox hb; have n0_ := Aside0.mk (Kd.R_below (by (with_reducible repeat (first | apply Kd.R_alloc | apply Kd.R_drewN | apply Kd.R_drew)); exact HO0_0.out) hb); have n1_ := Aside0.mk (Kd.V_below (Kd.V_elderB (by (with_reducible repeat (first | apply Kd.V_alloc | apply Kd.V_drewN | apply Kd.V_drew)); exact HO0_1.out) gb347 (Nat.le_of_eq hg.symm)) hb); have n2_ := Aside0.mk (blk_below (g := gb346) (o := .cells #[.slice Ao3 l0_0.length co3, .slice A0_1 l0_1.length c0_1, .int .i64 a0_2, .int .i64 a0_3] 28 (0, 0)) (by (with_reducible repeat (first | refine blk_drewN ?_ _ | refine blk_drew ?_ | refine blk_alloc ?_ _)); exact BK346.out) hb); have n3_ := Aside0.mk (Kept.below (S := (fun k_ => P0_0_ k_)) (by repeat (first | (with_reducible first | exact HK.out | apply Kept.alloc | apply Kept.drewN | apply Kept.drew | refine Kept.setCell ?_ (.inr GW346.out) _) | exact HK.out)) hb); have n4_ := Aside0.mk (below_step (by repeat (first | (with_reducible first | exact HB.out | apply below_alloc | apply pw_below_drewN | apply below_drew1 | refine below_set ?_ GE346.out) | exact HB.out)) hb); have n5_ := Aside0.mk (hbox); have n6_ := Aside0.mk ((by rw [hg]; exact (by first | exact HK.out.1 | exact (show Kept w _ (fun k_ => P0_0_ k_) from by repeat (first | (with_reducible first | exact HK.out | apply Kept.alloc | apply Kept.drewN | apply Kept.drew | refine Kept.setCell ?_ (.inr GW346.out) _) | exact HK.out)).1) : w.heap.size ≤ gb347)); have n7_ := Aside0.mk ((by rw [hg]; exact (below_size (by repeat (first | (with_reducible first | exact HB.out | apply below_alloc | apply pw_below_drewN | apply below_drew1 | refine below_set ?_ GE346.out) | exact HB.out))) : w0.heap.size ≤ gb347)); have n8_ := Aside0.mk ((by rw [hg]; exact Nat.ne_of_lt (blk_lt (g := gb346) (o := .cells #[.slice Ao3 l0_0.length co3, .slice A0_1 l0_1.length c0_1, .int .i64 a0_2, .int .i64 a0_3] 28 (0, 0)) (by (with_reducible repeat (first | refine blk_drewN ?_ _ | refine blk_drew ?_ | refine blk_alloc ?_ _)); exact BK346.out)) : gb346 ≠ gb347)); have n9_ := Aside0.mk ((by rw [hg]; exact Nat.ne_of_gt (blk_lt (g := gb346) (o := .cells #[.slice Ao3 l0_0.length co3, .slice A0_1 l0_1.length c0_1, .int .i64 a0_2, .int .i64 a0_3] 28 (0, 0)) (by (with_reducible repeat (first | refine blk_drewN ?_ _ | refine blk_drew ?_ | refine blk_alloc ?_ _)); exact BK346.out)) : gb347 ≠ gb346)); clear HO0_0; clear HO0_1; clear BK346; clear HK; clear HB; have HO0_0 := n0_; have HO0_1 := n1_; have BK346 := n2_; have HK := n3_; have HB := n4_; have BK347 := n5_; have GW347 := n6_; have GE347 := n7_; have NB346_347 := n8_; have NB347_346 := n9_; clear n0_ n1_ n2_ n3_ n4_ n5_ n6_ n7_ n8_ n9_; clear hb hbox hg; have hnb6 := NB346_347.out; have hnc6 := NB347_346.out; have hcz7_0 : w5.cell? ⟨gb346, 0, none⟩ = some (.slice Ao3 l0_0.length co3) := (blk_cell BK346.out 0).trans rfl; have hcz7_1 : w5.cell? ⟨gb346, 1, none⟩ = some (.slice A0_1 l0_1.length c0_1) := (blk_cell BK346.out 1).trans rfl; have hcz7_2 : w5.cell? ⟨gb346, 2, none⟩ = some (.int .i64 a0_2) := (blk_cell BK346.out 2).trans rfl; have hcz7_3 : w5.cell? ⟨gb346, 3, none⟩ = some (.int .i64 a0_3) := (blk_cell BK346.out 3).trans rfl; have hfz7_0 := blk_frozen BK346.out 0; have hfz7_1 := blk_frozen BK346.out 1; have hfz7_2 := blk_frozen BK346.out 2; have hfz7_3 := blk_frozen BK346.out 3; have hcz8_0 : w5.cell? ⟨gb347, 0, none⟩ = some (.slice none 0 0) := (blk_cell BK347.out 0).trans rfl; have hcz8_1 : w5.cell? ⟨gb347, 1, none⟩ = some (.slice none 0 0) := (blk_cell BK347.out 1).trans rfl; have hcz8_2 : w5.cell? ⟨gb347, 2, none⟩ = some (.int .i64 0) := (blk_cell BK347.out 2).trans rfl; have hcz8_3 : w5.cell? ⟨gb347, 3, none⟩ = some (.int .i64 0) := (blk_cell BK347.out 3).trans rfl; have hfz8_0 := blk_frozen BK347.out 0; have hfz8_1 := blk_frozen BK347.out 1; have hfz8_2 := blk_frozen BK347.out 2; have hfz8_3 := blk_frozen BK347.out 3))
    refine bodyPost_ret (results_ct rfl _ _ gb347 28 #[.slice Ao3 l0_0.length co3, .slice A0_1 l0_1.length c0_1, .int .i64 a0_2, .int .i64 a0_3] (0, 0) _ rfl (by (with_reducible repeat (first | refine blk_drewN ?_ _ | refine blk_drew ?_ | refine blk_alloc ?_ _)); refine blk_put (cs := #[.slice Ao3 l0_0.length co3, .slice A0_1 l0_1.length c0_1, .int .i64 a0_2, .int .i64 0]) ?_ 3 _ rfl; (with_reducible repeat (first | refine blk_drewN ?_ _ | refine blk_drew ?_ | refine blk_alloc ?_ _)); refine blk_put (cs := #[.slice Ao3 l0_0.length co3, .slice A0_1 l0_1.length c0_1, .int .i64 0, .int .i64 0]) ?_ 2 _ rfl; (with_reducible repeat (first | refine blk_drewN ?_ _ | refine blk_drew ?_ | refine blk_alloc ?_ _)); refine blk_put (cs := #[.slice Ao3 l0_0.length co3, .slice none 0 0, .int .i64 0, .int .i64 0]) ?_ 1 _ rfl; (with_reducible repeat (first | refine blk_drewN ?_ _ | refine blk_drew ?_ | refine blk_alloc ?_ _)); refine blk_put (cs := #[.slice none 0 0, .slice none 0 0, .int .i64 0, .int .i64 0]) ?_ 0 _ rfl; (with_reducible repeat (first | refine blk_drewN ?_ _ | refine blk_drew ?_ | refine blk_alloc ?_ _)); exact BK347.out) Try.underlying28 rfl (by kernel_rfl)) rfl ?_
    exact ⟨_, _, by first | rfl | (simp [errW_none, errW_some] <;> rfl) | (simp [*, errW_none, errW_some] <;> rfl), by (with_reducible repeat (first | apply Kd.R_alloc | apply Kd.R_drewN | apply Kd.R_drew)); exact Kd.R_mono (Kd.R_far (p := ⟨gb347, 3, none⟩) (Kd.R_far (p := ⟨gb347, 2, none⟩) (Kd.R_far (p := ⟨gb347, 1, none⟩) (Kd.R_far (p := ⟨gb347, 0, none⟩) (Kd.R_types HO0_0.out BK347.out (by decide)) (fun _ hk => hk.2) (.slice Ao3 l0_0.length co3)) (fun _ hk => hk.2) (.slice A0_1 l0_1.length c0_1)) (fun _ hk => hk.2) (.int .i64 a0_2)) (fun _ hk => hk.2) (.int .i64 a0_3)) (fun _ hk => hk.1), by (with_reducible repeat (first | apply Kd.V_alloc | apply Kd.V_drewN | apply Kd.V_drew)); exact Kd.V_mono (Kd.V_far (p := ⟨gb347, 3, none⟩) (Kd.V_far (p := ⟨gb347, 2, none⟩) (Kd.V_far (p := ⟨gb347, 1, none⟩) (Kd.V_far (p := ⟨gb347, 0, none⟩) (Kd.V_mono HO0_1.out (fun k_ hk => (⟨hk, hk.2⟩ : _ ∧ k_ ≠ gb347))) (fun _ hk => hk.2) (.slice Ao3 l0_0.length co3)) (fun _ hk => hk.2) (.slice A0_1 l0_1.length c0_1)) (fun _ hk => hk.2) (.int .i64 a0_2)) (fun _ hk => hk.2) (.int .i64 a0_3)) (fun _ hk => ⟨hk.1.1.1.1, hk.1.1.1.2⟩), by repeat (first | (with_reducible first | exact HB.out | apply below_alloc | apply pw_below_drewN | apply below_drew1 | refine below_set ?_ GE346.out | refine below_set ?_ GE347.out) | exact HB.out), by repeat (first | (with_reducible first | exact HK.out | apply Kept.alloc | apply Kept.drewN | apply Kept.drew | refine Kept.setCell ?_ (.inr GW346.out) _ | refine Kept.setCell ?_ (.inr GW347.out) _) | exact HK.out)⟩
  · rw [if_neg c2] at H
    have c2b0 : ((l0_0.length : Int) == 0) = false := beq_eq_false_iff_ne.mpr c2
    have c2b1 : ((l0_0.length : Int) != 0) = true := bne_iff_ne.mpr c2
    have c2b2 : ¬ (l0_0 = []) := fun h_ => c2 (by rw [h_]; rfl)
    replace H := Option.bind_eq_some_iff.mp H
    obtain ⟨⟨t348, t351, t354, t355⟩, A90, H⟩ := H
    replace H : (if 0 < (l0_0.length : Int) then (some (t348, t351, t354, t355, rd l0_0 0)) else (none)) = some (r1, r2, r3, r4, r5) := H
    have A9 := Aside0.mk A90
    clear A90
    by_cases c10 : 0 < (l0_0.length : Int)
    · rw [if_pos c10] at H
      have c10b0 : decide (0 < (l0_0.length : Int)) = true := decide_eq_true c10
      have c10b1 : decide (0 < l0_0.length) = true := decide_eq_true (by omega)
      clear c10
      simp only [Option.some.injEq, Prod.mk.injEq] at H
      obtain ⟨rfl, rfl, rfl, rfl, rfl⟩ := H
      obtain ⟨Ao11, co11, eo11⟩ := Kd.R_slice HO0_0.out
      subst eo11
      go_enter Try.func25, Try.ntmps25
      try go_wp2_with (first | ((with_reducible refine gate_dst (N := 1) rfl ?_); refine box_event ?hg (N := 1) ?hd (cs := #[.slice Ao11 l0_0.length co11, .slice A0_1 l0_1.length c0_1, .int .i64 a0_2, .int .i64 a0_3]) (t := 28) ?hr ?_; (case hd => rfl); (case hg => rfl); (case hr => first | (go_simp; done) | (go_simp; rfl)); intro gb346 hg w12 hbox hb; have n0_ := Aside0.mk (Kd.R_below (by (with_reducible repeat (first | apply Kd.R_alloc | apply Kd.R_drewN | apply Kd.R_drew)); exact HO0_0.out) hb); have n1_ := Aside0.mk (Kd.V_below (Kd.V_elderB (by (with_reducible repeat (first | apply Kd.V_alloc | apply Kd.V_drewN | apply Kd.V_drew)); exact HO0_1.out) gb346 (Nat.le_of_eq hg.symm)) hb); have n2_ := Aside0.mk (Kept.below (S := (fun k_ => P0_0_ k_)) (by repeat (first | (with_reducible first | exact HK.out | apply Kept.alloc | apply Kept.drewN | apply Kept.drew) | exact HK.out)) hb); have n3_ := Aside0.mk (below_step (by repeat (first | (with_reducible first | exact HB.out | apply below_alloc | apply pw_below_drewN | apply below_drew1) | exact HB.out)) hb); have n4_ := Aside0.mk (hbox); have n5_ := Aside0.mk ((by rw [hg]; exact (by first | exact HK.out.1 | exact (show Kept w _ (fun k_ => P0_0_ k_) from by repeat (first | (with_reducible first | exact HK.out | apply Kept.alloc | apply Kept.drewN | apply Kept.drew) | exact HK.out)).1) : w.heap.size ≤ gb346)); have n6_ := Aside0.mk ((by rw [hg]; exact (below_size (by repeat (first | (with_reducible first | exact HB.out | apply below_alloc | apply pw_below_drewN | apply below_drew1) | exact HB.out))) : w0.heap.size ≤ gb346)); clear HO0_0; clear HO0_1; clear HK; clear HB; have HO0_0 := n0_; have HO0_1 := n1_; have HK := n2_; have HB := n3_; have BK346 := n4_; have GW346 := n5_; have GE346 := n6_; clear n0_ n1_ n2_ n3_ n4_ n5_ n6_; clear hb hbox hg) | ((with_reducible refine gate_dst (N := 2) rfl ?_); refine box_event ?hg (N := 2) ?hd (cs := #[.slice none 0 0, .slice none 0 0, .int .i64 0, .int .i64 0]) (t := 28) ?hr ?_; (case hd => rfl); (case hg => rfl); (case hr => first | (go_simp; done) | (go_simp; rfl)); intro gb347 hg w13 hbox hb; have n0_ := Aside0.mk (Kd.R_below (by (with_reducible repeat (first | apply Kd.R_alloc | apply Kd.R_drewN | apply Kd.R_drew)); exact HO0_0.out) hb); have n1_ := Aside0.mk (Kd.V_below (Kd.V_elderB (by (with_reducible repeat (first | apply Kd.V_alloc | apply Kd.V_drewN | apply Kd.V_drew)); exact HO0_1.out) gb347 (Nat.le_of_eq hg.symm)) hb); have n2_ := Aside0.mk (blk_below (g := gb346) (o := .cells #[.slice Ao11 l0_0.length co11, .slice A0_1 l0_1.length c0_1, .int .i64 a0_2, .int .i64 a0_3] 28 (0, 0)) (by (with_reducible repeat (first | refine blk_drewN ?_ _ | refine blk_drew ?_ | refine blk_alloc ?_ _)); exact BK346.out) hb); have n3_ := Aside0.mk (Kept.below (S := (fun k_ => P0_0_ k_)) (by repeat (first | (with_reducible first | exact HK.out | apply Kept.alloc | apply Kept.drewN | apply Kept.drew | refine Kept.setCell ?_ (.inr GW346.out) _) | exact HK.out)) hb); have n4_ := Aside0.mk (below_step (by repeat (first | (with_reducible first | exact HB.out | apply below_alloc | apply pw_below_drewN | apply below_drew1 | refine below_set ?_ GE346.out) | exact HB.out)) hb); have n5_ := Aside0.mk (hbox); have n6_ := Aside0.mk ((by rw [hg]; exact (by first | exact HK.out.1 | exact (show Kept w _ (fun k_ => P0_0_ k_) from by repeat (first | (with_reducible first | exact HK.out | apply Kept.alloc | apply Kept.drewN | apply Kept.drew | refine Kept.setCell ?_ (.inr GW346.out) _) | exact HK.out)).1) : w.heap.size ≤ gb347)); have n7_ := Aside0.mk ((by rw [hg]; exact (below_size (by repeat (first | (with_reducible first | exact HB.out | apply below_alloc | apply pw_below_drewN | apply below_drew1 | refine below_set ?_ GE346.out) | exact HB.out))) : w0.heap.size ≤ gb347)); have n8_ := Aside0.mk ((by rw [hg]; exact Nat.ne_of_lt (blk_lt (g := gb346) (o := .cells #[.slice Ao11 l0_0.length co11, .slice A0_1 l0_1.length c0_1, .int .i64 a0_2, .int .i64 a0_3] 28 (0, 0)) (by (with_reducible repeat (first | refine blk_drewN ?_ _ | refine blk_drew ?_ | refine blk_alloc ?_ _)); exact BK346.out)) : gb346 ≠ gb347)); have n9_ := Aside0.mk ((by rw [hg]; exact Nat.ne_of_gt (blk_lt (g := gb346) (o := .cells #[.slice Ao11 l0_0.length co11, .slice A0_1 l0_1.length c0_1, .int .i64 a0_2, .int .i64 a0_3] 28 (0, 0)) (by (with_reducible repeat (first | refine blk_drewN ?_ _ | refine blk_drew ?_ | refine blk_alloc ?_ _)); exact BK346.out)) : gb347 ≠ gb346)); clear HO0_0; clear HO0_1; clear BK346; clear HK; clear HB; have HO0_0 := n0_; have HO0_1 := n1_; have BK346 := n2_; have HK := n3_; have HB := n4_; have BK347 := n5_; have GW347 := n6_; have GE347 := n7_; have NB346_347 := n8_; have NB347_346 := n9_; clear n0_ n1_ n2_ n3_ n4_ n5_ n6_ n7_ n8_ n9_; clear hb hbox hg; have hnb14 := NB346_347.out; have hnc14 := NB347_346.out; have hcz15_0 : w13.cell? ⟨gb346, 0, none⟩ = some (.slice Ao11 l0_0.length co11) := (blk_cell BK346.out 0).trans rfl; have hcz15_1 : w13.cell? ⟨gb346, 1, none⟩ = some (.slice A0_1 l0_1.length c0_1) := (blk_cell BK346.out 1).trans rfl; have hcz15_2 : w13.cell? ⟨gb346, 2, none⟩ = some (.int .i64 a0_2) := (blk_cell BK346.out 2).trans rfl; have hcz15_3 : w13.cell? ⟨gb346, 3, none⟩ = some (.int .i64 a0_3) := (blk_cell BK346.out 3).trans rfl; have hfz15_0 := blk_frozen BK346.out 0; have hfz15_1 := blk_frozen BK346.out 1; have hfz15_2 := blk_frozen BK346.out 2; have hfz15_3 := blk_frozen BK346.out 3))
      have n0_ := Aside0.mk (Kd.R_drew HO0_0.out)
      have n1_ := Aside0.mk (Kd.V_drew HO0_1.out)
      have n2_ := Aside0.mk (blk_drew BK346.out)
      have n3_ := Aside0.mk (blk_drew BK347.out)
      have n4_ := Aside0.mk (Kept.drew HK.out)
      have n5_ := Aside0.mk (below_drew1 HB.out)
      clear HO0_0
      clear HO0_1
      clear BK346
      clear BK347
      clear HK
      clear HB
      have HO0_0 := n0_
      have HO0_1 := n1_
      have BK346 := n2_
      have BK347 := n3_
      have HK := n4_
      have HB := n5_
      clear n0_ n1_ n2_ n3_ n4_ n5_
      have p356 : 0 ≤ (0 : Int) := (by omega)
      have q356 : 0 < (l0_0.length : Int) := of_decide_eq_true (by first | (with_reducible assumption) | assumption)
      obtain ⟨ad356, e356, hx356_0⟩ := Kd.at_int (Kd.R_reads' HO0_0.out).2.2 0 p356 q356
      cases e356
      have qi356 : (0 < l0_0.length) = True := eq_true (by omega)
      (try rw [show ((0 : Int)).toNat = 0 from rfl] at hx356_0)
      (try rw [Addr.add_zero'] at hx356_0)
      replace p356 := eq_true p356
      replace q356 := eq_true q356
      refine start_ (n := 11) (S := fun w' => w'.cell? ⟨gb346, 0, none⟩ = some (.slice (some ad356) l0_0.length co11) ∧ w'.cell? ⟨gb346, 1, none⟩ = some (.slice A0_1 l0_1.length c0_1) ∧ w'.cell? ⟨gb346, 2, none⟩ = some (.int .i64 a0_2) ∧ w'.cell? ⟨gb346, 3, none⟩ = some (.int .i64 a0_3) ∧ w'.cell? ad356 = some (.int .i64 (rd l0_0 0))) (ds := []) #[false, false, false, false, false, false, false, false, false, false, false] (by kernel_rfl) rfl rfl ⟨(blk_cell BK346.out 0).trans rfl, (blk_cell BK346.out 1).trans rfl, (blk_cell BK346.out 2).trans rfl, (blk_cell BK346.out 3).trans rfl, hx356_0⟩ (fun hHeld => ?_); refine with_tabW snaps_Oldest.tab3 snaps_Oldest.bits3 (fun HT_ HW_ => ?_)
      generalize w13.drew = w16 at HO0_0 HO0_1 BK346 BK347 HK HB hx356_0 hHeld ⊢
      refine pure_ (i := 0) (N := some 10) (v := ?_) (a' := ?_) #[true, false, false, false, false, false, false, false, false, false, false] rfl rfl (any_of HT_.out (by kernel_rfl)) (fun _ _ _ h => h) (Or.inl ⟨by rfl, ?_⟩) ?_ ?_
      rotate_left
      · intro w'
        go_simp
        with_reducible rfl
      rotate_left
      · simp only [Act.put, List.setIfInBounds_toArray, List.set_cons_zero, List.set_cons_succ, i64_w, i32_w]
        rfl
      refine pure_ (i := 4) (N := some 14) (v := ?_) (a' := ?_) #[true, false, false, false, true, false, false, false, false, false, false] rfl rfl (any_of HT_.out (by kernel_rfl)) (fun _ _ _ h => h) (Or.inl ⟨by rfl, ?_⟩) ?_ ?_
      rotate_left
      · intro w'
        go_simp
        with_reducible rfl
      rotate_left
      · simp only [Act.put, List.setIfInBounds_toArray, List.set_cons_zero, List.set_cons_succ, i64_w, i32_w]
        rfl
      refine pure_ (i := 5) (N := some 15) (v := ?_) (a' := ?_) #[true, false, false, false, true, true, false, false, false, false, false] rfl rfl (any_of HT_.out (by kernel_rfl)) (fun _ _ _ h => h) (Or.inl ⟨by rfl, ?_⟩) ?_ ?_
      rotate_left
      · intro w'
        go_simp
        with_reducible rfl
      rotate_left
      · simp only [Act.put, List.setIfInBounds_toArray, List.set_cons_zero, List.set_cons_succ, i64_w, i32_w]
        rfl
      refine take_ (i := 1) (N := some 11) (v := ?_) (a' := ?_) #[true, true, false, false, true, true, false, false, false, false, false] rfl rfl (take_ofW HT_.out HW_.out (by kernel_rfl)) (fun _ _ _ h => h) (Or.inl ⟨by rfl, ?_⟩) hHeld ?_ ?_
      rotate_left
      · rintro w' ⟨s0, s1, s2, s3, s4⟩
        go_simp
        with_reducible rfl
      rotate_left
      · simp only [Act.put, List.setIfInBounds_toArray, List.set_cons_zero, List.set_cons_succ, i64_w, i32_w]
        rfl
      refine take_ (i := 6) (N := some 16) (v := ?_) (a' := ?_) #[true, true, false, false, true, true, true, false, false, false, false] rfl rfl (take_ofW HT_.out HW_.out (by kernel_rfl)) (fun _ _ _ h => h) (Or.inl ⟨by rfl, ?_⟩) hHeld ?_ ?_
      rotate_left
      · rintro w' ⟨s0, s1, s2, s3, s4⟩
        go_simp
        with_reducible rfl
      rotate_left
      · simp only [Act.put, List.setIfInBounds_toArray, List.set_cons_zero, List.set_cons_succ, i64_w, i32_w]
        rfl
      refine pure_ (i := 7) (N := some 17) (v := ?_) (a' := ?_) #[true, true, false, false, true, true, true, true, false, false, false] rfl rfl (any_of HT_.out (by kernel_rfl)) (fun _ _ _ h => h) (Or.inl ⟨by rfl, ?_⟩) ?_ ?_
      rotate_left
      · intro w'
        go_simp
        with_reducible rfl
      rotate_left
      · simp only [Act.put, List.setIfInBounds_toArray, List.set_cons_zero, List.set_cons_succ, i64_w, i32_w]
        rfl
      refine take_ (i := 8) (N := some 18) (v := ?_) (a' := ?_) #[true, true, false, false, true, true, true, true, true, false, false] rfl rfl (take_ofW HT_.out HW_.out (by kernel_rfl)) (fun _ _ _ h => h) (Or.inl ⟨by rfl, ?_⟩) hHeld ?_ ?_
      rotate_left
      · rintro w' ⟨s0, s1, s2, s3, s4⟩
        go_simp
        with_reducible rfl
      rotate_left
      · simp only [Act.put, List.setIfInBounds_toArray, List.set_cons_zero, List.set_cons_succ, i64_w, i32_w]
        rfl
      refine one_ (i := 2) (N := some 12) #[true, true, true, false, true, true, true, true, true, false, false] rfl rfl (one_of HT_.out (by kernel_rfl)) (by decide) (fun K hK => ?_)
      refine goes_ Try.func31 (by kernel_rfl) rfl #[.agg #[.slice (some ad356) l0_0.length co11, .slice A0_1 l0_1.length c0_1, .int .i64 a0_2, .int .i64 a0_3], .int .i64 0] (by rfl) rfl rfl (by (try simp only [List.map_toArray, List.map_cons, List.map_nil]); first | done | rfl | (simp only [List.length_drop, List.length_take]; rfl)) ?_
      with_reducible refine (api_Node_without.calls _ _ l0_0 (fun k_ => (((((P0_0_ k_ ∨ P0_1_ k_) ∨ w.heap.size ≤ k_) ∧ some k_ ≠ (.slice (some ad356) l0_0.length co11 : Value).ownBlock) ∧ k_ ≠ gb346) ∧ k_ ≠ gb347)) _ _ l0_1 a0_2 a0_3 0 t348 t351 t354 t355 _ ?side1 ?side2 ?side3 A9.out).mono ?_
      (case side1 => repeat (first | exact (Kd.R_reads' HO0_0.out).2.2 | (with_reducible refine Kd.C_alloc ?_ _) | (with_reducible refine Kd.C_drewN ?_ _) | (with_reducible refine Kd.C_drew ?_)))
      (case side2 => exact (Kd.R_reads' HO0_0.out).2.1)
      (case side3 => exact HO0_1.out)
      rintro e w17 ⟨v349, v352, rfl, ho0, ho1, hb⟩
      have HS4_ := (hb.cell (World.block_lt_of_cell? _ _ (hHeld.2.2.2.2))).trans (hHeld.2.2.2.2)
      refine ⟨_, rfl, ?_⟩
      have n0_ := Aside0.mk (Kd.R_elder' (by (with_reducible repeat (first | apply Kd.R_alloc | apply Kd.R_drewN | apply Kd.R_drew)); exact HO0_0.out) (Kd.R_base ho0) hb)
      have n1_ := Aside0.mk (Kd.V_mono (Kd.V_told (Kd.V_told (Kd.V_old (by (with_reducible repeat (first | apply Kd.V_alloc | apply Kd.V_drewN | apply Kd.V_drew)); exact HO0_1.out) hb) (Kd.R_base ho0)) (Kd.N_base ho1)) (fun _ h_ => h_.1))
      have n2_ := Aside0.mk (Kd.R_lower (Kd.R_new' (Kd.R_newM (M := fun k_ => (P0_0_ k_ ∨ w.heap.size ≤ k_)) (Kd.R_mono (ok' := fun k_ => True) ho0 (fun _ hk_ => trivial)) (by first | exact HK.out.1 | exact (show Kept w _ (fun k_ => P0_0_ k_) from by repeat (first | (with_reducible first | exact HK.out | apply Kept.alloc | apply Kept.drewN | apply Kept.drew | refine Kept.setCell ?_ (.inr GW346.out) _ | refine Kept.setCell ?_ (.inr GW347.out) _) | exact HK.out)).1) (fun k_ h_ => .inr h_)) (Kd.R_lt (by (with_reducible repeat (first | apply Kd.R_alloc | apply Kd.R_drewN | apply Kd.R_drew)); exact HO0_0.out))) (below_size (by repeat (first | (with_reducible first | exact HB.out | apply below_alloc | apply pw_below_drewN | apply below_drew1 | refine below_set ?_ GE346.out | refine below_set ?_ GE347.out) | exact HB.out))))
      have n3_ := Aside0.mk (Kd.N_lower (Kd.N_mono (ok' := fun k_ => ((P0_0_ k_ ∨ P0_1_ k_) ∨ w.heap.size ≤ k_) ∧ some k_ ≠ (v349 : Value).ownBlock ∧ some k_ ≠ (.slice (some ad356) l0_0.length co11 : Value).ownBlock ∧ k_ ≠ gb346 ∧ k_ ≠ gb347) ho1 (fun k_ hk_ => ⟨Or.elim hk_.1 (fun hs_ => hs_.1.1.1) (fun hn_ => (.inr (Nat.le_trans (by first | exact HK.out.1 | exact (show Kept w _ (fun k_ => P0_0_ k_) from by repeat (first | (with_reducible first | exact HK.out | apply Kept.alloc | apply Kept.drewN | apply Kept.drew | refine Kept.setCell ?_ (.inr GW346.out) _ | refine Kept.setCell ?_ (.inr GW347.out) _) | exact HK.out)).1) hn_))), hk_.2, Or.elim hk_.1 (fun hs_ => hs_.1.1.2) (fun hn_ => (Kd.fresh' (Kd.R_lt (by (with_reducible repeat (first | apply Kd.R_alloc | apply Kd.R_drewN | apply Kd.R_drew)); exact HO0_0.out)) k_ hn_)), Or.elim hk_.1 (fun hs_ => hs_.1.2) (fun hn_ => (Kd.freshB (g := gb346) (o := .cells #[.slice (some ad356) l0_0.length co11, .slice A0_1 l0_1.length c0_1, .int .i64 a0_2, .int .i64 a0_3] 28 (0, 0)) (by (with_reducible repeat (first | refine blk_drewN ?_ _ | refine blk_drew ?_ | refine blk_alloc ?_ _)); exact BK346.out) k_ hn_)), Or.elim hk_.1 (fun hs_ => hs_.2) (fun hn_ => (Kd.freshB (g := gb347) (o := .cells #[.slice none 0 0, .slice none 0 0, .int .i64 0, .int .i64 0] 28 (0, 0)) (by (with_reducible repeat (first | refine blk_drewN ?_ _ | refine blk_drew ?_ | refine blk_alloc ?_ _)); exact BK347.out) k_ hn_))⟩)) (below_size (by repeat (first | (with_reducible first | exact HB.out | apply below_alloc | apply pw_below_drewN | apply below_drew1 | refine below_set ?_ GE346.out | refine below_set ?_ GE347.out) | exact HB.out))))
      have n4_ := Aside0.mk (blk_below (g := gb346) (o := .cells #[.slice (some ad356) l0_0.length co11, .slice A0_1 l0_1.length c0_1, .int .i64 a0_2, .int .i64 a0_3] 28 (0, 0)) (by (with_reducible repeat (first | refine blk_drewN ?_ _ | refine blk_drew ?_ | refine blk_alloc ?_ _)); exact BK346.out) hb)
      have n5_ := Aside0.mk (blk_below (g := gb347) (o := .cells #[.slice none 0 0, .slice none 0 0, .int .i64 0, .int .i64 0] 28 (0, 0)) (by (with_reducible repeat (first | refine blk_drewN ?_ _ | refine blk_drew ?_ | refine blk_alloc ?_ _)); exact BK347.out) hb)
      have n6_ := Aside0.mk (Kept.below (S := (fun k_ => P0_0_ k_)) (by repeat (first | (with_reducible first | exact HK.out | apply Kept.alloc | apply Kept.drewN | apply Kept.drew | refine Kept.setCell ?_ (.inr GW346.out) _ | refine Kept.setCell ?_ (.inr GW347.out) _) | exact HK.out)) hb)
      have n7_ := Aside0.mk (below_step (by repeat (first | (with_reducible first | exact HB.out | apply below_alloc | apply pw_below_drewN | apply below_drew1 | refine below_set ?_ GE346.out | refine below_set ?_ GE347.out) | exact HB.out)) hb)
      clear HO0_0
      clear HO0_1
      clear BK346
      clear BK347
      clear HK
      clear HB
      have HO0_0 := n0_
      have HO0_1 := n1_
      have HO350 := n2_
      have HO353 := n3_
      have BK346 := n4_
      have BK347 := n5_
      have HK := n6_
      have HB := n7_
      clear n0_ n1_ n2_ n3_ n4_ n5_ n6_ n7_
      (try clear hb)
      (try clear hb2)
      (try clear hk)
      (try clear hi)
      (try clear ho0)
      (try clear ho1)
      obtain ⟨Ao18, co18, eo18⟩ := Kd.N_slice HO353.out
      (first | subst eo18 | (injection eo18 with f1_ f2_ f3_; have f4_ := f1_.symm; have f5_ := f3_.symm; clear f1_ f2_ f3_; subst f4_; subst f5_))
      obtain ⟨Ao19, co19, eo19⟩ := Kd.R_slice HO350.out
      (first | subst eo19 | (injection eo19 with f1_ f2_ f3_; have f4_ := f1_.symm; have f5_ := f3_.symm; clear f1_ f2_ f3_; subst f4_; subst f5_))
      refine hK.out _ _ ⟨(blk_cell BK346.out 0).trans rfl, (blk_cell BK346.out 1).trans rfl, (blk_cell BK346.out 2).trans rfl, (blk_cell BK346.out 3).trans rfl, HS4_⟩ (fun hHeld => ?_)
      clear hK K
      refine norm_ (a' := ?_) ?_ ?_
      rotate_left
      · show Act.put _ (some 12) _ = _
        simp only [Act.put, List.setIfInBounds_toArray, List.set_cons_zero, List.set_cons_succ, i64_w, i32_w]
        rfl
      refine pure_ (i := 3) (N := some 13) (v := ?_) (a' := ?_) #[true, true, true, true, true, true, true, true, true, false, false] rfl rfl (any_of HT_.out (by kernel_rfl)) (fun _ _ _ h => h) (Or.inl ⟨by rfl, ?_⟩) ?_ ?_
      rotate_left
      · intro w'
        go_simp
        with_reducible rfl
      rotate_left
      · simp only [Act.put, List.setIfInBounds_toArray, List.set_cons_zero, List.set_cons_succ, i64_w, i32_w]
        rfl
      refine one_ (i := 9) (N := none) #[true, true, true, true, true, true, true, true, true, true, false] rfl rfl (one_of HT_.out (by kernel_rfl)) (by decide) (fun K hK => ?_)
      have hs20 : w17.cell? ⟨gb347, 0, none⟩ = some (.slice none 0 0) := (blk_cell BK347.out 0).trans rfl
      have hfs20 := blk_frozen BK347.out 0
      have hns20_0 := NB346_347.out
      have hms20_0 := NB347_346.out
      have hs21 : w17.cell? ⟨gb347, 1, none⟩ = some (.slice none 0 0) := (blk_cell BK347.out 1).trans rfl
      have hfs21 := blk_frozen BK347.out 1
      have hns21_0 := NB346_347.out
      have hms21_0 := NB347_346.out
      have hs22 : w17.cell? ⟨gb347, 2, none⟩ = some (.int .i64 0) := (blk_cell BK347.out 2).trans rfl
      have hfs22 := blk_frozen BK347.out 2
      have hns22_0 := NB346_347.out
      have hms22_0 := NB347_346.out
      have hs23 : w17.cell? ⟨gb347, 3, none⟩ = some (.int .i64 0) := (blk_cell BK347.out 3).trans rfl
      have hfs23 := blk_frozen BK347.out 3
      have hns23_0 := NB346_347.out
      have hms23_0 := NB347_346.out
      refine skip_ (w1 := ?_) (by rfl) rfl ?_ ?_
      rotate_left
      · go_simp
        rfl
      refine hK.out _ _ ⟨((cell_far (p := ⟨gb347, _, none⟩) NB346_347.out _).trans (((cell_far (p := ⟨gb347, _, none⟩) NB346_347.out _).trans (((cell_far (p := ⟨gb347, _, none⟩) NB346_347.out _).trans (((cell_far (p := ⟨gb347, _, none⟩) NB346_347.out _).trans (hHeld.1)))))))), ((cell_far (p := ⟨gb347, _, none⟩) NB346_347.out _).trans (((cell_far (p := ⟨gb347, _, none⟩) NB346_347.out _).trans (((cell_far (p := ⟨gb347, _, none⟩) NB346_347.out _).trans (((cell_far (p := ⟨gb347, _, none⟩) NB346_347.out _).trans (hHeld.2.1)))))))), ((cell_far (p := ⟨gb347, _, none⟩) NB346_347.out _).trans (((cell_far (p := ⟨gb347, _, none⟩) NB346_347.out _).trans (((cell_far (p := ⟨gb347, _, none⟩) NB346_347.out _).trans (((cell_far (p := ⟨gb347, _, none⟩) NB346_347.out _).trans (hHeld.2.2.1)))))))), ((cell_far (p := ⟨gb347, _, none⟩) NB346_347.out _).trans (((cell_far (p := ⟨gb347, _, none⟩) NB346_347.out _).trans (((cell_far (p := ⟨gb347, _, none⟩) NB346_347.out _).trans (((cell_far (p := ⟨gb347, _, none⟩) NB346_347.out _).trans (hHeld.2.2.2.1)))))))), ((cell_far (p := ⟨gb347, _, none⟩) (by first | exact Kd.own_blk (Kd.R_ne HO0_0.out BK347.out (by decide)) | (rw [add_block]; exact Kd.own_blk (Kd.R_ne HO0_0.out BK347.out (by decide))) | (show (Addr.add _ _).block ≠ _; rw [add_block]; exact Kd.own_blk (Kd.R_ne HO0_0.out BK347.out (by decide))) | (dsimp only; exact Kd.own_blk (Kd.R_ne HO0_0.out BK347.out (by decide)))) _).trans (((cell_far (p := ⟨gb347, _, none⟩) (by first | exact Kd.own_blk (Kd.R_ne HO0_0.out BK347.out (by decide)) | (rw [add_block]; exact Kd.own_blk (Kd.R_ne HO0_0.out BK347.out (by decide))) | (show (Addr.add _ _).block ≠ _; rw [add_block]; exact Kd.own_blk (Kd.R_ne HO0_0.out BK347.out (by decide))) | (dsimp only; exact Kd.own_blk (Kd.R_ne HO0_0.out BK347.out (by decide)))) _).trans (((cell_far (p := ⟨gb347, _, none⟩) (by first | exact Kd.own_blk (Kd.R_ne HO0_0.out BK347.out (by decide)) | (rw [add_block]; exact Kd.own_blk (Kd.R_ne HO0_0.out BK347.out (by decide))) | (show (Addr.add _ _).block ≠ _; rw [add_block]; exact Kd.own_blk (Kd.R_ne HO0_0.out BK347.out (by decide))) | (dsimp only; exact Kd.own_blk (Kd.R_ne HO0_0.out BK347.out (by decide)))) _).trans (((cell_far (p := ⟨gb347, _, none⟩) (by first | exact Kd.own_blk (Kd.R_ne HO0_0.out BK347.out (by decide)) | (rw [add_block]; exact Kd.own_blk (Kd.R_ne HO0_0.out BK347.out (by decide))) | (show (Addr.add _ _).block ≠ _; rw [add_block]; exact Kd.own_blk (Kd.R_ne HO0_0.out BK347.out (by decide))) | (dsimp only; exact Kd.own_blk (Kd.R_ne HO0_0.out BK347.out (by decide)))) _).trans (hHeld.2.2.2.2))))))))⟩ (fun hHeld => ?_)
      clear hK K
      refine pure_ (i := 10) (N := some 3) (v := ?_) (a' := ?_) #[true, true, true, true, true, true, true, true, true, true, true] rfl rfl (any_of HT_.out (by kernel_rfl)) (fun _ _ _ h => h) (Or.inl ⟨by rfl, ?_⟩) ?_ ?_
      rotate_left
      · intro w'
        go_simp
        with_reducible rfl
      rotate_left
      · simp only [Act.put, List.setIfInBounds_toArray, List.set_cons_zero, List.set_cons_succ, i64_w, i32_w]
        rfl
      refine done_ (done_of HT_.out (by kernel_rfl)) ?_
      try go_wp2
      refine bodyPost_ret (results_ct rfl _ _ gb347 28 #[.slice Ao19 t348.length co19, .slice Ao18 t351.length co18, .int .i64 t354, .int .i64 t355] (0, 0) _ rfl (by (with_reducible repeat (first | refine blk_drewN ?_ _ | refine blk_drew ?_ | refine blk_alloc ?_ _)); refine blk_put (cs := #[.slice Ao19 t348.length co19, .slice Ao18 t351.length co18, .int .i64 t354, .int .i64 0]) ?_ 3 _ rfl; (with_reducible repeat (first | refine blk_drewN ?_ _ | refine blk_drew ?_ | refine blk_alloc ?_ _)); refine blk_put (cs := #[.slice Ao19 t348.length co19, .slice Ao18 t351.length co18, .int .i64 0, .int .i64 0]) ?_ 2 _ rfl; (with_reducible repeat (first | refine blk_drewN ?_ _ | refine blk_drew ?_ | refine blk_alloc ?_ _)); refine blk_put (cs := #[.slice Ao19 t348.length co19, .slice none 0 0, .int .i64 0, .int .i64 0]) ?_ 1 _ rfl; (with_reducible repeat (first | refine blk_drewN ?_ _ | refine blk_drew ?_ | refine blk_alloc ?_ _)); refine blk_put (cs := #[.slice none 0 0, .slice none 0 0, .int .i64 0, .int .i64 0]) ?_ 0 _ rfl; (with_reducible repeat (first | refine blk_drewN ?_ _ | refine blk_drew ?_ | refine blk_alloc ?_ _)); exact BK347.out) Try.underlying28 rfl (by kernel_rfl)) rfl ?_
      exact ⟨_, _, by first | rfl | (simp [errW_none, errW_some] <;> rfl) | (simp [*, errW_none, errW_some] <;> rfl), by (with_reducible repeat (first | apply Kd.R_alloc | apply Kd.R_drewN | apply Kd.R_drew)); exact Kd.R_mono (Kd.R_far (p := ⟨gb347, 3, none⟩) (Kd.R_far (p := ⟨gb347, 2, none⟩) (Kd.R_far (p := ⟨gb347, 1, none⟩) (Kd.R_far (p := ⟨gb347, 0, none⟩) (Kd.R_types HO350.out BK347.out (by decide)) (fun _ hk => hk.2) (.slice Ao19 t348.length co19)) (fun _ hk => hk.2) (.slice Ao18 t351.length co18)) (fun _ hk => hk.2) (.int .i64 t354)) (fun _ hk => hk.2) (.int .i64 t355)) (fun _ hk => hk.1.1.1), Kd.N_V (by (with_reducible repeat (first | apply Kd.N_alloc | apply Kd.N_drewN | apply Kd.N_drew)); exact Kd.N_mono (Kd.N_far (p := ⟨gb347, 3, none⟩) (Kd.N_far (p := ⟨gb347, 2, none⟩) (Kd.N_far (p := ⟨gb347, 1, none⟩) (Kd.N_far (p := ⟨gb347, 0, none⟩) (Kd.N_mono HO353.out (fun k_ hk => (⟨hk, hk.2.2.2.2⟩ : _ ∧ k_ ≠ gb347))) (fun _ hk => hk.2) (.slice Ao19 t348.length co19)) (fun _ hk => hk.2) (.slice Ao18 t351.length co18)) (fun _ hk => hk.2) (.int .i64 t354)) (fun _ hk => hk.2) (.int .i64 t355)) (fun _ hk => ⟨hk.1.1, hk.1.2.1⟩)), by repeat (first | (with_reducible first | exact HB.out | apply below_alloc | apply pw_below_drewN | apply below_drew1 | refine below_set ?_ GE346.out | refine below_set ?_ GE347.out) | exact HB.out), by repeat (first | (with_reducible first | exact HK.out | apply Kept.alloc | apply Kept.drewN | apply Kept.drew | refine Kept.setCell ?_ (.inr GW346.out) _ | refine Kept.setCell ?_ (.inr GW347.out) _) | exact HK.out)⟩
    · rw [if_neg c10] at H
      exact absurd H (by simp)

end Go.Proofs.Ytkabbahfaeeihaa.Q
