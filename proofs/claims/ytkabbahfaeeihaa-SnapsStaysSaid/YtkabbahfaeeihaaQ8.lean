/- Contracts of the functions that the laws reach, in the words of the kit's print; written by a program of this claim (gen_q.py). -/
import Derived.Test.YtkabbahfaeeihaaQ0
import Derived.Test.YtkabbahfaeeihaaQ7
namespace Go.Proofs.Ytkabbahfaeeihaa.Q
open Go.RowKit Go.Proofs.YtkabbahfaeeihaaW.PrintWords Go.Proofs.YtkabbahfaeeihaaW.PrintLast Go.Proofs.YtkabbahfaeeihaaW.PrintMore
attribute [local go_sem] max2_int min2_int max_two min_two max_three min_three max_four min_four   -- for this text's walks alone
set_option linter.unusedVariables false
set_option linter.unusedSimpArgs false

/-! ### snaps_Get: function 13 -/
def snaps_Get.f (k : Nat) (l0_0 : List Int) (l0_1 : List (List (S72))) (a0_2 : Int) (a0_3 : Int) (a1 : Int) : Option ((List (S72)) × Int) := (api_Node_place.f k l0_0 l0_1 a0_2 a0_3 a1).bind fun t150 => (if t150 < 0 then (some (([] : List (S72)), 13)) else (if 0 ≤ t150 then (if t150 < (l0_1.length : Int) then (some (rd_L7 l0_1 t150, 0)) else (none)) else (none)))
theorem snaps_Get.mono : ∀ a0 a1 a2 a3 a4 k, LeO (snaps_Get.f k a0 a1 a2 a3 a4) (snaps_Get.f (k + 1) a0 a1 a2 a3 a4) := by
  intro a0 a1 a2 a3 a4 k
  unfold snaps_Get.f
  repeat' first
      | (with_reducible exact api_Node_place.mono _ _ _ _ _ _)
      | (with_reducible exact LeO.refl _)
      | (with_reducible exact LeO.none _)
      | (with_reducible refine LeO.ite ?_ ?_)
      | (with_reducible refine LeO.bind ?_ (fun _ => ?_))
      | exact api_Node_place.mono _ _ _ _ _ _
      | exact LeO.none _
      | refine LeO.ite ?_ ?_
      | refine LeO.bind ?_ (fun _ => ?_)
set_option maxHeartbeats 8000000 in
set_option maxRecDepth 100000 in
theorem snaps_Get.calls (k : Nat) (A0_0 : Option Addr) (c0_0 : Nat) (l0_0 : List Int) (P0_1_ : Nat → Prop) (A0_1 : Option Addr) (c0_1 : Nat) (l0_1 : List (List (S72))) (a0_2 : Int) (a0_3 : Int) (a1 : Int) (r1 : List (S72)) (r2 : Int) (w : World) (hr0_0 : Kd.C (Kd.int .i64) w A0_0 l0_0.length l0_0) (hc0_0 : l0_0.length ≤ c0_0) (hs0_1 : Kd.V (Kd.slice 72 k72) 31 w w.heap.size (fun k_ => P0_1_ k_) (.slice A0_1 l0_1.length c0_1) l0_1) (h : snaps_Get.f k l0_0 l0_1 a0_2 a0_3 a1 = some (r1, r2)) :
    Calls Try.prog 13 #[.agg #[.slice A0_0 l0_0.length c0_0, .slice A0_1 l0_1.length c0_1, .int .i64 a0_2, .int .i64 a0_3], .int .i64 a1] w fun e w' => ∃ v0_ : Value, e = .returned (.tuple #[v0_, .int .i64 r2]) ∧ Kd.V k72 72 w' w.heap.size (fun k_ => (P0_1_ k_ ∨ w.heap.size ≤ k_)) v0_ r1 ∧ Below w.heap.size w w' := by
  have hu28 := Try.underlying28
  have hu26 := Try.underlying26
  have HR0_0 := Aside0.mk hr0_0
  have HC0_0 := Aside0.mk hc0_0
  clear hr0_0 hc0_0
  have HO0_1 := Aside0.mk (show Kd.V (Kd.slice 72 k72) 31 w w.heap.size (fun k_ => (P0_1_ k_ ∨ w.heap.size ≤ k_)) (.slice A0_1 l0_1.length c0_1) l0_1 from Kd.V_mono hs0_1 (fun k_ hk => .inl hk))
  have HB := Aside0.mk (Below.refl w.heap.size w)
  have H : ((api_Node_place.f k l0_0 l0_1 a0_2 a0_3 a1).bind fun t150 => (if t150 < 0 then (some (([] : List (S72)), 13)) else (if 0 ≤ t150 then (if t150 < (l0_1.length : Int) then (some (rd_L7 l0_1 t150, 0)) else (none)) else (none)))) = some (r1, r2) := h
  clear h
  replace H := Option.bind_eq_some_iff.mp H
  obtain ⟨t150, A30, H⟩ := H
  replace H : (if t150 < 0 then (some (([] : List (S72)), 13)) else (if 0 ≤ t150 then (if t150 < (l0_1.length : Int) then (some (rd_L7 l0_1 t150, 0)) else (none)) else (none))) = some (r1, r2) := H
  have A3 := Aside0.mk A30
  clear A30
  by_cases c4 : t150 < 0
  · rw [if_pos c4] at H
    have c4b0 : decide (t150 < 0) = true := decide_eq_true c4
    clear c4
    simp only [Option.some.injEq, Prod.mk.injEq] at H
    obtain ⟨rfl, rfl⟩ := H
    go_enter Try.func13, Try.ntmps13
    go_wp2_with (first | ((with_reducible refine gate_dst (N := 2) rfl ?_); refine box_event ?hg (N := 2) ?hd (cs := #[.slice A0_0 l0_0.length c0_0, .slice A0_1 l0_1.length c0_1, .int .i64 a0_2, .int .i64 a0_3]) (t := 28) ?hr ?_; (case hd => rfl); (case hg => rfl); (case hr => first | (go_simp; done) | (go_simp; rfl)); intro gb149 hg w5 hbox hb; have n0_ := Aside0.mk (Kd.V_below (Kd.V_elderB (by (with_reducible repeat (first | apply Kd.V_alloc | apply Kd.V_drewN | apply Kd.V_drew)); exact HO0_1.out) gb149 (Nat.le_of_eq hg.symm)) hb); have n1_ := Aside0.mk (below_step (by repeat (first | (with_reducible first | exact HB.out | apply below_alloc | apply pw_below_drewN | apply below_drew1) | exact HB.out)) hb); have n2_ := Aside0.mk (hbox); have n3_ := Aside0.mk ((by rw [hg]; exact (below_size (by repeat (first | (with_reducible first | exact HB.out | apply below_alloc | apply pw_below_drewN | apply below_drew1) | exact HB.out))) : w.heap.size ≤ gb149)); have n4_ := Aside0.mk ((by rw [hg]; exact (below_size (by repeat (first | (with_reducible first | exact HB.out | apply below_alloc | apply pw_below_drewN | apply below_drew1) | exact HB.out))) : w.heap.size ≤ gb149)); clear HO0_1; clear HB; have HO0_1 := n0_; have HB := n1_; have BK149 := n2_; have GW149 := n3_; have GE149 := n4_; clear n0_ n1_ n2_ n3_ n4_; clear hb hbox hg; have hcz6_0 : w5.cell? ⟨gb149, 0, none⟩ = some (.slice A0_0 l0_0.length c0_0) := (blk_cell BK149.out 0).trans rfl; have hcz6_1 : w5.cell? ⟨gb149, 1, none⟩ = some (.slice A0_1 l0_1.length c0_1) := (blk_cell BK149.out 1).trans rfl; have hcz6_2 : w5.cell? ⟨gb149, 2, none⟩ = some (.int .i64 a0_2) := (blk_cell BK149.out 2).trans rfl; have hcz6_3 : w5.cell? ⟨gb149, 3, none⟩ = some (.int .i64 a0_3) := (blk_cell BK149.out 3).trans rfl; have hfz6_0 := blk_frozen BK149.out 0; have hfz6_1 := blk_frozen BK149.out 1; have hfz6_2 := blk_frozen BK149.out 2; have hfz6_3 := blk_frozen BK149.out 3) | ((with_reducible refine gate_callee (f := 28) rfl ?_); refine goesL_ (some 10) rfl rfl Try.func28 (by kernel_rfl) rfl #[.agg #[.slice A0_0 l0_0.length c0_0, .slice A0_1 l0_1.length c0_1, .int .i64 a0_2, .int .i64 a0_3], .int .i64 a1] rfl (by (try simp only [List.map_toArray, List.map_cons, List.map_nil]); first | done | rfl | (simp only [List.length_drop, List.length_take]; rfl)) ?_; (with_reducible refine (api_Node_place.calls k _ _ l0_0 _ _ l0_1 a0_2 a0_3 a1 t150 _ ?side1 ?side2 ?side3 ?side4 A3.out).mono ?_); (case side1 => repeat (first | exact (Kd.C_below HR0_0.out HB.out) | (with_reducible refine Kd.C_alloc ?_ _) | (with_reducible refine Kd.C_drewN ?_ _) | (with_reducible refine Kd.C_drew ?_))); (case side2 => exact HC0_0.out); (case side3 => repeat (first | exact (Kd.V_reads' HO0_1.out).2.2 | (with_reducible refine Kd.C_alloc ?_ _) | (with_reducible refine Kd.C_drewN ?_ _) | (with_reducible refine Kd.C_drew ?_))); (case side4 => exact (Kd.V_reads' HO0_1.out).2.1); rintro e w7 ⟨rfl, hb⟩; refine ⟨_, rfl, ?_⟩; have n0_ := Aside0.mk (Kd.V_below (by (with_reducible repeat (first | apply Kd.V_alloc | apply Kd.V_drewN | apply Kd.V_drew)); exact HO0_1.out) hb); have n1_ := Aside0.mk (blk_below (g := gb149) (o := .cells #[.slice A0_0 l0_0.length c0_0, .slice A0_1 l0_1.length c0_1, .int .i64 a0_2, .int .i64 a0_3] 28 (0, 0)) (by (with_reducible repeat (first | refine blk_drewN ?_ _ | refine blk_drew ?_ | refine blk_alloc ?_ _)); exact BK149.out) hb); have n2_ := Aside0.mk (below_step (by repeat (first | (with_reducible first | exact HB.out | apply below_alloc | apply pw_below_drewN | apply below_drew1 | refine below_set ?_ GE149.out) | exact HB.out)) hb); clear HO0_1; clear BK149; clear HB; have HO0_1 := n0_; have BK149 := n1_; have HB := n2_; clear n0_ n1_ n2_; (try clear hb); (try clear hb2); (try clear hk); (try clear hi)))
    go_ret2
    exact ⟨_, by first | rfl | (simp [errW_none, errW_some] <;> rfl) | (simp [*, errW_none, errW_some] <;> rfl), by first | exact Kd.V_nil _ _ _ _ _ | exact Kd.V_mono (Kd.S_V (by first | exact Kd.S_nil _ _ _ _ _ | exact Kd.N_nil _ _ _ _ _ | exact Kd.V_nil _ _ _ _ _ | exact Kd.Q_nil _ _ _ _ _ | exact Kd.R_nil _ _ _ _ _)) (fun k_ hk => by first | exact ⟨(.inr (hk.1)), hk.2⟩ | exact (.inr (hk))), by repeat (first | (with_reducible first | exact HB.out | apply below_alloc | apply pw_below_drewN | apply below_drew1 | refine below_set ?_ GE149.out) | exact HB.out)⟩
  · rw [if_neg c4] at H
    have c4b0 : decide (t150 < 0) = false := decide_eq_false c4
    clear c4
    by_cases c8 : 0 ≤ t150
    · rw [if_pos c8] at H
      have c8b0 : decide (0 ≤ t150) = true := decide_eq_true c8
      clear c8
      by_cases c9 : t150 < (l0_1.length : Int)
      · rw [if_pos c9] at H
        have c9b0 : decide (t150 < (l0_1.length : Int)) = true := decide_eq_true c9
        clear c9
        simp only [Option.some.injEq, Prod.mk.injEq] at H
        obtain ⟨rfl, rfl⟩ := H
        go_enter Try.func13, Try.ntmps13
        go_wp2_with (first | ((with_reducible refine gate_dst (N := 2) rfl ?_); refine box_event ?hg (N := 2) ?hd (cs := #[.slice A0_0 l0_0.length c0_0, .slice A0_1 l0_1.length c0_1, .int .i64 a0_2, .int .i64 a0_3]) (t := 28) ?hr ?_; (case hd => rfl); (case hg => rfl); (case hr => first | (go_simp; done) | (go_simp; rfl)); intro gb149 hg w10 hbox hb; have n0_ := Aside0.mk (Kd.V_below (Kd.V_elderB (by (with_reducible repeat (first | apply Kd.V_alloc | apply Kd.V_drewN | apply Kd.V_drew)); exact HO0_1.out) gb149 (Nat.le_of_eq hg.symm)) hb); have n1_ := Aside0.mk (below_step (by repeat (first | (with_reducible first | exact HB.out | apply below_alloc | apply pw_below_drewN | apply below_drew1) | exact HB.out)) hb); have n2_ := Aside0.mk (hbox); have n3_ := Aside0.mk ((by rw [hg]; exact (below_size (by repeat (first | (with_reducible first | exact HB.out | apply below_alloc | apply pw_below_drewN | apply below_drew1) | exact HB.out))) : w.heap.size ≤ gb149)); have n4_ := Aside0.mk ((by rw [hg]; exact (below_size (by repeat (first | (with_reducible first | exact HB.out | apply below_alloc | apply pw_below_drewN | apply below_drew1) | exact HB.out))) : w.heap.size ≤ gb149)); clear HO0_1; clear HB; have HO0_1 := n0_; have HB := n1_; have BK149 := n2_; have GW149 := n3_; have GE149 := n4_; clear n0_ n1_ n2_ n3_ n4_; clear hb hbox hg; have hcz11_0 : w10.cell? ⟨gb149, 0, none⟩ = some (.slice A0_0 l0_0.length c0_0) := (blk_cell BK149.out 0).trans rfl; have hcz11_1 : w10.cell? ⟨gb149, 1, none⟩ = some (.slice A0_1 l0_1.length c0_1) := (blk_cell BK149.out 1).trans rfl; have hcz11_2 : w10.cell? ⟨gb149, 2, none⟩ = some (.int .i64 a0_2) := (blk_cell BK149.out 2).trans rfl; have hcz11_3 : w10.cell? ⟨gb149, 3, none⟩ = some (.int .i64 a0_3) := (blk_cell BK149.out 3).trans rfl; have hfz11_0 := blk_frozen BK149.out 0; have hfz11_1 := blk_frozen BK149.out 1; have hfz11_2 := blk_frozen BK149.out 2; have hfz11_3 := blk_frozen BK149.out 3) | ((with_reducible refine gate_callee (f := 28) rfl ?_); refine goesL_ (some 10) rfl rfl Try.func28 (by kernel_rfl) rfl #[.agg #[.slice A0_0 l0_0.length c0_0, .slice A0_1 l0_1.length c0_1, .int .i64 a0_2, .int .i64 a0_3], .int .i64 a1] rfl (by (try simp only [List.map_toArray, List.map_cons, List.map_nil]); first | done | rfl | (simp only [List.length_drop, List.length_take]; rfl)) ?_; (with_reducible refine (api_Node_place.calls k _ _ l0_0 _ _ l0_1 a0_2 a0_3 a1 t150 _ ?side1 ?side2 ?side3 ?side4 A3.out).mono ?_); (case side1 => repeat (first | exact (Kd.C_below HR0_0.out HB.out) | (with_reducible refine Kd.C_alloc ?_ _) | (with_reducible refine Kd.C_drewN ?_ _) | (with_reducible refine Kd.C_drew ?_))); (case side2 => exact HC0_0.out); (case side3 => repeat (first | exact (Kd.V_reads' HO0_1.out).2.2 | (with_reducible refine Kd.C_alloc ?_ _) | (with_reducible refine Kd.C_drewN ?_ _) | (with_reducible refine Kd.C_drew ?_))); (case side4 => exact (Kd.V_reads' HO0_1.out).2.1); rintro e w12 ⟨rfl, hb⟩; refine ⟨_, rfl, ?_⟩; have n0_ := Aside0.mk (Kd.V_below (by (with_reducible repeat (first | apply Kd.V_alloc | apply Kd.V_drewN | apply Kd.V_drew)); exact HO0_1.out) hb); have n1_ := Aside0.mk (blk_below (g := gb149) (o := .cells #[.slice A0_0 l0_0.length c0_0, .slice A0_1 l0_1.length c0_1, .int .i64 a0_2, .int .i64 a0_3] 28 (0, 0)) (by (with_reducible repeat (first | refine blk_drewN ?_ _ | refine blk_drew ?_ | refine blk_alloc ?_ _)); exact BK149.out) hb); have n2_ := Aside0.mk (below_step (by repeat (first | (with_reducible first | exact HB.out | apply below_alloc | apply pw_below_drewN | apply below_drew1 | refine below_set ?_ GE149.out) | exact HB.out)) hb); clear HO0_1; clear BK149; clear HB; have HO0_1 := n0_; have BK149 := n1_; have HB := n2_; clear n0_ n1_ n2_; (try clear hb); (try clear hb2); (try clear hk); (try clear hi); have hcz13_0 : w12.cell? ⟨gb149, 0, none⟩ = some (.slice A0_0 l0_0.length c0_0) := (blk_cell BK149.out 0).trans rfl; have hcz13_1 : w12.cell? ⟨gb149, 1, none⟩ = some (.slice A0_1 l0_1.length c0_1) := (blk_cell BK149.out 1).trans rfl; have hcz13_2 : w12.cell? ⟨gb149, 2, none⟩ = some (.int .i64 a0_2) := (blk_cell BK149.out 2).trans rfl; have hcz13_3 : w12.cell? ⟨gb149, 3, none⟩ = some (.int .i64 a0_3) := (blk_cell BK149.out 3).trans rfl; have hfz13_0 := blk_frozen BK149.out 0; have hfz13_1 := blk_frozen BK149.out 1; have hfz13_2 := blk_frozen BK149.out 2; have hfz13_3 := blk_frozen BK149.out 3; have p151 : 0 ≤ (t150 : Int) := of_decide_eq_true (by first | (with_reducible assumption) | assumption); have q151 : t150 < (l0_1.length : Int) := of_decide_eq_true (by first | (with_reducible assumption) | assumption); obtain ⟨ad151, A151_0, c151_0, e151, hx151_0, hl151_0, hi151_0⟩ := at_L7 (Kd.V_reads' HO0_1.out).2.2 t150 p151 q151; cases e151; obtain ⟨ce151, hce151, hMe151, hcc151⟩ := Kd.V_get HO0_1.out [] t150 p151 (by first | exact q151 | exact of_decide_eq_true (by first | (with_reducible assumption) | assumption) | (have e_ := (Kd.V_reads' HO0_1.out).1; omega)); obtain ⟨ua151_0, uc151_0, rfl, ul151_0, ge151_0⟩ := Kd.FK_slice_open hMe151; have hv151_0 := hcc151 0 _ rfl; rw [Nat.add_zero, show ((Kd.slice 72 k72)).sz = 1 from rfl, Nat.mul_one] at hv151_0; replace hv151_0 := Option.some.inj (hv151_0.symm.trans hx151_0); injection hv151_0 with hva_ hvn_ hvc_; rw [hva_] at ge151_0; rw [hvc_] at ul151_0; have HL151_0 := Aside0.mk (show Kd.V k72 72 _ w.heap.size _ _ (rd_L7 l0_1 t150) from Kd.V_mk ul151_0 ge151_0); clear hva_ hvn_ hvc_ ge151_0 ul151_0; clear hcc151 hce151; have HR151_0 := Aside0.mk hi151_0; have HC151_0 := Aside0.mk hl151_0; clear hi151_0 hl151_0; replace p151 := eq_true p151; replace q151 := eq_true q151))
        go_ret2
        exact ⟨_, by first | rfl | (simp [errW_none, errW_some] <;> rfl) | (simp [*, errW_none, errW_some] <;> rfl), by (with_reducible repeat (first | apply Kd.V_alloc | apply Kd.V_drewN | apply Kd.V_drew)); exact Kd.V_mono HL151_0.out (fun _ hk => hk.1), by repeat (first | (with_reducible first | exact HB.out | apply below_alloc | apply pw_below_drewN | apply below_drew1 | refine below_set ?_ GE149.out) | exact HB.out)⟩
      · rw [if_neg c9] at H
        exact absurd H (by simp)
    · rw [if_neg c8] at H
      exact absurd H (by simp)

end Go.Proofs.Ytkabbahfaeeihaa.Q
