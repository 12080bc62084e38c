/- Contracts of the functions that the laws reach, in the words of the kit's print; written by a program of this claim (gen_q.py). -/
import Derived.Test.YtkabbahfaeeihaaQ0
import Derived.Test.YtkabbahfaeeihaaQ30
namespace Go.Proofs.Ytkabbahfaeeihaa.Q
open Go.RowKit Go.Proofs.YtkabbahfaeeihaaW.PrintWords Go.Proofs.YtkabbahfaeeihaaW.PrintLast Go.Proofs.YtkabbahfaeeihaaW.PrintMore
attribute [local go_sem] max2_int min2_int max_two min_two max_three min_three max_four min_four   -- for this text's walks alone
set_option linter.unusedVariables false
set_option linter.unusedSimpArgs false

/-! ### cordwoodref21_Get: function 21 -/
def cordwoodref21_Get.f (k : Nat) (l0_0 : List (S86)) (a0_1 : Int) (a0_2 : Int) (a1 : Int) : Option ((List (S72)) × Int) := (cordwoodref21_place.f k l0_0 a0_1 a0_2 a1).bind fun t465 => (if t465 < 0 then (some (([] : List (S72)), 13)) else (if 0 ≤ t465 then (if t465 < (l0_0.length : Int) then (some ((rd_T86 l0_0 t465).f1, 0)) else (none)) else (none)))
theorem cordwoodref21_Get.mono : ∀ a0 a1 a2 a3 k, LeO (cordwoodref21_Get.f k a0 a1 a2 a3) (cordwoodref21_Get.f (k + 1) a0 a1 a2 a3) := by
  intro a0 a1 a2 a3 k
  unfold cordwoodref21_Get.f
  repeat' first
      | (with_reducible exact cordwoodref21_place.mono _ _ _ _ _)
      | (with_reducible exact LeO.refl _)
      | (with_reducible exact LeO.none _)
      | (with_reducible refine LeO.ite ?_ ?_)
      | (with_reducible refine LeO.bind ?_ (fun _ => ?_))
      | exact cordwoodref21_place.mono _ _ _ _ _
      | exact LeO.none _
      | refine LeO.ite ?_ ?_
      | refine LeO.bind ?_ (fun _ => ?_)
set_option maxHeartbeats 8000000 in
set_option maxRecDepth 100000 in
theorem cordwoodref21_Get.calls (k : Nat) (P0_0_ : Nat → Prop) (A0_0 : Option Addr) (c0_0 : Nat) (l0_0 : List (S86)) (a0_1 : Int) (a0_2 : Int) (a1 : Int) (r1 : List (S72)) (r2 : Int) (w : World) (hs0_0 : Kd.V k86 86 w w.heap.size (fun k_ => P0_0_ k_) (.slice A0_0 l0_0.length c0_0) l0_0) (h : cordwoodref21_Get.f k l0_0 a0_1 a0_2 a1 = some (r1, r2)) :
    Calls Try.prog 21 #[.agg #[.slice A0_0 l0_0.length c0_0, .int .i64 a0_1, .int .i64 a0_2], .int .i64 a1] w fun e w' => ∃ v0_ : Value, e = .returned (.tuple #[v0_, .int .i64 r2]) ∧ Kd.V k72 72 w' w.heap.size (fun k_ => (P0_0_ k_ ∨ w.heap.size ≤ k_)) v0_ r1 ∧ Below w.heap.size w w' := by
  have hu46 := Try.underlying46
  have HO0_0 := Aside0.mk (show Kd.V k86 86 w w.heap.size (fun k_ => (P0_0_ k_ ∨ w.heap.size ≤ k_)) (.slice A0_0 l0_0.length c0_0) l0_0 from Kd.V_mono hs0_0 (fun k_ hk => .inl hk))
  have HB := Aside0.mk (Below.refl w.heap.size w)
  have H : ((cordwoodref21_place.f k l0_0 a0_1 a0_2 a1).bind fun t465 => (if t465 < 0 then (some (([] : List (S72)), 13)) else (if 0 ≤ t465 then (if t465 < (l0_0.length : Int) then (some ((rd_T86 l0_0 t465).f1, 0)) else (none)) else (none)))) = some (r1, r2) := h
  clear h
  replace H := Option.bind_eq_some_iff.mp H
  obtain ⟨t465, A30, H⟩ := H
  replace H : (if t465 < 0 then (some (([] : List (S72)), 13)) else (if 0 ≤ t465 then (if t465 < (l0_0.length : Int) then (some ((rd_T86 l0_0 t465).f1, 0)) else (none)) else (none))) = some (r1, r2) := H
  have A3 := Aside0.mk A30
  clear A30
  by_cases c4 : t465 < 0
  · rw [if_pos c4] at H
    have c4b0 : decide (t465 < 0) = true := decide_eq_true c4
    clear c4
    simp only [Option.some.injEq, Prod.mk.injEq] at H
    obtain ⟨rfl, rfl⟩ := H
    go_enter Try.func21, Try.ntmps21
    go_wp2_with (first | ((with_reducible refine gate_dst (N := 2) rfl ?_); refine box_event ?hg (N := 2) ?hd (cs := #[.slice A0_0 l0_0.length c0_0, .int .i64 a0_1, .int .i64 a0_2]) (t := 46) ?hr ?_; (case hd => rfl); (case hg => rfl); (case hr => first | (go_simp; done) | (go_simp; rfl)); intro gb464 hg w5 hbox hb; have n0_ := Aside0.mk (Kd.V_below (Kd.V_elderB (by (with_reducible repeat (first | apply Kd.V_alloc | apply Kd.V_drewN | apply Kd.V_drew)); exact HO0_0.out) gb464 (Nat.le_of_eq hg.symm)) hb); have n1_ := Aside0.mk (below_step (by repeat (first | (with_reducible first | exact HB.out | apply below_alloc | apply pw_below_drewN | apply below_drew1) | exact HB.out)) hb); have n2_ := Aside0.mk (hbox); have n3_ := Aside0.mk ((by rw [hg]; exact (below_size (by repeat (first | (with_reducible first | exact HB.out | apply below_alloc | apply pw_below_drewN | apply below_drew1) | exact HB.out))) : w.heap.size ≤ gb464)); have n4_ := Aside0.mk ((by rw [hg]; exact (below_size (by repeat (first | (with_reducible first | exact HB.out | apply below_alloc | apply pw_below_drewN | apply below_drew1) | exact HB.out))) : w.heap.size ≤ gb464)); clear HO0_0; clear HB; have HO0_0 := n0_; have HB := n1_; have BK464 := n2_; have GW464 := n3_; have GE464 := n4_; clear n0_ n1_ n2_ n3_ n4_; clear hb hbox hg; have hcz6_0 : w5.cell? ⟨gb464, 0, none⟩ = some (.slice A0_0 l0_0.length c0_0) := (blk_cell BK464.out 0).trans rfl; have hcz6_1 : w5.cell? ⟨gb464, 1, none⟩ = some (.int .i64 a0_1) := (blk_cell BK464.out 1).trans rfl; have hcz6_2 : w5.cell? ⟨gb464, 2, none⟩ = some (.int .i64 a0_2) := (blk_cell BK464.out 2).trans rfl; have hfz6_0 := blk_frozen BK464.out 0; have hfz6_1 := blk_frozen BK464.out 1; have hfz6_2 := blk_frozen BK464.out 2) | ((with_reducible refine gate_callee (f := 35) rfl ?_); refine goesL_ (some 9) rfl rfl Try.func35 (by kernel_rfl) rfl #[.agg #[.slice A0_0 l0_0.length c0_0, .int .i64 a0_1, .int .i64 a0_2], .int .i64 a1] rfl (by (try simp only [List.map_toArray, List.map_cons, List.map_nil]); first | done | rfl | (simp only [List.length_drop, List.length_take]; rfl)) ?_; (with_reducible refine (cordwoodref21_place.calls k _ _ l0_0 a0_1 a0_2 a1 t465 _ ?side1 ?side2 A3.out).mono ?_); (case side1 => repeat (first | exact (Kd.V_reads' HO0_0.out).2.2 | (with_reducible refine Kd.C_alloc ?_ _) | (with_reducible refine Kd.C_drewN ?_ _) | (with_reducible refine Kd.C_drew ?_))); (case side2 => exact (Kd.V_reads' HO0_0.out).2.1); rintro e w7 ⟨rfl, hb⟩; refine ⟨_, rfl, ?_⟩; have n0_ := Aside0.mk (Kd.V_below (by (with_reducible repeat (first | apply Kd.V_alloc | apply Kd.V_drewN | apply Kd.V_drew)); exact HO0_0.out) hb); have n1_ := Aside0.mk (blk_below (g := gb464) (o := .cells #[.slice A0_0 l0_0.length c0_0, .int .i64 a0_1, .int .i64 a0_2] 46 (0, 0)) (by (with_reducible repeat (first | refine blk_drewN ?_ _ | refine blk_drew ?_ | refine blk_alloc ?_ _)); exact BK464.out) hb); have n2_ := Aside0.mk (below_step (by repeat (first | (with_reducible first | exact HB.out | apply below_alloc | apply pw_below_drewN | apply below_drew1 | refine below_set ?_ GE464.out) | exact HB.out)) hb); clear HO0_0; clear BK464; clear HB; have HO0_0 := n0_; have BK464 := n1_; have HB := n2_; clear n0_ n1_ n2_; (try clear hb); (try clear hb2); (try clear hk); (try clear hi)))
    go_ret2
    exact ⟨_, by first | rfl | (simp [errW_none, errW_some] <;> rfl) | (simp [*, errW_none, errW_some] <;> rfl), by first | exact Kd.V_nil _ _ _ _ _ | exact Kd.V_mono (Kd.S_V (by first | exact Kd.S_nil _ _ _ _ _ | exact Kd.N_nil _ _ _ _ _ | exact Kd.V_nil _ _ _ _ _ | exact Kd.Q_nil _ _ _ _ _ | exact Kd.R_nil _ _ _ _ _)) (fun k_ hk => by first | exact ⟨(.inr (hk.1)), hk.2⟩ | exact (.inr (hk))), by repeat (first | (with_reducible first | exact HB.out | apply below_alloc | apply pw_below_drewN | apply below_drew1 | refine below_set ?_ GE464.out) | exact HB.out)⟩
  · rw [if_neg c4] at H
    have c4b0 : decide (t465 < 0) = false := decide_eq_false c4
    clear c4
    by_cases c8 : 0 ≤ t465
    · rw [if_pos c8] at H
      have c8b0 : decide (0 ≤ t465) = true := decide_eq_true c8
      clear c8
      by_cases c9 : t465 < (l0_0.length : Int)
      · rw [if_pos c9] at H
        have c9b0 : decide (t465 < (l0_0.length : Int)) = true := decide_eq_true c9
        clear c9
        simp only [Option.some.injEq, Prod.mk.injEq] at H
        obtain ⟨rfl, rfl⟩ := H
        go_enter Try.func21, Try.ntmps21
        go_wp2_with (first | ((with_reducible refine gate_dst (N := 2) rfl ?_); refine box_event ?hg (N := 2) ?hd (cs := #[.slice A0_0 l0_0.length c0_0, .int .i64 a0_1, .int .i64 a0_2]) (t := 46) ?hr ?_; (case hd => rfl); (case hg => rfl); (case hr => first | (go_simp; done) | (go_simp; rfl)); intro gb464 hg w10 hbox hb; have n0_ := Aside0.mk (Kd.V_below (Kd.V_elderB (by (with_reducible repeat (first | apply Kd.V_alloc | apply Kd.V_drewN | apply Kd.V_drew)); exact HO0_0.out) gb464 (Nat.le_of_eq hg.symm)) hb); have n1_ := Aside0.mk (below_step (by repeat (first | (with_reducible first | exact HB.out | apply below_alloc | apply pw_below_drewN | apply below_drew1) | exact HB.out)) hb); have n2_ := Aside0.mk (hbox); have n3_ := Aside0.mk ((by rw [hg]; exact (below_size (by repeat (first | (with_reducible first | exact HB.out | apply below_alloc | apply pw_below_drewN | apply below_drew1) | exact HB.out))) : w.heap.size ≤ gb464)); have n4_ := Aside0.mk ((by rw [hg]; exact (below_size (by repeat (first | (with_reducible first | exact HB.out | apply below_alloc | apply pw_below_drewN | apply below_drew1) | exact HB.out))) : w.heap.size ≤ gb464)); clear HO0_0; clear HB; have HO0_0 := n0_; have HB := n1_; have BK464 := n2_; have GW464 := n3_; have GE464 := n4_; clear n0_ n1_ n2_ n3_ n4_; clear hb hbox hg; have hcz11_0 : w10.cell? ⟨gb464, 0, none⟩ = some (.slice A0_0 l0_0.length c0_0) := (blk_cell BK464.out 0).trans rfl; have hcz11_1 : w10.cell? ⟨gb464, 1, none⟩ = some (.int .i64 a0_1) := (blk_cell BK464.out 1).trans rfl; have hcz11_2 : w10.cell? ⟨gb464, 2, none⟩ = some (.int .i64 a0_2) := (blk_cell BK464.out 2).trans rfl; have hfz11_0 := blk_frozen BK464.out 0; have hfz11_1 := blk_frozen BK464.out 1; have hfz11_2 := blk_frozen BK464.out 2) | ((with_reducible refine gate_callee (f := 35) rfl ?_); refine goesL_ (some 9) rfl rfl Try.func35 (by kernel_rfl) rfl #[.agg #[.slice A0_0 l0_0.length c0_0, .int .i64 a0_1, .int .i64 a0_2], .int .i64 a1] rfl (by (try simp only [List.map_toArray, List.map_cons, List.map_nil]); first | done | rfl | (simp only [List.length_drop, List.length_take]; rfl)) ?_; (with_reducible refine (cordwoodref21_place.calls k _ _ l0_0 a0_1 a0_2 a1 t465 _ ?side1 ?side2 A3.out).mono ?_); (case side1 => repeat (first | exact (Kd.V_reads' HO0_0.out).2.2 | (with_reducible refine Kd.C_alloc ?_ _) | (with_reducible refine Kd.C_drewN ?_ _) | (with_reducible refine Kd.C_drew ?_))); (case side2 => exact (Kd.V_reads' HO0_0.out).2.1); rintro e w12 ⟨rfl, hb⟩; refine ⟨_, rfl, ?_⟩; have n0_ := Aside0.mk (Kd.V_below (by (with_reducible repeat (first | apply Kd.V_alloc | apply Kd.V_drewN | apply Kd.V_drew)); exact HO0_0.out) hb); have n1_ := Aside0.mk (blk_below (g := gb464) (o := .cells #[.slice A0_0 l0_0.length c0_0, .int .i64 a0_1, .int .i64 a0_2] 46 (0, 0)) (by (with_reducible repeat (first | refine blk_drewN ?_ _ | refine blk_drew ?_ | refine blk_alloc ?_ _)); exact BK464.out) hb); have n2_ := Aside0.mk (below_step (by repeat (first | (with_reducible first | exact HB.out | apply below_alloc | apply pw_below_drewN | apply below_drew1 | refine below_set ?_ GE464.out) | exact HB.out)) hb); clear HO0_0; clear BK464; clear HB; have HO0_0 := n0_; have BK464 := n1_; have HB := n2_; clear n0_ n1_ n2_; (try clear hb); (try clear hb2); (try clear hk); (try clear hi); have hcz13_0 : w12.cell? ⟨gb464, 0, none⟩ = some (.slice A0_0 l0_0.length c0_0) := (blk_cell BK464.out 0).trans rfl; have hcz13_1 : w12.cell? ⟨gb464, 1, none⟩ = some (.int .i64 a0_1) := (blk_cell BK464.out 1).trans rfl; have hcz13_2 : w12.cell? ⟨gb464, 2, none⟩ = some (.int .i64 a0_2) := (blk_cell BK464.out 2).trans rfl; have hfz13_0 := blk_frozen BK464.out 0; have hfz13_1 := blk_frozen BK464.out 1; have hfz13_2 := blk_frozen BK464.out 2; have p466 : 0 ≤ (t465 : Int) := of_decide_eq_true (by first | (with_reducible assumption) | assumption); have q466 : t465 < (l0_0.length : Int) := of_decide_eq_true (by first | (with_reducible assumption) | assumption); obtain ⟨ad466, A466_1, c466_1, e466, hx466_0, hx466_1, hl466_1, hi466_1⟩ := at_T86 (Kd.V_reads' HO0_0.out).2.2 t465 p466 q466; cases e466; obtain ⟨ce466, hce466, hMe466, hcc466⟩ := Kd.V_get HO0_0.out z86 t465 p466 (by first | exact q466 | exact of_decide_eq_true (by first | (with_reducible assumption) | assumption) | (have e_ := (Kd.V_reads' HO0_0.out).1; omega)); obtain ⟨ua466_1, uc466_1, rfl, ul466_1, ge466_1⟩ := k86_openF hMe466; have hv466_1 := hcc466 1 _ rfl; rw [add_field _ _ 1 (by omega)] at hv466_1; replace hv466_1 := Option.some.inj (hv466_1.symm.trans hx466_1); injection hv466_1 with hva_ hvn_ hvc_; rw [hva_] at ge466_1; rw [hvc_] at ul466_1; have HL466_1 := Aside0.mk (show Kd.V k72 72 _ w.heap.size _ _ ((rd_T86 l0_0 t465).f1) from Kd.V_mk ul466_1 ge466_1); clear hva_ hvn_ hvc_ ge466_1 ul466_1; clear hcc466 hce466; have HR466_1 := Aside0.mk hi466_1; have HC466_1 := Aside0.mk hl466_1; clear hi466_1 hl466_1; replace p466 := eq_true p466; replace q466 := eq_true q466))
        go_ret2
        exact ⟨_, by first | rfl | (simp [errW_none, errW_some] <;> rfl) | (simp [*, errW_none, errW_some] <;> rfl), by (with_reducible repeat (first | apply Kd.V_alloc | apply Kd.V_drewN | apply Kd.V_drew)); exact Kd.V_mono HL466_1.out (fun _ hk => hk.1), by repeat (first | (with_reducible first | exact HB.out | apply below_alloc | apply pw_below_drewN | apply below_drew1 | refine below_set ?_ GE464.out) | exact HB.out)⟩
      · rw [if_neg c9] at H
        exact absurd H (by simp)
    · rw [if_neg c8] at H
      exact absurd H (by simp)

end Go.Proofs.Ytkabbahfaeeihaa.Q
