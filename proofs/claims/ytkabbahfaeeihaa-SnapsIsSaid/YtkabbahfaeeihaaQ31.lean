/- Contracts of the functions that the laws reach, in the words of the kit's print; written by a program of this claim (gen_q.py). -/
import Derived.Test.YtkabbahfaeeihaaQ0
import Derived.Test.YtkabbahfaeeihaaQ30
namespace Go.Proofs.Ytkabbahfaeeihaa.Q
open Go.RowKit Go.Proofs.YtkabbahfaeeihaaW.PrintWords Go.Proofs.YtkabbahfaeeihaaW.PrintLast Go.Proofs.YtkabbahfaeeihaaW.PrintMore
attribute [local go_sem] max2_int min2_int max_two min_two max_three min_three max_four min_four   -- for this text's walks alone
set_option linter.unusedVariables false
set_option linter.unusedSimpArgs false

/-! ### cordwoodref21_Forget: function 33 -/
def cordwoodref21_Forget.f (k : Nat) (l0_0 : List (S86)) (a0_1 : Int) (a0_2 : Int) (a1 : Int) : Option ((List (S86)) × Int × Int × Int) := (cordwoodref21_place.f k l0_0 a0_1 a0_2 a1).bind fun t407 => (if t407 < 0 then (some (([] : List (S86)), 0, 0, 13)) else ((some (([] : List (S86)) : List (S86))).bind fun y408 => (if 0 ≤ t407 then (if t407 ≤ (l0_0.length : Int) then ((some (l0_0.take (t407 : Int).toNat : List (S86))).bind fun y411 => (if y408.length + y411.length < 4398046511104 then ((some (y408 ++ y411 : List (S86))).bind fun y416 => (if 0 ≤ (wrap64 (t407 + 1)) then (if (wrap64 (t407 + 1)) ≤ (l0_0.length : Int) then ((some (l0_0.drop ((wrap64 (t407 + 1)) : Int).toNat : List (S86))).bind fun y420 => (if y416.length + y420.length < 4398046511104 then (some ((y416 ++ y420), a0_1, a0_2, 0)) else (none))) else (none)) else (none))) else (none))) else (none)) else (none))))
theorem cordwoodref21_Forget.mono : ∀ a0 a1 a2 a3 k, LeO (cordwoodref21_Forget.f k a0 a1 a2 a3) (cordwoodref21_Forget.f (k + 1) a0 a1 a2 a3) := by
  intro a0 a1 a2 a3 k
  unfold cordwoodref21_Forget.f
  repeat' first
      | (with_reducible exact cordwoodref21_place.mono _ _ _ _ _)
      | (with_reducible exact LeO.refl _)
      | (with_reducible exact LeO.none _)
      | (with_reducible refine LeO.ite ?_ ?_)
      | (with_reducible refine LeO.bind ?_ (fun _ => ?_))
      | exact cordwoodref21_place.mono _ _ _ _ _
      | exact LeO.none _
      | refine LeO.ite ?_ ?_
      | refine LeO.bind ?_ (fun _ => ?_)
def cordwoodref21_Forget.T4 : Bool × List (List Nat × List Nat) := (true, [([], []), ([], []), ([1], [1]), ([], []), ([2, 3], [2, 3]), ([0, 4], [0, 4]), ([], []), ([6], [6]), ([], []), ([8], [8]), ([5, 7, 9], [5, 7, 9]), ([], []), ([11, 10, 5, 0, 1, 2, 3, 4, 5, 6, 7, 8, 9, 10, 11], [10, 11])])
def cordwoodref21_Forget.B4 : List Nat := [0, 0, 2, 0, 14, 31, 0, 64, 0, 256, 1023, 0, 4095]
theorem cordwoodref21_Forget.tab4 : rtab .any (opsOf Try.f33 4) = cordwoodref21_Forget.T4 := by kernel_rfl
theorem cordwoodref21_Forget.bits4 : waitsOk cordwoodref21_Forget.T4.2 cordwoodref21_Forget.B4 = true := by kernel_rfl
def cordwoodref21_Forget.T5 : Bool × List (List Nat × List Nat) := (true, [([], []), ([0], [0]), ([], []), ([2], [2]), ([], []), ([4], [4]), ([3, 5], [3, 5]), ([1, 6], [1, 6]), ([0, 1, 2, 3, 4, 5, 6, 7], []), ([8, 7, 7, 0, 1, 2, 3, 4, 5, 6, 7], [7, 8])])
def cordwoodref21_Forget.B5 : List Nat := [0, 1, 0, 4, 0, 16, 60, 127, 255, 511]
theorem cordwoodref21_Forget.tab5 : rtab .any (opsOf Try.f33 5) = cordwoodref21_Forget.T5 := by kernel_rfl
theorem cordwoodref21_Forget.bits5 : waitsOk cordwoodref21_Forget.T5.2 cordwoodref21_Forget.B5 = true := by kernel_rfl
set_option maxHeartbeats 8000000 in
set_option maxRecDepth 100000 in
theorem cordwoodref21_Forget.calls (k : Nat) (P0_0_ : Nat → Prop) (A0_0 : Option Addr) (c0_0 : Nat) (l0_0 : List (S86)) (a0_1 : Int) (a0_2 : Int) (a1 : Int) (r1 : List (S86)) (r2 : Int) (r3 : Int) (r4 : Int) (w : World) (hs0_0 : Kd.V k86 86 w w.heap.size (fun k_ => P0_0_ k_) (.slice A0_0 l0_0.length c0_0) l0_0) (h : cordwoodref21_Forget.f k l0_0 a0_1 a0_2 a1 = some (r1, r2, r3, r4)) :
    Calls Try.prog 33 #[.agg #[.slice A0_0 l0_0.length c0_0, .int .i64 a0_1, .int .i64 a0_2], .int .i64 a1] w fun e w' => ∃ v0_ : Value, e = .returned (.tuple #[.agg #[v0_, .int .i64 r2, .int .i64 r3], .int .i64 r4]) ∧ Kd.N k86 86 w' w.heap.size (fun k_ => (P0_0_ k_ ∨ w.heap.size ≤ k_)) v0_ r1 ∧ Below w.heap.size w w' := by
  have hu46 := Try.underlying46
  have HO0_0 := Aside0.mk (show Kd.V k86 86 w w.heap.size (fun k_ => (P0_0_ k_ ∨ w.heap.size ≤ k_)) (.slice A0_0 l0_0.length c0_0) l0_0 from Kd.V_mono hs0_0 (fun k_ hk => .inl hk))
  have HB := Aside0.mk (Below.refl w.heap.size w)
  have H : ((cordwoodref21_place.f k l0_0 a0_1 a0_2 a1).bind fun t407 => (if t407 < 0 then (some (([] : List (S86)), 0, 0, 13)) else ((some (([] : List (S86)) : List (S86))).bind fun y408 => (if 0 ≤ t407 then (if t407 ≤ (l0_0.length : Int) then ((some (l0_0.take (t407 : Int).toNat : List (S86))).bind fun y411 => (if y408.length + y411.length < 4398046511104 then ((some (y408 ++ y411 : List (S86))).bind fun y416 => (if 0 ≤ (wrap64 (t407 + 1)) then (if (wrap64 (t407 + 1)) ≤ (l0_0.length : Int) then ((some (l0_0.drop ((wrap64 (t407 + 1)) : Int).toNat : List (S86))).bind fun y420 => (if y416.length + y420.length < 4398046511104 then (some ((y416 ++ y420), a0_1, a0_2, 0)) else (none))) else (none)) else (none))) else (none))) else (none)) else (none))))) = some (r1, r2, r3, r4) := h
  clear h
  replace H := Option.bind_eq_some_iff.mp H
  obtain ⟨t407, A30, H⟩ := H
  replace H : (if t407 < 0 then (some (([] : List (S86)), 0, 0, 13)) else ((some (([] : List (S86)) : List (S86))).bind fun y408 => (if 0 ≤ t407 then (if t407 ≤ (l0_0.length : Int) then ((some (l0_0.take (t407 : Int).toNat : List (S86))).bind fun y411 => (if y408.length + y411.length < 4398046511104 then ((some (y408 ++ y411 : List (S86))).bind fun y416 => (if 0 ≤ (wrap64 (t407 + 1)) then (if (wrap64 (t407 + 1)) ≤ (l0_0.length : Int) then ((some (l0_0.drop ((wrap64 (t407 + 1)) : Int).toNat : List (S86))).bind fun y420 => (if y416.length + y420.length < 4398046511104 then (some ((y416 ++ y420), a0_1, a0_2, 0)) else (none))) else (none)) else (none))) else (none))) else (none)) else (none)))) = some (r1, r2, r3, r4) := H
  have A3 := Aside0.mk A30
  clear A30
  by_cases c4 : t407 < 0
  · rw [if_pos c4] at H
    have c4b0 : decide (t407 < 0) = true := decide_eq_true c4
    clear c4
    simp only [Option.some.injEq, Prod.mk.injEq] at H
    obtain ⟨rfl, rfl, rfl, rfl⟩ := H
    go_enter Try.func33, Try.ntmps33
    go_wp2_with (first | ((with_reducible refine gate_dst (N := 2) rfl ?_); refine box_event ?hg (N := 2) ?hd (cs := #[.slice A0_0 l0_0.length c0_0, .int .i64 a0_1, .int .i64 a0_2]) (t := 46) ?hr ?_; (case hd => rfl); (case hg => rfl); (case hr => first | (go_simp; done) | (go_simp; rfl)); intro gb405 hg w5 hbox hb; have n0_ := Aside0.mk (Kd.V_below (Kd.V_elderB (by (with_reducible repeat (first | apply Kd.V_alloc | apply Kd.V_drewN | apply Kd.V_drew)); exact HO0_0.out) gb405 (Nat.le_of_eq hg.symm)) hb); have n1_ := Aside0.mk (below_step (by repeat (first | (with_reducible first | exact HB.out | apply below_alloc | apply pw_below_drewN | apply below_drew1) | exact HB.out)) hb); have n2_ := Aside0.mk (hbox); have n3_ := Aside0.mk ((by rw [hg]; exact (below_size (by repeat (first | (with_reducible first | exact HB.out | apply below_alloc | apply pw_below_drewN | apply below_drew1) | exact HB.out))) : w.heap.size ≤ gb405)); have n4_ := Aside0.mk ((by rw [hg]; exact (below_size (by repeat (first | (with_reducible first | exact HB.out | apply below_alloc | apply pw_below_drewN | apply below_drew1) | exact HB.out))) : w.heap.size ≤ gb405)); clear HO0_0; clear HB; have HO0_0 := n0_; have HB := n1_; have BK405 := n2_; have GW405 := n3_; have GE405 := n4_; clear n0_ n1_ n2_ n3_ n4_; clear hb hbox hg) | ((with_reducible refine gate_dst (N := 4) rfl ?_); refine box_event ?hg (N := 4) ?hd (cs := #[.slice none 0 0, .int .i64 0, .int .i64 0]) (t := 46) ?hr ?_; (case hd => rfl); (case hg => rfl); (case hr => first | (go_simp; done) | (go_simp; rfl)); intro gb406 hg w6 hbox hb; have n0_ := Aside0.mk (Kd.V_below (Kd.V_elderB (by (with_reducible repeat (first | apply Kd.V_alloc | apply Kd.V_drewN | apply Kd.V_drew)); exact HO0_0.out) gb406 (Nat.le_of_eq hg.symm)) hb); have n1_ := Aside0.mk (blk_below (g := gb405) (o := .cells #[.slice A0_0 l0_0.length c0_0, .int .i64 a0_1, .int .i64 a0_2] 46 (0, 0)) (by (with_reducible repeat (first | refine blk_drewN ?_ _ | refine blk_drew ?_ | refine blk_alloc ?_ _)); exact BK405.out) hb); have n2_ := Aside0.mk (below_step (by repeat (first | (with_reducible first | exact HB.out | apply below_alloc | apply pw_below_drewN | apply below_drew1 | refine below_set ?_ GE405.out) | exact HB.out)) hb); have n3_ := Aside0.mk (hbox); have n4_ := Aside0.mk ((by rw [hg]; exact (below_size (by repeat (first | (with_reducible first | exact HB.out | apply below_alloc | apply pw_below_drewN | apply below_drew1 | refine below_set ?_ GE405.out) | exact HB.out))) : w.heap.size ≤ gb406)); have n5_ := Aside0.mk ((by rw [hg]; exact (below_size (by repeat (first | (with_reducible first | exact HB.out | apply below_alloc | apply pw_below_drewN | apply below_drew1 | refine below_set ?_ GE405.out) | exact HB.out))) : w.heap.size ≤ gb406)); have n6_ := Aside0.mk ((by rw [hg]; exact Nat.ne_of_lt (blk_lt (g := gb405) (o := .cells #[.slice A0_0 l0_0.length c0_0, .int .i64 a0_1, .int .i64 a0_2] 46 (0, 0)) (by (with_reducible repeat (first | refine blk_drewN ?_ _ | refine blk_drew ?_ | refine blk_alloc ?_ _)); exact BK405.out)) : gb405 ≠ gb406)); have n7_ := Aside0.mk ((by rw [hg]; exact Nat.ne_of_gt (blk_lt (g := gb405) (o := .cells #[.slice A0_0 l0_0.length c0_0, .int .i64 a0_1, .int .i64 a0_2] 46 (0, 0)) (by (with_reducible repeat (first | refine blk_drewN ?_ _ | refine blk_drew ?_ | refine blk_alloc ?_ _)); exact BK405.out)) : gb406 ≠ gb405)); clear HO0_0; clear BK405; clear HB; have HO0_0 := n0_; have BK405 := n1_; have HB := n2_; have BK406 := n3_; have GW406 := n4_; have GE406 := n5_; have NB405_406 := n6_; have NB406_405 := n7_; clear n0_ n1_ n2_ n3_ n4_ n5_ n6_ n7_; clear hb hbox hg; have hnb7 := NB405_406.out; have hnc7 := NB406_405.out; have hcz8_0 : w6.cell? ⟨gb405, 0, none⟩ = some (.slice A0_0 l0_0.length c0_0) := (blk_cell BK405.out 0).trans rfl; have hcz8_1 : w6.cell? ⟨gb405, 1, none⟩ = some (.int .i64 a0_1) := (blk_cell BK405.out 1).trans rfl; have hcz8_2 : w6.cell? ⟨gb405, 2, none⟩ = some (.int .i64 a0_2) := (blk_cell BK405.out 2).trans rfl; have hfz8_0 := blk_frozen BK405.out 0; have hfz8_1 := blk_frozen BK405.out 1; have hfz8_2 := blk_frozen BK405.out 2) | ((with_reducible refine gate_callee (f := 35) rfl ?_); refine goesL_ (some 10) rfl rfl Try.func35 (by kernel_rfl) rfl #[.agg #[.slice A0_0 l0_0.length c0_0, .int .i64 a0_1, .int .i64 a0_2], .int .i64 a1] rfl (by (try simp only [List.map_toArray, List.map_cons, List.map_nil]); first | done | rfl | (simp only [List.length_drop, List.length_take]; rfl)) ?_; (with_reducible refine (cordwoodref21_place.calls k _ _ l0_0 a0_1 a0_2 a1 t407 _ ?side1 ?side2 A3.out).mono ?_); (case side1 => repeat (first | exact (Kd.V_reads' HO0_0.out).2.2 | (with_reducible refine Kd.C_alloc ?_ _) | (with_reducible refine Kd.C_drewN ?_ _) | (with_reducible refine Kd.C_drew ?_))); (case side2 => exact (Kd.V_reads' HO0_0.out).2.1); rintro e w9 ⟨rfl, hb⟩; refine ⟨_, rfl, ?_⟩; have n0_ := Aside0.mk (Kd.V_below (by (with_reducible repeat (first | apply Kd.V_alloc | apply Kd.V_drewN | apply Kd.V_drew)); exact HO0_0.out) hb); have n1_ := Aside0.mk (blk_below (g := gb405) (o := .cells #[.slice A0_0 l0_0.length c0_0, .int .i64 a0_1, .int .i64 a0_2] 46 (0, 0)) (by (with_reducible repeat (first | refine blk_drewN ?_ _ | refine blk_drew ?_ | refine blk_alloc ?_ _)); exact BK405.out) hb); have n2_ := Aside0.mk (blk_below (g := gb406) (o := .cells #[.slice none 0 0, .int .i64 0, .int .i64 0] 46 (0, 0)) (by (with_reducible repeat (first | refine blk_drewN ?_ _ | refine blk_drew ?_ | refine blk_alloc ?_ _)); exact BK406.out) hb); have n3_ := Aside0.mk (below_step (by repeat (first | (with_reducible first | exact HB.out | apply below_alloc | apply pw_below_drewN | apply below_drew1 | refine below_set ?_ GE405.out | refine below_set ?_ GE406.out) | exact HB.out)) hb); clear HO0_0; clear BK405; clear BK406; clear HB; have HO0_0 := n0_; have BK405 := n1_; have BK406 := n2_; have HB := n3_; clear n0_ n1_ n2_ n3_; (try clear hb); (try clear hb2); (try clear hk); (try clear hi); have hcz10_0 : w9.cell? ⟨gb406, 0, none⟩ = some (.slice none 0 0) := (blk_cell BK406.out 0).trans rfl; have hcz10_1 : w9.cell? ⟨gb406, 1, none⟩ = some (.int .i64 0) := (blk_cell BK406.out 1).trans rfl; have hcz10_2 : w9.cell? ⟨gb406, 2, none⟩ = some (.int .i64 0) := (blk_cell BK406.out 2).trans rfl; have hfz10_0 := blk_frozen BK406.out 0; have hfz10_1 := blk_frozen BK406.out 1; have hfz10_2 := blk_frozen BK406.out 2))
    refine bodyPost_ret (results_ct rfl _ _ gb406 46 #[.slice none 0 0, .int .i64 0, .int .i64 0] (0, 0) _ rfl (by (with_reducible repeat (first | refine blk_drewN ?_ _ | refine blk_drew ?_ | refine blk_alloc ?_ _)); refine blk_put (cs := #[.slice none 0 0, .int .i64 0, .int .i64 0]) ?_ 2 _ rfl; (with_reducible repeat (first | refine blk_drewN ?_ _ | refine blk_drew ?_ | refine blk_alloc ?_ _)); refine blk_put (cs := #[.slice none 0 0, .int .i64 0, .int .i64 0]) ?_ 1 _ rfl; (with_reducible repeat (first | refine blk_drewN ?_ _ | refine blk_drew ?_ | refine blk_alloc ?_ _)); refine blk_put (cs := #[.slice none 0 0, .int .i64 0, .int .i64 0]) ?_ 0 _ rfl; (with_reducible repeat (first | refine blk_drewN ?_ _ | refine blk_drew ?_ | refine blk_alloc ?_ _)); exact BK406.out) Try.underlying46 rfl (by kernel_rfl)) rfl ?_
    exact ⟨_, by first | rfl | (simp [errW_none, errW_some] <;> rfl) | (simp [*, errW_none, errW_some] <;> rfl), by first | exact Kd.R_nil _ _ _ _ _ | exact Kd.N_nil _ _ _ _ _ | exact Kd.V_nil _ _ _ _ _ | exact Kd.Q_nil _ _ _ _ _ | exact Kd.S_nil _ _ _ _ _, by repeat (first | (with_reducible first | exact HB.out | apply below_alloc | apply pw_below_drewN | apply below_drew1 | refine below_set ?_ GE405.out | refine below_set ?_ GE406.out) | exact HB.out)⟩
  · rw [if_neg c4] at H
    have c4b0 : decide (t407 < 0) = false := decide_eq_false c4
    clear c4
    obtain ⟨y408, hy408⟩ : ∃ y_ : List (S86), y_ = (([] : List (S86))) := ⟨_, rfl⟩
    replace H : (if 0 ≤ t407 then (if t407 ≤ (l0_0.length : Int) then ((some (l0_0.take (t407 : Int).toNat : List (S86))).bind fun y411 => (if y408.length + y411.length < 4398046511104 then ((some (y408 ++ y411 : List (S86))).bind fun y416 => (if 0 ≤ (wrap64 (t407 + 1)) then (if (wrap64 (t407 + 1)) ≤ (l0_0.length : Int) then ((some (l0_0.drop ((wrap64 (t407 + 1)) : Int).toNat : List (S86))).bind fun y420 => (if y416.length + y420.length < 4398046511104 then (some ((y416 ++ y420), a0_1, a0_2, 0)) else (none))) else (none)) else (none))) else (none))) else (none)) else (none)) = some (r1, r2, r3, r4) := by first | (rw [hy408]; with_reducible exact H) | (have H2_ := (Option.bind_some _ _).symm.trans H; rw [hy408]; with_reducible exact H2_) | (have H2_ := (Option.bind_some _ _).symm.trans H; with_reducible exact H2_) | with_reducible exact H | (rw [hy408]; exact H) | exact H
    have Ny408 := Aside0.mk hy408
    clear hy408
    by_cases c11 : 0 ≤ t407
    · rw [if_pos c11] at H
      have c11b0 := eq_true c11
      have c11b1 : decide (0 ≤ t407) = true := decide_eq_true c11
      clear c11
      by_cases c12 : t407 ≤ (l0_0.length : Int)
      · rw [if_pos c12] at H
        have c12b0 := eq_true c12
        have c12b1 : decide (t407 ≤ (l0_0.length : Int)) = true := decide_eq_true c12
        clear c12
        obtain ⟨y411, hy411⟩ : ∃ y_ : List (S86), y_ = (l0_0.take (t407 : Int).toNat) := ⟨_, rfl⟩
        replace H : (if y408.length + y411.length < 4398046511104 then ((some (y408 ++ y411 : List (S86))).bind fun y416 => (if 0 ≤ (wrap64 (t407 + 1)) then (if (wrap64 (t407 + 1)) ≤ (l0_0.length : Int) then ((some (l0_0.drop ((wrap64 (t407 + 1)) : Int).toNat : List (S86))).bind fun y420 => (if y416.length + y420.length < 4398046511104 then (some ((y416 ++ y420), a0_1, a0_2, 0)) else (none))) else (none)) else (none))) else (none)) = some (r1, r2, r3, r4) := by first | (rw [hy411]; with_reducible exact H) | (have H2_ := (Option.bind_some _ _).symm.trans H; rw [hy411]; with_reducible exact H2_) | (have H2_ := (Option.bind_some _ _).symm.trans H; with_reducible exact H2_) | with_reducible exact H | (rw [hy411]; exact H) | exact H
        have Ny411 := Aside0.mk hy411
        clear hy411
        by_cases c13 : y408.length + y411.length < 4398046511104
        · rw [if_pos c13] at H
          have LMc13 := Aside0.mk c13
          clear c13
          obtain ⟨y416, hy416⟩ : ∃ y_ : List (S86), y_ = (y408 ++ y411) := ⟨_, rfl⟩
          replace H : (if 0 ≤ (wrap64 (t407 + 1)) then (if (wrap64 (t407 + 1)) ≤ (l0_0.length : Int) then ((some (l0_0.drop ((wrap64 (t407 + 1)) : Int).toNat : List (S86))).bind fun y420 => (if y416.length + y420.length < 4398046511104 then (some ((y416 ++ y420), a0_1, a0_2, 0)) else (none))) else (none)) else (none)) = some (r1, r2, r3, r4) := by first | (rw [hy416]; with_reducible exact H) | (have H2_ := (Option.bind_some _ _).symm.trans H; rw [hy416]; with_reducible exact H2_) | (have H2_ := (Option.bind_some _ _).symm.trans H; with_reducible exact H2_) | with_reducible exact H | (rw [hy416]; exact H) | exact H
          have Ny416 := Aside0.mk hy416
          clear hy416
          obtain ⟨ji14, hji14⟩ : ∃ j_ : Int, (wrap64 (t407 + 1)) = j_ := ⟨_, rfl⟩
          replace H : (if 0 ≤ (ji14) then (if (ji14) ≤ (l0_0.length : Int) then ((some (l0_0.drop ((ji14) : Int).toNat : List (S86))).bind fun y420 => (if y416.length + y420.length < 4398046511104 then (some ((y416 ++ y420), a0_1, a0_2, 0)) else (none))) else (none)) else (none)) = some (r1, r2, r3, r4) := by first | (rw [hji14] at H; exact H) | (simp only [hji14] at H ⊢; exact H)
          (try rw [hji14] at A3)
          have hji14w : (IntKind.i64.wrap (t407 + 1)) = ji14 := (i64_w _).trans hji14
          by_cases c15 : 0 ≤ (ji14)
          · rw [if_pos c15] at H
            have c15b0 := eq_true c15
            have c15b1 : decide (0 ≤ (ji14)) = true := decide_eq_true c15
            clear c15
            by_cases c16 : (ji14) ≤ (l0_0.length : Int)
            · rw [if_pos c16] at H
              have c16b0 := eq_true c16
              have c16b1 : decide ((ji14) ≤ (l0_0.length : Int)) = true := decide_eq_true c16
              clear c16
              obtain ⟨y420, hy420⟩ : ∃ y_ : List (S86), y_ = (l0_0.drop ((ji14) : Int).toNat) := ⟨_, rfl⟩
              replace H : (if y416.length + y420.length < 4398046511104 then (some ((y416 ++ y420), a0_1, a0_2, 0)) else (none)) = some (r1, r2, r3, r4) := by first | (rw [hy420]; with_reducible exact H) | (have H2_ := (Option.bind_some _ _).symm.trans H; rw [hy420]; with_reducible exact H2_) | (have H2_ := (Option.bind_some _ _).symm.trans H; with_reducible exact H2_) | with_reducible exact H | (rw [hy420]; exact H) | exact H
              have Ny420 := Aside0.mk hy420
              clear hy420
              by_cases c17 : y416.length + y420.length < 4398046511104
              · rw [if_pos c17] at H
                have LMc17 := Aside0.mk c17
                clear c17
                obtain ⟨y425, hy425⟩ : ∃ y_ : List (S86), y_ = (y416 ++ y420) := ⟨_, rfl⟩
                replace H : (some (y425, a0_1, a0_2, 0)) = some (r1, r2, r3, r4) := by first | (rw [hy425]; with_reducible exact H) | (have H2_ := (Option.bind_some _ _).symm.trans H; rw [hy425]; with_reducible exact H2_) | (have H2_ := (Option.bind_some _ _).symm.trans H; with_reducible exact H2_) | with_reducible exact H | (rw [hy425]; exact H) | exact H
                have Ny425 := Aside0.mk hy425
                clear hy425
                simp only [Option.some.injEq, Prod.mk.injEq] at H
                obtain ⟨rfl, rfl, rfl, rfl⟩ := H
                go_enter Try.func33, Try.ntmps33
                try go_wp2_with (first | ((with_reducible refine gate_dst (N := 2) rfl ?_); refine box_event ?hg (N := 2) ?hd (cs := #[.slice A0_0 l0_0.length c0_0, .int .i64 a0_1, .int .i64 a0_2]) (t := 46) ?hr ?_; (case hd => rfl); (case hg => rfl); (case hr => first | (go_simp; done) | (go_simp; rfl)); intro gb405 hg w18 hbox hb; have n0_ := Aside0.mk (Kd.V_below (Kd.V_elderB (by (with_reducible repeat (first | apply Kd.V_alloc | apply Kd.V_drewN | apply Kd.V_drew)); exact HO0_0.out) gb405 (Nat.le_of_eq hg.symm)) hb); have n1_ := Aside0.mk (below_step (by repeat (first | (with_reducible first | exact HB.out | apply below_alloc | apply pw_below_drewN | apply below_drew1) | exact HB.out)) hb); have n2_ := Aside0.mk (hbox); have n3_ := Aside0.mk ((by rw [hg]; exact (below_size (by repeat (first | (with_reducible first | exact HB.out | apply below_alloc | apply pw_below_drewN | apply below_drew1) | exact HB.out))) : w.heap.size ≤ gb405)); have n4_ := Aside0.mk ((by rw [hg]; exact (below_size (by repeat (first | (with_reducible first | exact HB.out | apply below_alloc | apply pw_below_drewN | apply below_drew1) | exact HB.out))) : w.heap.size ≤ gb405)); clear HO0_0; clear HB; have HO0_0 := n0_; have HB := n1_; have BK405 := n2_; have GW405 := n3_; have GE405 := n4_; clear n0_ n1_ n2_ n3_ n4_; clear hb hbox hg) | ((with_reducible refine gate_dst (N := 4) rfl ?_); refine box_event ?hg (N := 4) ?hd (cs := #[.slice none 0 0, .int .i64 0, .int .i64 0]) (t := 46) ?hr ?_; (case hd => rfl); (case hg => rfl); (case hr => first | (go_simp; done) | (go_simp; rfl)); intro gb406 hg w19 hbox hb; have n0_ := Aside0.mk (Kd.V_below (Kd.V_elderB (by (with_reducible repeat (first | apply Kd.V_alloc | apply Kd.V_drewN | apply Kd.V_drew)); exact HO0_0.out) gb406 (Nat.le_of_eq hg.symm)) hb); have n1_ := Aside0.mk (blk_below (g := gb405) (o := .cells #[.slice A0_0 l0_0.length c0_0, .int .i64 a0_1, .int .i64 a0_2] 46 (0, 0)) (by (with_reducible repeat (first | refine blk_drewN ?_ _ | refine blk_drew ?_ | refine blk_alloc ?_ _)); exact BK405.out) hb); have n2_ := Aside0.mk (below_step (by repeat (first | (with_reducible first | exact HB.out | apply below_alloc | apply pw_below_drewN | apply below_drew1 | refine below_set ?_ GE405.out) | exact HB.out)) hb); have n3_ := Aside0.mk (hbox); have n4_ := Aside0.mk ((by rw [hg]; exact (below_size (by repeat (first | (with_reducible first | exact HB.out | apply below_alloc | apply pw_below_drewN | apply below_drew1 | refine below_set ?_ GE405.out) | exact HB.out))) : w.heap.size ≤ gb406)); have n5_ := Aside0.mk ((by rw [hg]; exact (below_size (by repeat (first | (with_reducible first | exact HB.out | apply below_alloc | apply pw_below_drewN | apply below_drew1 | refine below_set ?_ GE405.out) | exact HB.out))) : w.heap.size ≤ gb406)); have n6_ := Aside0.mk ((by rw [hg]; exact Nat.ne_of_lt (blk_lt (g := gb405) (o := .cells #[.slice A0_0 l0_0.length c0_0, .int .i64 a0_1, .int .i64 a0_2] 46 (0, 0)) (by (with_reducible repeat (first | refine blk_drewN ?_ _ | refine blk_drew ?_ | refine blk_alloc ?_ _)); exact BK405.out)) : gb405 ≠ gb406)); have n7_ := Aside0.mk ((by rw [hg]; exact Nat.ne_of_gt (blk_lt (g := gb405) (o := .cells #[.slice A0_0 l0_0.length c0_0, .int .i64 a0_1, .int .i64 a0_2] 46 (0, 0)) (by (with_reducible repeat (first | refine blk_drewN ?_ _ | refine blk_drew ?_ | refine blk_alloc ?_ _)); exact BK405.out)) : gb406 ≠ gb405)); clear HO0_0; clear BK405; clear HB; have HO0_0 := n0_; have BK405 := n1_; have HB := n2_; have BK406 := n3_; have GW406 := n4_; have GE406 := n5_; have NB405_406 := n6_; have NB406_405 := n7_; clear n0_ n1_ n2_ n3_ n4_ n5_ n6_ n7_; clear hb hbox hg; have hnb20 := NB405_406.out; have hnc20 := NB406_405.out; have hcz21_0 : w19.cell? ⟨gb405, 0, none⟩ = some (.slice A0_0 l0_0.length c0_0) := (blk_cell BK405.out 0).trans rfl; have hcz21_1 : w19.cell? ⟨gb405, 1, none⟩ = some (.int .i64 a0_1) := (blk_cell BK405.out 1).trans rfl; have hcz21_2 : w19.cell? ⟨gb405, 2, none⟩ = some (.int .i64 a0_2) := (blk_cell BK405.out 2).trans rfl; have hfz21_0 := blk_frozen BK405.out 0; have hfz21_1 := blk_frozen BK405.out 1; have hfz21_2 := blk_frozen BK405.out 2) | ((with_reducible refine gate_callee (f := 35) rfl ?_); refine goesL_ (some 10) rfl rfl Try.func35 (by kernel_rfl) rfl #[.agg #[.slice A0_0 l0_0.length c0_0, .int .i64 a0_1, .int .i64 a0_2], .int .i64 a1] rfl (by (try simp only [List.map_toArray, List.map_cons, List.map_nil]); first | done | rfl | (simp only [List.length_drop, List.length_take]; rfl)) ?_; (with_reducible refine (cordwoodref21_place.calls k _ _ l0_0 a0_1 a0_2 a1 t407 _ ?side1 ?side2 A3.out).mono ?_); (case side1 => repeat (first | exact (Kd.V_reads' HO0_0.out).2.2 | (with_reducible refine Kd.C_alloc ?_ _) | (with_reducible refine Kd.C_drewN ?_ _) | (with_reducible refine Kd.C_drew ?_))); (case side2 => exact (Kd.V_reads' HO0_0.out).2.1); rintro e w22 ⟨rfl, hb⟩; refine ⟨_, rfl, ?_⟩; have n0_ := Aside0.mk (Kd.V_below (by (with_reducible repeat (first | apply Kd.V_alloc | apply Kd.V_drewN | apply Kd.V_drew)); exact HO0_0.out) hb); have n1_ := Aside0.mk (blk_below (g := gb405) (o := .cells #[.slice A0_0 l0_0.length c0_0, .int .i64 a0_1, .int .i64 a0_2] 46 (0, 0)) (by (with_reducible repeat (first | refine blk_drewN ?_ _ | refine blk_drew ?_ | refine blk_alloc ?_ _)); exact BK405.out) hb); have n2_ := Aside0.mk (blk_below (g := gb406) (o := .cells #[.slice none 0 0, .int .i64 0, .int .i64 0] 46 (0, 0)) (by (with_reducible repeat (first | refine blk_drewN ?_ _ | refine blk_drew ?_ | refine blk_alloc ?_ _)); exact BK406.out) hb); have n3_ := Aside0.mk (below_step (by repeat (first | (with_reducible first | exact HB.out | apply below_alloc | apply pw_below_drewN | apply below_drew1 | refine below_set ?_ GE405.out | refine below_set ?_ GE406.out) | exact HB.out)) hb); clear HO0_0; clear BK405; clear BK406; clear HB; have HO0_0 := n0_; have BK405 := n1_; have BK406 := n2_; have HB := n3_; clear n0_ n1_ n2_ n3_; (try clear hb); (try clear hb2); (try clear hk); (try clear hi)))
                have n0_ := Aside0.mk (Kd.V_drew HO0_0.out)
                have n1_ := Aside0.mk (blk_drew BK405.out)
                have n2_ := Aside0.mk (blk_drew BK406.out)
                have n3_ := Aside0.mk (below_drew1 HB.out)
                clear HO0_0
                clear BK405
                clear BK406
                clear HB
                have HO0_0 := n0_
                have BK405 := n1_
                have BK406 := n2_
                have HB := n3_
                clear n0_ n1_ n2_ n3_
                have q24 : (t407 : Int) ≤ ((l0_0.length : Int) : Int) := of_decide_eq_true (by first | (with_reducible assumption) | assumption)
                obtain ⟨i024, hi024, _, hsz24, _⟩ := info_parts info86
                have hroom24 : l0_0.length ≤ c0_0 := (Kd.V_reads' HO0_0.out).2.1
                have hC24 : Kd.F k86 _ _ A0_0 l0_0.length l0_0 := (Kd.V_at (base := w.heap.size) HO0_0.out).2.2
                have hcut24 := cut_to (P := Try.prog) 44 86 .i64 Try.underlying44 hi024 A0_0 l0_0.length c0_0 t407 (of_decide_eq_true (by first | (with_reducible assumption) | assumption)) q24 hroom24
                have hr24 := Kd.F_take (m := (t407 : Int).toNat) hC24 (by omega)
                have hy24 : y411.length = (t407 : Int).toNat := (by rw [Ny411.out, List.length_take]; omega)
                rw [← Ny411.out] at hr24
                rw [← hy24] at hcut24
                have HO415 := Aside0.mk (show Kd.V k86 86 _ w.heap.size _ (.slice A0_0 y411.length c0_0) y411 from Kd.V_mk (by omega) hr24)
                have HC415 := Aside0.mk (show y411.length ≤ c0_0 from by omega)
                clear hr24 hC24 hroom24 hi024 hsz24
                have KY24 := Aside0.mk hy24
                clear hy24
                replace q24 := eq_true q24
                refine start_ (n := 13) (S := fun w' => w'.cell? ⟨gb405, 0, none⟩ = some (.slice A0_0 l0_0.length c0_0) ∧ w'.cell? ⟨gb405, 1, none⟩ = some (.int .i64 a0_1) ∧ w'.cell? ⟨gb405, 2, none⟩ = some (.int .i64 a0_2)) (ds := []) #[false, false, false, false, false, false, false, false, false, false, false, false, false] (by kernel_rfl) rfl rfl ⟨(blk_cell BK405.out 0).trans rfl, (blk_cell BK405.out 1).trans rfl, (blk_cell BK405.out 2).trans rfl⟩ (fun hHeld => ?_); refine with_tabW cordwoodref21_Forget.tab4 cordwoodref21_Forget.bits4 (fun HT_ HW_ => ?_)
                generalize w22.drew = w23 at HO0_0 BK405 BK406 HB HO415 hHeld ⊢
                refine pure_ (i := 1) (N := some 15) (v := ?_) (a' := ?_) #[false, true, false, false, false, false, false, false, false, false, false, false, false] rfl rfl (any_of HT_.out (by kernel_rfl)) (fun _ _ _ h => h) (Or.inl ⟨by rfl, ?_⟩) ?_ ?_
                rotate_left
                · intro w'
                  go_simp
                  with_reducible rfl
                rotate_left
                · simp only [Act.put, List.setIfInBounds_toArray, List.set_cons_zero, List.set_cons_succ, i64_w, i32_w]
                  rfl
                refine pure_ (i := 3) (N := some 17) (v := ?_) (a' := ?_) #[false, true, false, true, false, false, false, false, false, false, false, false, false] rfl rfl (any_of HT_.out (by kernel_rfl)) (fun _ _ _ h => h) (Or.inl ⟨by rfl, ?_⟩) ?_ ?_
                rotate_left
                · intro w'
                  go_simp
                  with_reducible rfl
                rotate_left
                · simp only [Act.put, List.setIfInBounds_toArray, List.set_cons_zero, List.set_cons_succ, i64_w, i32_w]
                  rfl
                refine pure_ (i := 6) (N := some 20) (v := ?_) (a' := ?_) #[false, true, false, true, false, false, true, false, false, false, false, false, false] rfl rfl (any_of HT_.out (by kernel_rfl)) (fun _ _ _ h => h) (Or.inl ⟨by rfl, ?_⟩) ?_ ?_
                rotate_left
                · intro w'
                  go_simp
                  with_reducible rfl
                rotate_left
                · simp only [Act.put, List.setIfInBounds_toArray, List.set_cons_zero, List.set_cons_succ, i64_w, i32_w]
                  rfl
                refine pure_ (i := 8) (N := some 22) (v := ?_) (a' := ?_) #[false, true, false, true, false, false, true, false, true, false, false, false, false] rfl rfl (any_of HT_.out (by kernel_rfl)) (fun _ _ _ h => h) (Or.inl ⟨by rfl, ?_⟩) ?_ ?_
                rotate_left
                · intro w'
                  go_simp
                  with_reducible rfl
                rotate_left
                · simp only [Act.put, List.setIfInBounds_toArray, List.set_cons_zero, List.set_cons_succ, i64_w, i32_w]
                  rfl
                refine take_ (i := 2) (N := some 16) (v := ?_) (a' := ?_) #[false, true, true, true, false, false, true, false, true, false, false, false, false] rfl rfl (take_ofW HT_.out HW_.out (by kernel_rfl)) (fun _ _ _ h => h) (Or.inl ⟨by rfl, ?_⟩) hHeld ?_ ?_
                rotate_left
                · rintro w' ⟨s0, s1, s2⟩
                  go_simp
                  with_reducible rfl
                rotate_left
                · simp only [Act.put, List.setIfInBounds_toArray, List.set_cons_zero, List.set_cons_succ, i64_w, i32_w]
                  rfl
                refine pure_ (i := 4) (N := some 18) (v := ?_) (a' := ?_) #[false, true, true, true, true, false, true, false, true, false, false, false, false] rfl rfl (any_of HT_.out (by kernel_rfl)) (fun _ _ _ h => h) (Or.inl ⟨by rfl, ?_⟩) ?_ ?_
                rotate_left
                · intro w'
                  go_simp
                  with_reducible rfl
                rotate_left
                · simp only [Act.put, List.setIfInBounds_toArray, List.set_cons_zero, List.set_cons_succ, i64_w, i32_w]
                  rfl
                refine take_ (i := 7) (N := some 21) (v := ?_) (a' := ?_) #[false, true, true, true, true, false, true, true, true, false, false, false, false] rfl rfl (take_ofW HT_.out HW_.out (by kernel_rfl)) (fun _ _ _ h => h) (Or.inl ⟨by rfl, ?_⟩) hHeld ?_ ?_
                rotate_left
                · rintro w' ⟨s0, s1, s2⟩
                  go_simp
                  with_reducible rfl
                rotate_left
                · simp only [Act.put, List.setIfInBounds_toArray, List.set_cons_zero, List.set_cons_succ, i64_w, i32_w]
                  rfl
                refine take_ (i := 9) (N := some 23) (v := ?_) (a' := ?_) #[false, true, true, true, true, false, true, true, true, true, false, false, false] rfl rfl (take_ofW HT_.out HW_.out (by kernel_rfl)) (fun _ _ _ h => h) (Or.inl ⟨by rfl, ?_⟩) hHeld ?_ ?_
                rotate_left
                · rintro w' ⟨s0, s1, s2⟩
                  go_simp
                  with_reducible rfl
                rotate_left
                · simp only [Act.put, List.setIfInBounds_toArray, List.set_cons_zero, List.set_cons_succ, i64_w, i32_w]
                  rfl
                refine join_ (σ := Value × Value × Nat) 1 #[true, true, true, true, true, true, true, true, true, true, true, true, false] (fun s_ => [(14, s_.1), (19, s_.2.1), (7, .pointer (some ⟨s_.2.2, 0, none⟩)), (24, .agg #[s_.2.1, .int .i64 a0_1, .int .i64 a0_2])]) (fun s_ w' => (w'.cell? ⟨gb405, 0, none⟩ = some (.slice A0_0 l0_0.length c0_0) ∧ w'.cell? ⟨gb405, 1, none⟩ = some (.int .i64 a0_1) ∧ w'.cell? ⟨gb405, 2, none⟩ = some (.int .i64 a0_2)) ∧ (Kd.V k86 86 w' w.heap.size (fun k_ => (P0_0_ k_ ∨ w.heap.size ≤ k_) ∧ some k_ ≠ (s_.2.1 : Value).ownBlock ∧ k_ ≠ gb405 ∧ k_ ≠ gb406 ∧ k_ ≠ s_.2.2) (.slice A0_0 l0_0.length c0_0) l0_0) ∧ (Kd.V k86 86 w' w.heap.size (fun k_ => (P0_0_ k_ ∨ w.heap.size ≤ k_) ∧ some k_ ≠ (s_.2.1 : Value).ownBlock ∧ k_ ≠ gb405 ∧ k_ ≠ gb406 ∧ k_ ≠ s_.2.2) (.slice A0_0 y411.length c0_0) y411) ∧ (Kd.N k86 86 w' w.heap.size (fun k_ => (P0_0_ k_ ∨ w.heap.size ≤ k_) ∧ k_ ≠ gb405 ∧ k_ ≠ gb406 ∧ k_ ≠ s_.2.2) s_.2.1 y416) ∧ (w'.heap[gb405]? = some (.cells #[.slice A0_0 l0_0.length c0_0, .int .i64 a0_1, .int .i64 a0_2] 46 (0, 0))) ∧ (w'.heap[gb406]? = some (.cells #[.slice none 0 0, .int .i64 0, .int .i64 0] 46 (0, 0))) ∧ (w'.heap[s_.2.2]? = some (.cells #[.slice none 0 0, .int .i64 0, .int .i64 0] 46 (0, 0))) ∧ (w.heap.size ≤ s_.2.2) ∧ (w.heap.size ≤ s_.2.2) ∧ (gb405 ≠ s_.2.2) ∧ (s_.2.2 ≠ gb405) ∧ (gb406 ≠ s_.2.2) ∧ (s_.2.2 ≠ gb406) ∧ (Below w.heap.size w w')) ?_ ?_
                rotate_left
                · intro hCont
                  refine two_ (i := 0) (j := 11) (Ni := some 14) (Nj := some 7) #[true, true, true, true, true, false, true, true, true, true, false, false, false] #[false, true, true, true, true, false, true, true, true, true, false, true, false] rfl rfl rfl rfl (two_of HT_.out (by kernel_rfl)) (by decide) (by decide) (fun K hK => ?_) (fun K hK => ?_)
                  · skip
                    refine Kd.N_lit_step k86 _ 86 ?hg (N' := 14) ?hd (xs := ([] : List (S86))) (inner := []) (ok := (fun k_ => (P0_0_ k_ ∨ w.heap.size ≤ k_) ∧ k_ ≠ gb405 ∧ k_ ≠ gb406)) (okp := (fun k_ => (P0_0_ k_ ∨ w.heap.size ≤ k_) ∧ k_ ≠ gb405 ∧ k_ ≠ gb406)) ?hr ?hp (fun _ hk => hk) ((show ∀ k_, w23.heap.size ≤ k_ → (fun k_ => (P0_0_ k_ ∨ w.heap.size ≤ k_) ∧ k_ ≠ gb405 ∧ k_ ≠ gb406) k_ from fun k_ hk => ⟨(.inr (Nat.le_trans (below_size (by repeat (first | (with_reducible first | exact HB.out | apply below_alloc | apply pw_below_drewN | apply below_drew1 | refine below_set ?_ GE405.out | refine below_set ?_ GE406.out) | exact HB.out))) hk)), Kd.freshB (g := gb405) (o := .cells #[.slice A0_0 l0_0.length c0_0, .int .i64 a0_1, .int .i64 a0_2] 46 (0, 0)) (by (with_reducible repeat (first | refine blk_drewN ?_ _ | refine blk_drew ?_ | refine blk_alloc ?_ _)); exact BK405.out) k_ hk, Kd.freshB (g := gb406) (o := .cells #[.slice none 0 0, .int .i64 0, .int .i64 0] 46 (0, 0)) (by (with_reducible repeat (first | refine blk_drewN ?_ _ | refine blk_drew ?_ | refine blk_alloc ?_ _)); exact BK406.out) k_ hk⟩) _ (Nat.le_refl _)) (Below.refl _ _) (Nat.le_refl _) (by simp) ?_; (case hd => rfl); (case hg => rfl); (case hr => first | (go_simp; done) | (go_simp; rfl)); (case hp => exact (Reps.none _ _))
                    intro v409 w25 ho26 hb hg_ hnew_
                    clear hg_ hnew_
                    (first | rw [← Ny408.out] at ho26 | (simp only [Int.reduceToNat] at ho26; rw [← Ny408.out] at ho26))
                    have n0_ := Aside0.mk (Kd.V_elder' (by (with_reducible repeat (first | apply Kd.V_alloc | apply Kd.V_drewN | apply Kd.V_drew)); exact HO0_0.out) (Kd.N_base ho26) hb)
                    have n1_ := Aside0.mk (Kd.V_elder' (by (with_reducible repeat (first | apply Kd.V_alloc | apply Kd.V_drewN | apply Kd.V_drew)); exact HO415.out) (Kd.N_base ho26) hb)
                    have n2_ := Aside0.mk (Kd.N_lower ho26 (below_size (by repeat (first | (with_reducible first | exact HB.out | apply below_alloc | apply pw_below_drewN | apply below_drew1 | refine below_set ?_ GE405.out | refine below_set ?_ GE406.out) | exact HB.out))))
                    have n3_ := Aside0.mk (blk_below (g := gb405) (o := .cells #[.slice A0_0 l0_0.length c0_0, .int .i64 a0_1, .int .i64 a0_2] 46 (0, 0)) (by (with_reducible repeat (first | refine blk_drewN ?_ _ | refine blk_drew ?_ | refine blk_alloc ?_ _)); exact BK405.out) hb)
                    have n4_ := Aside0.mk (blk_below (g := gb406) (o := .cells #[.slice none 0 0, .int .i64 0, .int .i64 0] 46 (0, 0)) (by (with_reducible repeat (first | refine blk_drewN ?_ _ | refine blk_drew ?_ | refine blk_alloc ?_ _)); exact BK406.out) hb)
                    have n5_ := Aside0.mk (below_step (by repeat (first | (with_reducible first | exact HB.out | apply below_alloc | apply pw_below_drewN | apply below_drew1 | refine below_set ?_ GE405.out | refine below_set ?_ GE406.out) | exact HB.out)) hb)
                    clear HO0_0
                    clear HO415
                    clear BK405
                    clear BK406
                    clear HB
                    have HO0_0 := n0_
                    have HO415 := n1_
                    have HO410 := n2_
                    have BK405 := n3_
                    have BK406 := n4_
                    have HB := n5_
                    clear n0_ n1_ n2_ n3_ n4_ n5_
                    clear hb ho26
                    refine hK.out _ _ ⟨(blk_cell BK405.out 0).trans rfl, (blk_cell BK405.out 1).trans rfl, (blk_cell BK405.out 2).trans rfl⟩ (fun hHeld => ?_)
                    clear hK K
                    refine norm_ (a' := ?_) ?_ ?_
                    rotate_left
                    · show Act.put _ (some 14) _ = _
                      simp only [Act.put, List.setIfInBounds_toArray, List.set_cons_zero, List.set_cons_succ, i64_w, i32_w]
                      rfl
                    refine two_ (i := 5) (j := 11) (Ni := some 19) (Nj := some 7) #[true, true, true, true, true, true, true, true, true, true, false, false, false] #[true, true, true, true, true, false, true, true, true, true, false, true, false] rfl rfl rfl rfl (two_of HT_.out (by kernel_rfl)) (by decide) (by decide) (fun K hK => ?_) (fun K hK => ?_)
                    · skip
                      refine Kd.N_append_rows_step k86 (w0 := w) w.heap.size (by rfl) (.tmp 14) (.tmp 18) 44 86 (.agg #[(.int .i64 0), (.slice none 0 0)]) 32 rfl Try.underlying44 info86 rfl (by decide) (by omega) v409 y408 y411 _ _ _ (fun k_ => (P0_0_ k_ ∨ w.heap.size ≤ k_) ∧ k_ ≠ gb405 ∧ k_ ≠ gb406) (fun k_ => ((fun k_ => (P0_0_ k_ ∨ w.heap.size ≤ k_) ∧ k_ ≠ gb405 ∧ k_ ≠ gb406)) k_ ∧ some k_ ≠ (v409 : Value).ownBlock) rfl rfl ?aO ?aR (fun _ hk => hk) ?aF ?aB ?aS ?aL ?_
                      (case aR => exact (by skip; exact Kd.V_F (Kd.V_mono (ok' := (fun k_ => ((fun k_ => (P0_0_ k_ ∨ w.heap.size ≤ k_) ∧ k_ ≠ gb405 ∧ k_ ≠ gb406)) k_ ∧ some k_ ≠ (v409 : Value).ownBlock)) (HO415.out) (fun k_ hk => ⟨⟨hk.1.1.1, ⟨hk.1.1.2, hk.1.2⟩⟩, hk.2⟩))))
                      (case aB => exact (by repeat (first | (with_reducible first | exact HB.out | apply below_alloc | apply pw_below_drewN | apply below_drew1 | refine below_set ?_ GE405.out | refine below_set ?_ GE406.out) | exact HB.out)))
                      (case aF => exact (fun k_ hk => ⟨(.inr (Nat.le_trans (below_size (by repeat (first | (with_reducible first | exact HB.out | apply below_alloc | apply pw_below_drewN | apply below_drew1 | refine below_set ?_ GE405.out | refine below_set ?_ GE406.out) | exact HB.out))) hk)), Kd.freshB (g := gb405) (o := .cells #[.slice A0_0 l0_0.length c0_0, .int .i64 a0_1, .int .i64 a0_2] 46 (0, 0)) (by (with_reducible repeat (first | refine blk_drewN ?_ _ | refine blk_drew ?_ | refine blk_alloc ?_ _)); exact BK405.out) k_ hk, Kd.freshB (g := gb406) (o := .cells #[.slice none 0 0, .int .i64 0, .int .i64 0] 46 (0, 0)) (by (with_reducible repeat (first | refine blk_drewN ?_ _ | refine blk_drew ?_ | refine blk_alloc ?_ _)); exact BK406.out) k_ hk⟩))
                      (case aO => exact (by (with_reducible repeat (first | apply Kd.N_alloc | apply Kd.N_drewN | apply Kd.N_drew)); exact HO410.out))
                      (case aS => exact (below_size (by repeat (first | (with_reducible first | exact HB.out | apply below_alloc | apply pw_below_drewN | apply below_drew1 | refine below_set ?_ GE405.out | refine below_set ?_ GE406.out) | exact HB.out))))
                      (case aL => have := LMc13.out; omega)
                      intro v417 w27 ho hb hg hat
                      rw [← Ny416.out] at ho
                      have n0_ := Aside0.mk (Kd.V_afterv (ok := (fun k_ => (P0_0_ k_ ∨ w.heap.size ≤ k_) ∧ k_ ≠ gb405 ∧ k_ ≠ gb406)) (by (with_reducible repeat (first | apply Kd.V_alloc | apply Kd.V_drewN | apply Kd.V_drew)); exact Kd.V_mono HO0_0.out (fun _ hk => ⟨⟨hk.1.1.1, ⟨hk.1.1.2, hk.1.2⟩⟩, hk.2⟩)) hg hat)
                      have n1_ := Aside0.mk (blk_grown (g := gb405) (o := .cells #[.slice A0_0 l0_0.length c0_0, .int .i64 a0_1, .int .i64 a0_2] 46 (0, 0)) (by (with_reducible repeat (first | refine blk_drewN ?_ _ | refine blk_drew ?_ | refine blk_alloc ?_ _)); exact BK405.out) hg (Kd.N_ne HO410.out BK405.out (by decide)))
                      have n2_ := Aside0.mk (blk_grown (g := gb406) (o := .cells #[.slice none 0 0, .int .i64 0, .int .i64 0] 46 (0, 0)) (by (with_reducible repeat (first | refine blk_drewN ?_ _ | refine blk_drew ?_ | refine blk_alloc ?_ _)); exact BK406.out) hg (Kd.N_ne HO410.out BK406.out (by decide)))
                      have n3_ := Aside0.mk (Kd.V_afterv (ok := (fun k_ => (P0_0_ k_ ∨ w.heap.size ≤ k_) ∧ k_ ≠ gb405 ∧ k_ ≠ gb406)) (by (with_reducible repeat (first | apply Kd.V_alloc | apply Kd.V_drewN | apply Kd.V_drew)); exact Kd.V_mono HO415.out (fun _ hk => ⟨⟨hk.1.1.1, ⟨hk.1.1.2, hk.1.2⟩⟩, hk.2⟩)) hg hat)
                      have n4_ := Aside0.mk (hb)
                      have n5_ := Aside0.mk (ho)
                      clear HO0_0
                      clear BK405
                      clear BK406
                      clear HO415
                      clear HB
                      clear HO410
                      have HO0_0 := n0_
                      have BK405 := n1_
                      have BK406 := n2_
                      have HO415 := n3_
                      have HB := n4_
                      have HO418 := n5_
                      clear n0_ n1_ n2_ n3_ n4_ n5_
                      clear ho hb hg hat
                      obtain ⟨Ao28, co28, eo28⟩ := Kd.N_slice HO418.out
                      (first | subst eo28 | (injection eo28 with f1_ f2_ f3_; have f4_ := f1_.symm; have f5_ := f3_.symm; clear f1_ f2_ f3_; subst f4_; subst f5_))
                      refine hK.out _ _ ⟨(blk_cell BK405.out 0).trans rfl, (blk_cell BK405.out 1).trans rfl, (blk_cell BK405.out 2).trans rfl⟩ (fun hHeld => ?_)
                      clear hK K
                      refine norm_ (a' := ?_) ?_ ?_
                      rotate_left
                      · show Act.put _ (some 19) _ = _
                        simp only [Act.put, List.setIfInBounds_toArray, List.set_cons_zero, List.set_cons_succ, i64_w, i32_w]
                        rfl
                      refine pure_ (i := 10) (N := some 24) (v := ?_) (a' := ?_) #[true, true, true, true, true, true, true, true, true, true, true, false, false] rfl rfl (any_of HT_.out (by kernel_rfl)) (fun _ _ _ h => h) (Or.inl ⟨by rfl, ?_⟩) ?_ ?_
                      rotate_left
                      · intro w'
                        go_simp
                        with_reducible rfl
                      rotate_left
                      · simp only [Act.put, List.setIfInBounds_toArray, List.set_cons_zero, List.set_cons_succ, i64_w, i32_w]
                        rfl
                      refine one_ (i := 11) (N := some 7) #[true, true, true, true, true, true, true, true, true, true, true, true, false] rfl rfl (one_of HT_.out (by kernel_rfl)) (by decide) (fun K hK => ?_)
                      refine box_step ?hg (N := 7) ?hd (cs := #[.slice none 0 0, .int .i64 0, .int .i64 0]) (t := 46) ?hr ?_; (case hd => rfl); (case hg => rfl); (case hr => first | (go_simp; done) | (go_simp; rfl))
                      intro gb419 hg w29 hbox hb
                      have n0_ := Aside0.mk (Kd.V_below (Kd.V_elderB (by (with_reducible repeat (first | apply Kd.V_alloc | apply Kd.V_drewN | apply Kd.V_drew)); exact HO0_0.out) gb419 (Nat.le_of_eq hg.symm)) hb)
                      have n1_ := Aside0.mk (Kd.V_below (Kd.V_elderB (by (with_reducible repeat (first | apply Kd.V_alloc | apply Kd.V_drewN | apply Kd.V_drew)); exact HO415.out) gb419 (Nat.le_of_eq hg.symm)) hb)
                      have n2_ := Aside0.mk (Kd.N_below (Kd.N_elderB (by (with_reducible repeat (first | apply Kd.N_alloc | apply Kd.N_drewN | apply Kd.N_drew)); exact HO418.out) gb419 (Nat.le_of_eq hg.symm)) hb)
                      have n3_ := Aside0.mk (blk_below (g := gb405) (o := .cells #[.slice A0_0 l0_0.length c0_0, .int .i64 a0_1, .int .i64 a0_2] 46 (0, 0)) (by (with_reducible repeat (first | refine blk_drewN ?_ _ | refine blk_drew ?_ | refine blk_alloc ?_ _)); exact BK405.out) hb)
                      have n4_ := Aside0.mk (blk_below (g := gb406) (o := .cells #[.slice none 0 0, .int .i64 0, .int .i64 0] 46 (0, 0)) (by (with_reducible repeat (first | refine blk_drewN ?_ _ | refine blk_drew ?_ | refine blk_alloc ?_ _)); exact BK406.out) hb)
                      have n5_ := Aside0.mk (below_step (by repeat (first | (with_reducible first | exact HB.out | apply below_alloc | apply pw_below_drewN | apply below_drew1 | refine below_set ?_ GE405.out | refine below_set ?_ GE406.out) | exact HB.out)) hb)
                      have n6_ := Aside0.mk (hbox)
                      have n7_ := Aside0.mk ((by rw [hg]; exact (below_size (by repeat (first | (with_reducible first | exact HB.out | apply below_alloc | apply pw_below_drewN | apply below_drew1 | refine below_set ?_ GE405.out | refine below_set ?_ GE406.out) | exact HB.out))) : w.heap.size ≤ gb419))
                      have n8_ := Aside0.mk ((by rw [hg]; exact (below_size (by repeat (first | (with_reducible first | exact HB.out | apply below_alloc | apply pw_below_drewN | apply below_drew1 | refine below_set ?_ GE405.out | refine below_set ?_ GE406.out) | exact HB.out))) : w.heap.size ≤ gb419))
                      have n9_ := Aside0.mk ((by rw [hg]; exact Nat.ne_of_lt (blk_lt (g := gb405) (o := .cells #[.slice A0_0 l0_0.length c0_0, .int .i64 a0_1, .int .i64 a0_2] 46 (0, 0)) (by (with_reducible repeat (first | refine blk_drewN ?_ _ | refine blk_drew ?_ | refine blk_alloc ?_ _)); exact BK405.out)) : gb405 ≠ gb419))
                      have n10_ := Aside0.mk ((by rw [hg]; exact Nat.ne_of_gt (blk_lt (g := gb405) (o := .cells #[.slice A0_0 l0_0.length c0_0, .int .i64 a0_1, .int .i64 a0_2] 46 (0, 0)) (by (with_reducible repeat (first | refine blk_drewN ?_ _ | refine blk_drew ?_ | refine blk_alloc ?_ _)); exact BK405.out)) : gb419 ≠ gb405))
                      have n11_ := Aside0.mk ((by rw [hg]; exact Nat.ne_of_lt (blk_lt (g := gb406) (o := .cells #[.slice none 0 0, .int .i64 0, .int .i64 0] 46 (0, 0)) (by (with_reducible repeat (first | refine blk_drewN ?_ _ | refine blk_drew ?_ | refine blk_alloc ?_ _)); exact BK406.out)) : gb406 ≠ gb419))
                      have n12_ := Aside0.mk ((by rw [hg]; exact Nat.ne_of_gt (blk_lt (g := gb406) (o := .cells #[.slice none 0 0, .int .i64 0, .int .i64 0] 46 (0, 0)) (by (with_reducible repeat (first | refine blk_drewN ?_ _ | refine blk_drew ?_ | refine blk_alloc ?_ _)); exact BK406.out)) : gb419 ≠ gb406))
                      clear HO0_0
                      clear HO415
                      clear HO418
                      clear BK405
                      clear BK406
                      clear HB
                      have HO0_0 := n0_
                      have HO415 := n1_
                      have HO418 := n2_
                      have BK405 := n3_
                      have BK406 := n4_
                      have HB := n5_
                      have BK419 := n6_
                      have GW419 := n7_
                      have GE419 := n8_
                      have NB405_419 := n9_
                      have NB419_405 := n10_
                      have NB406_419 := n11_
                      have NB419_406 := n12_
                      clear n0_ n1_ n2_ n3_ n4_ n5_ n6_ n7_ n8_ n9_ n10_ n11_ n12_
                      clear hb hbox hg
                      refine hK.out _ _ ⟨(blk_cell BK405.out 0).trans rfl, (blk_cell BK405.out 1).trans rfl, (blk_cell BK405.out 2).trans rfl⟩ (fun hHeld => ?_)
                      clear hK K
                      refine norm_ (a' := ?_) ?_ ?_
                      rotate_left
                      · show Act.put _ (some 7) _ = _
                        simp only [Act.put, List.setIfInBounds_toArray, List.set_cons_zero, List.set_cons_succ, i64_w, i32_w]
                        rfl
                      exact norm_ (by simp only [putAll, Act.put, List.setIfInBounds_toArray, List.set_cons_zero, List.set_cons_succ]) (hCont (v409, .slice Ao28 y416.length co28, gb419) _ ⟨hHeld, (by (with_reducible repeat (first | apply Kd.V_alloc | apply Kd.V_drewN | apply Kd.V_drew)); exact Kd.V_mono HO0_0.out (fun _ hk => ⟨hk.1.1.1, ⟨hk.1.2, ⟨hk.1.1.2.1, ⟨hk.1.1.2.2, hk.2⟩⟩⟩⟩)), (by (with_reducible repeat (first | apply Kd.V_alloc | apply Kd.V_drewN | apply Kd.V_drew)); exact Kd.V_mono HO415.out (fun _ hk => ⟨hk.1.1.1, ⟨hk.1.2, ⟨hk.1.1.2.1, ⟨hk.1.1.2.2, hk.2⟩⟩⟩⟩)), (by (with_reducible repeat (first | apply Kd.N_alloc | apply Kd.N_drewN | apply Kd.N_drew)); exact Kd.N_mono HO418.out (fun _ hk => ⟨hk.1.1, ⟨hk.1.2.1, ⟨hk.1.2.2, hk.2⟩⟩⟩)), (by (with_reducible repeat (first | refine blk_drewN ?_ _ | refine blk_drew ?_ | refine blk_alloc ?_ _)); exact BK405.out), (by (with_reducible repeat (first | refine blk_drewN ?_ _ | refine blk_drew ?_ | refine blk_alloc ?_ _)); exact BK406.out), (by (with_reducible repeat (first | refine blk_drewN ?_ _ | refine blk_drew ?_ | refine blk_alloc ?_ _)); exact BK419.out), GW419.out, GE419.out, NB405_419.out, NB419_405.out, NB406_419.out, NB419_406.out, (by repeat (first | (with_reducible first | exact HB.out | apply below_alloc | apply pw_below_drewN | apply below_drew1 | refine below_set ?_ GE405.out | refine below_set ?_ GE406.out | refine below_set ?_ GE419.out) | exact HB.out))⟩)
                    · skip
                      refine box_step ?hg (N := 7) ?hd (cs := #[.slice none 0 0, .int .i64 0, .int .i64 0]) (t := 46) ?hr ?_; (case hd => rfl); (case hg => rfl); (case hr => first | (go_simp; done) | (go_simp; rfl))
                      intro gb419 hg w27 hbox hb
                      have n0_ := Aside0.mk (Kd.V_below (Kd.V_elderB (by (with_reducible repeat (first | apply Kd.V_alloc | apply Kd.V_drewN | apply Kd.V_drew)); exact HO0_0.out) gb419 (Nat.le_of_eq hg.symm)) hb)
                      have n1_ := Aside0.mk (Kd.V_below (Kd.V_elderB (by (with_reducible repeat (first | apply Kd.V_alloc | apply Kd.V_drewN | apply Kd.V_drew)); exact HO415.out) gb419 (Nat.le_of_eq hg.symm)) hb)
                      have n2_ := Aside0.mk (Kd.N_below (Kd.N_elderB (by (with_reducible repeat (first | apply Kd.N_alloc | apply Kd.N_drewN | apply Kd.N_drew)); exact HO410.out) gb419 (Nat.le_of_eq hg.symm)) hb)
                      have n3_ := Aside0.mk (blk_below (g := gb405) (o := .cells #[.slice A0_0 l0_0.length c0_0, .int .i64 a0_1, .int .i64 a0_2] 46 (0, 0)) (by (with_reducible repeat (first | refine blk_drewN ?_ _ | refine blk_drew ?_ | refine blk_alloc ?_ _)); exact BK405.out) hb)
                      have n4_ := Aside0.mk (blk_below (g := gb406) (o := .cells #[.slice none 0 0, .int .i64 0, .int .i64 0] 46 (0, 0)) (by (with_reducible repeat (first | refine blk_drewN ?_ _ | refine blk_drew ?_ | refine blk_alloc ?_ _)); exact BK406.out) hb)
                      have n5_ := Aside0.mk (below_step (by repeat (first | (with_reducible first | exact HB.out | apply below_alloc | apply pw_below_drewN | apply below_drew1 | refine below_set ?_ GE405.out | refine below_set ?_ GE406.out) | exact HB.out)) hb)
                      have n6_ := Aside0.mk (hbox)
                      have n7_ := Aside0.mk ((by rw [hg]; exact (below_size (by repeat (first | (with_reducible first | exact HB.out | apply below_alloc | apply pw_below_drewN | apply below_drew1 | refine below_set ?_ GE405.out | refine below_set ?_ GE406.out) | exact HB.out))) : w.heap.size ≤ gb419))
                      have n8_ := Aside0.mk ((by rw [hg]; exact (below_size (by repeat (first | (with_reducible first | exact HB.out | apply below_alloc | apply pw_below_drewN | apply below_drew1 | refine below_set ?_ GE405.out | refine below_set ?_ GE406.out) | exact HB.out))) : w.heap.size ≤ gb419))
                      have n9_ := Aside0.mk ((by rw [hg]; exact Nat.ne_of_lt (blk_lt (g := gb405) (o := .cells #[.slice A0_0 l0_0.length c0_0, .int .i64 a0_1, .int .i64 a0_2] 46 (0, 0)) (by (with_reducible repeat (first | refine blk_drewN ?_ _ | refine blk_drew ?_ | refine blk_alloc ?_ _)); exact BK405.out)) : gb405 ≠ gb419))
                      have n10_ := Aside0.mk ((by rw [hg]; exact Nat.ne_of_gt (blk_lt (g := gb405) (o := .cells #[.slice A0_0 l0_0.length c0_0, .int .i64 a0_1, .int .i64 a0_2] 46 (0, 0)) (by (with_reducible repeat (first | refine blk_drewN ?_ _ | refine blk_drew ?_ | refine blk_alloc ?_ _)); exact BK405.out)) : gb419 ≠ gb405))
                      have n11_ := Aside0.mk ((by rw [hg]; exact Nat.ne_of_lt (blk_lt (g := gb406) (o := .cells #[.slice none 0 0, .int .i64 0, .int .i64 0] 46 (0, 0)) (by (with_reducible repeat (first | refine blk_drewN ?_ _ | refine blk_drew ?_ | refine blk_alloc ?_ _)); exact BK406.out)) : gb406 ≠ gb419))
                      have n12_ := Aside0.mk ((by rw [hg]; exact Nat.ne_of_gt (blk_lt (g := gb406) (o := .cells #[.slice none 0 0, .int .i64 0, .int .i64 0] 46 (0, 0)) (by (with_reducible repeat (first | refine blk_drewN ?_ _ | refine blk_drew ?_ | refine blk_alloc ?_ _)); exact BK406.out)) : gb419 ≠ gb406))
                      clear HO0_0
                      clear HO415
                      clear HO410
                      clear BK405
                      clear BK406
                      clear HB
                      have HO0_0 := n0_
                      have HO415 := n1_
                      have HO410 := n2_
                      have BK405 := n3_
                      have BK406 := n4_
                      have HB := n5_
                      have BK419 := n6_
                      have GW419 := n7_
                      have GE419 := n8_
                      have NB405_419 := n9_
                      have NB419_405 := n10_
                      have NB406_419 := n11_
                      have NB419_406 := n12_
                      clear n0_ n1_ n2_ n3_ n4_ n5_ n6_ n7_ n8_ n9_ n10_ n11_ n12_
                      clear hb hbox hg
                      refine hK.out _ _ ⟨(blk_cell BK405.out 0).trans rfl, (blk_cell BK405.out 1).trans rfl, (blk_cell BK405.out 2).trans rfl⟩ (fun hHeld => ?_)
                      clear hK K
                      refine norm_ (a' := ?_) ?_ ?_
                      rotate_left
                      · show Act.put _ (some 7) _ = _
                        simp only [Act.put, List.setIfInBounds_toArray, List.set_cons_zero, List.set_cons_succ, i64_w, i32_w]
                        rfl
                      refine one_ (i := 5) (N := some 19) #[true, true, true, true, true, true, true, true, true, true, false, true, false] rfl rfl (one_of HT_.out (by kernel_rfl)) (by decide) (fun K hK => ?_)
                      refine Kd.N_append_rows_step k86 (w0 := w) w.heap.size (by rfl) (.tmp 14) (.tmp 18) 44 86 (.agg #[(.int .i64 0), (.slice none 0 0)]) 32 rfl Try.underlying44 info86 rfl (by decide) (by omega) v409 y408 y411 _ _ _ (fun k_ => (P0_0_ k_ ∨ w.heap.size ≤ k_) ∧ k_ ≠ gb405 ∧ k_ ≠ gb406 ∧ k_ ≠ gb419) (fun k_ => ((fun k_ => (P0_0_ k_ ∨ w.heap.size ≤ k_) ∧ k_ ≠ gb405 ∧ k_ ≠ gb406 ∧ k_ ≠ gb419)) k_ ∧ some k_ ≠ (v409 : Value).ownBlock) rfl rfl ?aO ?aR (fun _ hk => hk) ?aF ?aB ?aS ?aL ?_
                      (case aR => exact (by skip; exact Kd.V_F (Kd.V_mono (ok' := (fun k_ => ((fun k_ => (P0_0_ k_ ∨ w.heap.size ≤ k_) ∧ k_ ≠ gb405 ∧ k_ ≠ gb406 ∧ k_ ≠ gb419)) k_ ∧ some k_ ≠ (v409 : Value).ownBlock)) (HO415.out) (fun k_ hk => ⟨⟨hk.1.1.1.1, ⟨hk.1.1.1.2, ⟨hk.1.1.2, hk.2⟩⟩⟩, hk.1.2⟩))))
                      (case aB => exact (by repeat (first | (with_reducible first | exact HB.out | apply below_alloc | apply pw_below_drewN | apply below_drew1 | refine below_set ?_ GE405.out | refine below_set ?_ GE406.out | refine below_set ?_ GE419.out) | exact HB.out)))
                      (case aF => exact (fun k_ hk => ⟨(.inr (Nat.le_trans (below_size (by repeat (first | (with_reducible first | exact HB.out | apply below_alloc | apply pw_below_drewN | apply below_drew1 | refine below_set ?_ GE405.out | refine below_set ?_ GE406.out | refine below_set ?_ GE419.out) | exact HB.out))) hk)), Kd.freshB (g := gb405) (o := .cells #[.slice A0_0 l0_0.length c0_0, .int .i64 a0_1, .int .i64 a0_2] 46 (0, 0)) (by (with_reducible repeat (first | refine blk_drewN ?_ _ | refine blk_drew ?_ | refine blk_alloc ?_ _)); exact BK405.out) k_ hk, Kd.freshB (g := gb406) (o := .cells #[.slice none 0 0, .int .i64 0, .int .i64 0] 46 (0, 0)) (by (with_reducible repeat (first | refine blk_drewN ?_ _ | refine blk_drew ?_ | refine blk_alloc ?_ _)); exact BK406.out) k_ hk, Kd.freshB (g := gb419) (o := .cells #[.slice none 0 0, .int .i64 0, .int .i64 0] 46 (0, 0)) (by (with_reducible repeat (first | refine blk_drewN ?_ _ | refine blk_drew ?_ | refine blk_alloc ?_ _)); exact BK419.out) k_ hk⟩))
                      (case aO => exact (by (with_reducible repeat (first | apply Kd.N_alloc | apply Kd.N_drewN | apply Kd.N_drew)); exact Kd.N_mono HO410.out (fun _ hk => ⟨hk.1.1, ⟨hk.1.2.1, ⟨hk.1.2.2, hk.2⟩⟩⟩)))
                      (case aS => exact (below_size (by repeat (first | (with_reducible first | exact HB.out | apply below_alloc | apply pw_below_drewN | apply below_drew1 | refine below_set ?_ GE405.out | refine below_set ?_ GE406.out | refine below_set ?_ GE419.out) | exact HB.out))))
                      (case aL => have := LMc13.out; omega)
                      intro v417 w28 ho hb hg hat
                      rw [← Ny416.out] at ho
                      have n0_ := Aside0.mk (Kd.V_afterv (ok := (fun k_ => (P0_0_ k_ ∨ w.heap.size ≤ k_) ∧ k_ ≠ gb405 ∧ k_ ≠ gb406 ∧ k_ ≠ gb419)) (by (with_reducible repeat (first | apply Kd.V_alloc | apply Kd.V_drewN | apply Kd.V_drew)); exact Kd.V_mono HO0_0.out (fun _ hk => ⟨⟨hk.1.1.1.1, ⟨hk.1.1.1.2, ⟨hk.1.1.2, hk.2⟩⟩⟩, hk.1.2⟩)) hg hat)
                      have n1_ := Aside0.mk (blk_grown (g := gb405) (o := .cells #[.slice A0_0 l0_0.length c0_0, .int .i64 a0_1, .int .i64 a0_2] 46 (0, 0)) (by (with_reducible repeat (first | refine blk_drewN ?_ _ | refine blk_drew ?_ | refine blk_alloc ?_ _)); exact BK405.out) hg (Kd.N_ne HO410.out BK405.out (by decide)))
                      have n2_ := Aside0.mk (blk_grown (g := gb406) (o := .cells #[.slice none 0 0, .int .i64 0, .int .i64 0] 46 (0, 0)) (by (with_reducible repeat (first | refine blk_drewN ?_ _ | refine blk_drew ?_ | refine blk_alloc ?_ _)); exact BK406.out) hg (Kd.N_ne HO410.out BK406.out (by decide)))
                      have n3_ := Aside0.mk (Kd.V_afterv (ok := (fun k_ => (P0_0_ k_ ∨ w.heap.size ≤ k_) ∧ k_ ≠ gb405 ∧ k_ ≠ gb406 ∧ k_ ≠ gb419)) (by (with_reducible repeat (first | apply Kd.V_alloc | apply Kd.V_drewN | apply Kd.V_drew)); exact Kd.V_mono HO415.out (fun _ hk => ⟨⟨hk.1.1.1.1, ⟨hk.1.1.1.2, ⟨hk.1.1.2, hk.2⟩⟩⟩, hk.1.2⟩)) hg hat)
                      have n4_ := Aside0.mk (blk_grown (g := gb419) (o := .cells #[.slice none 0 0, .int .i64 0, .int .i64 0] 46 (0, 0)) (by (with_reducible repeat (first | refine blk_drewN ?_ _ | refine blk_drew ?_ | refine blk_alloc ?_ _)); exact BK419.out) hg (Kd.N_ne HO410.out BK419.out (by decide)))
                      have n5_ := Aside0.mk (hb)
                      have n6_ := Aside0.mk (ho)
                      clear HO0_0
                      clear BK405
                      clear BK406
                      clear HO415
                      clear BK419
                      clear HB
                      clear HO410
                      have HO0_0 := n0_
                      have BK405 := n1_
                      have BK406 := n2_
                      have HO415 := n3_
                      have BK419 := n4_
                      have HB := n5_
                      have HO418 := n6_
                      clear n0_ n1_ n2_ n3_ n4_ n5_ n6_
                      clear ho hb hg hat
                      obtain ⟨Ao29, co29, eo29⟩ := Kd.N_slice HO418.out
                      (first | subst eo29 | (injection eo29 with f1_ f2_ f3_; have f4_ := f1_.symm; have f5_ := f3_.symm; clear f1_ f2_ f3_; subst f4_; subst f5_))
                      refine hK.out _ _ ⟨(blk_cell BK405.out 0).trans rfl, (blk_cell BK405.out 1).trans rfl, (blk_cell BK405.out 2).trans rfl⟩ (fun hHeld => ?_)
                      clear hK K
                      refine norm_ (a' := ?_) ?_ ?_
                      rotate_left
                      · show Act.put _ (some 19) _ = _
                        simp only [Act.put, List.setIfInBounds_toArray, List.set_cons_zero, List.set_cons_succ, i64_w, i32_w]
                        rfl
                      refine pure_ (i := 10) (N := some 24) (v := ?_) (a' := ?_) #[true, true, true, true, true, true, true, true, true, true, true, true, false] rfl rfl (any_of HT_.out (by kernel_rfl)) (fun _ _ _ h => h) (Or.inl ⟨by rfl, ?_⟩) ?_ ?_
                      rotate_left
                      · intro w'
                        go_simp
                        with_reducible rfl
                      rotate_left
                      · simp only [Act.put, List.setIfInBounds_toArray, List.set_cons_zero, List.set_cons_succ, i64_w, i32_w]
                        rfl
                      exact norm_ (by simp only [putAll, Act.put, List.setIfInBounds_toArray, List.set_cons_zero, List.set_cons_succ]) (hCont (v409, .slice Ao29 y416.length co29, gb419) _ ⟨hHeld, (by (with_reducible repeat (first | apply Kd.V_alloc | apply Kd.V_drewN | apply Kd.V_drew)); exact Kd.V_mono HO0_0.out (fun _ hk => ⟨hk.1.1, ⟨hk.2, ⟨hk.1.2.1, ⟨hk.1.2.2.1, hk.1.2.2.2⟩⟩⟩⟩)), (by (with_reducible repeat (first | apply Kd.V_alloc | apply Kd.V_drewN | apply Kd.V_drew)); exact Kd.V_mono HO415.out (fun _ hk => ⟨hk.1.1, ⟨hk.2, ⟨hk.1.2.1, ⟨hk.1.2.2.1, hk.1.2.2.2⟩⟩⟩⟩)), (by (with_reducible repeat (first | apply Kd.N_alloc | apply Kd.N_drewN | apply Kd.N_drew)); exact HO418.out), (by (with_reducible repeat (first | refine blk_drewN ?_ _ | refine blk_drew ?_ | refine blk_alloc ?_ _)); exact BK405.out), (by (with_reducible repeat (first | refine blk_drewN ?_ _ | refine blk_drew ?_ | refine blk_alloc ?_ _)); exact BK406.out), (by (with_reducible repeat (first | refine blk_drewN ?_ _ | refine blk_drew ?_ | refine blk_alloc ?_ _)); exact BK419.out), GW419.out, GE419.out, NB405_419.out, NB419_405.out, NB406_419.out, NB419_406.out, (by repeat (first | (with_reducible first | exact HB.out | apply below_alloc | apply pw_below_drewN | apply below_drew1 | refine below_set ?_ GE405.out | refine below_set ?_ GE406.out | refine below_set ?_ GE419.out) | exact HB.out))⟩)
                  · skip
                    refine box_step ?hg (N := 7) ?hd (cs := #[.slice none 0 0, .int .i64 0, .int .i64 0]) (t := 46) ?hr ?_; (case hd => rfl); (case hg => rfl); (case hr => first | (go_simp; done) | (go_simp; rfl))
                    intro gb419 hg w25 hbox hb
                    have n0_ := Aside0.mk (Kd.V_below (Kd.V_elderB (by (with_reducible repeat (first | apply Kd.V_alloc | apply Kd.V_drewN | apply Kd.V_drew)); exact HO0_0.out) gb419 (Nat.le_of_eq hg.symm)) hb)
                    have n1_ := Aside0.mk (Kd.V_below (Kd.V_elderB (by (with_reducible repeat (first | apply Kd.V_alloc | apply Kd.V_drewN | apply Kd.V_drew)); exact HO415.out) gb419 (Nat.le_of_eq hg.symm)) hb)
                    have n2_ := Aside0.mk (blk_below (g := gb405) (o := .cells #[.slice A0_0 l0_0.length c0_0, .int .i64 a0_1, .int .i64 a0_2] 46 (0, 0)) (by (with_reducible repeat (first | refine blk_drewN ?_ _ | refine blk_drew ?_ | refine blk_alloc ?_ _)); exact BK405.out) hb)
                    have n3_ := Aside0.mk (blk_below (g := gb406) (o := .cells #[.slice none 0 0, .int .i64 0, .int .i64 0] 46 (0, 0)) (by (with_reducible repeat (first | refine blk_drewN ?_ _ | refine blk_drew ?_ | refine blk_alloc ?_ _)); exact BK406.out) hb)
                    have n4_ := Aside0.mk (below_step (by repeat (first | (with_reducible first | exact HB.out | apply below_alloc | apply pw_below_drewN | apply below_drew1 | refine below_set ?_ GE405.out | refine below_set ?_ GE406.out) | exact HB.out)) hb)
                    have n5_ := Aside0.mk (hbox)
                    have n6_ := Aside0.mk ((by rw [hg]; exact (below_size (by repeat (first | (with_reducible first | exact HB.out | apply below_alloc | apply pw_below_drewN | apply below_drew1 | refine below_set ?_ GE405.out | refine below_set ?_ GE406.out) | exact HB.out))) : w.heap.size ≤ gb419))
                    have n7_ := Aside0.mk ((by rw [hg]; exact (below_size (by repeat (first | (with_reducible first | exact HB.out | apply below_alloc | apply pw_below_drewN | apply below_drew1 | refine below_set ?_ GE405.out | refine below_set ?_ GE406.out) | exact HB.out))) : w.heap.size ≤ gb419))
                    have n8_ := Aside0.mk ((by rw [hg]; exact Nat.ne_of_lt (blk_lt (g := gb405) (o := .cells #[.slice A0_0 l0_0.length c0_0, .int .i64 a0_1, .int .i64 a0_2] 46 (0, 0)) (by (with_reducible repeat (first | refine blk_drewN ?_ _ | refine blk_drew ?_ | refine blk_alloc ?_ _)); exact BK405.out)) : gb405 ≠ gb419))
                    have n9_ := Aside0.mk ((by rw [hg]; exact Nat.ne_of_gt (blk_lt (g := gb405) (o := .cells #[.slice A0_0 l0_0.length c0_0, .int .i64 a0_1, .int .i64 a0_2] 46 (0, 0)) (by (with_reducible repeat (first | refine blk_drewN ?_ _ | refine blk_drew ?_ | refine blk_alloc ?_ _)); exact BK405.out)) : gb419 ≠ gb405))
                    have n10_ := Aside0.mk ((by rw [hg]; exact Nat.ne_of_lt (blk_lt (g := gb406) (o := .cells #[.slice none 0 0, .int .i64 0, .int .i64 0] 46 (0, 0)) (by (with_reducible repeat (first | refine blk_drewN ?_ _ | refine blk_drew ?_ | refine blk_alloc ?_ _)); exact BK406.out)) : gb406 ≠ gb419))
                    have n11_ := Aside0.mk ((by rw [hg]; exact Nat.ne_of_gt (blk_lt (g := gb406) (o := .cells #[.slice none 0 0, .int .i64 0, .int .i64 0] 46 (0, 0)) (by (with_reducible repeat (first | refine blk_drewN ?_ _ | refine blk_drew ?_ | refine blk_alloc ?_ _)); exact BK406.out)) : gb419 ≠ gb406))
                    clear HO0_0
                    clear HO415
                    clear BK405
                    clear BK406
                    clear HB
                    have HO0_0 := n0_
                    have HO415 := n1_
                    have BK405 := n2_
                    have BK406 := n3_
                    have HB := n4_
                    have BK419 := n5_
                    have GW419 := n6_
                    have GE419 := n7_
                    have NB405_419 := n8_
                    have NB419_405 := n9_
                    have NB406_419 := n10_
                    have NB419_406 := n11_
                    clear n0_ n1_ n2_ n3_ n4_ n5_ n6_ n7_ n8_ n9_ n10_ n11_
                    clear hb hbox hg
                    refine hK.out _ _ ⟨(blk_cell BK405.out 0).trans rfl, (blk_cell BK405.out 1).trans rfl, (blk_cell BK405.out 2).trans rfl⟩ (fun hHeld => ?_)
                    clear hK K
                    refine norm_ (a' := ?_) ?_ ?_
                    rotate_left
                    · show Act.put _ (some 7) _ = _
                      simp only [Act.put, List.setIfInBounds_toArray, List.set_cons_zero, List.set_cons_succ, i64_w, i32_w]
                      rfl
                    refine one_ (i := 0) (N := some 14) #[true, true, true, true, true, false, true, true, true, true, false, true, false] rfl rfl (one_of HT_.out (by kernel_rfl)) (by decide) (fun K hK => ?_)
                    refine Kd.N_lit_step k86 _ 86 ?hg (N' := 14) ?hd (xs := ([] : List (S86))) (inner := []) (ok := (fun k_ => (P0_0_ k_ ∨ w.heap.size ≤ k_) ∧ k_ ≠ gb405 ∧ k_ ≠ gb406 ∧ k_ ≠ gb419)) (okp := (fun k_ => (P0_0_ k_ ∨ w.heap.size ≤ k_) ∧ k_ ≠ gb405 ∧ k_ ≠ gb406 ∧ k_ ≠ gb419)) ?hr ?hp (fun _ hk => hk) ((show ∀ k_, w25.heap.size ≤ k_ → (fun k_ => (P0_0_ k_ ∨ w.heap.size ≤ k_) ∧ k_ ≠ gb405 ∧ k_ ≠ gb406 ∧ k_ ≠ gb419) k_ from fun k_ hk => ⟨(.inr (Nat.le_trans (below_size (by repeat (first | (with_reducible first | exact HB.out | apply below_alloc | apply pw_below_drewN | apply below_drew1 | refine below_set ?_ GE405.out | refine below_set ?_ GE406.out | refine below_set ?_ GE419.out) | exact HB.out))) hk)), Kd.freshB (g := gb405) (o := .cells #[.slice A0_0 l0_0.length c0_0, .int .i64 a0_1, .int .i64 a0_2] 46 (0, 0)) (by (with_reducible repeat (first | refine blk_drewN ?_ _ | refine blk_drew ?_ | refine blk_alloc ?_ _)); exact BK405.out) k_ hk, Kd.freshB (g := gb406) (o := .cells #[.slice none 0 0, .int .i64 0, .int .i64 0] 46 (0, 0)) (by (with_reducible repeat (first | refine blk_drewN ?_ _ | refine blk_drew ?_ | refine blk_alloc ?_ _)); exact BK406.out) k_ hk, Kd.freshB (g := gb419) (o := .cells #[.slice none 0 0, .int .i64 0, .int .i64 0] 46 (0, 0)) (by (with_reducible repeat (first | refine blk_drewN ?_ _ | refine blk_drew ?_ | refine blk_alloc ?_ _)); exact BK419.out) k_ hk⟩) _ (Nat.le_refl _)) (Below.refl _ _) (Nat.le_refl _) (by simp) ?_; (case hd => rfl); (case hg => rfl); (case hr => first | (go_simp; done) | (go_simp; rfl)); (case hp => exact (Reps.none _ _))
                    intro v409 w26 ho27 hb hg_ hnew_
                    clear hg_ hnew_
                    (first | rw [← Ny408.out] at ho27 | (simp only [Int.reduceToNat] at ho27; rw [← Ny408.out] at ho27))
                    have n0_ := Aside0.mk (Kd.V_elder' (by (with_reducible repeat (first | apply Kd.V_alloc | apply Kd.V_drewN | apply Kd.V_drew)); exact HO0_0.out) (Kd.N_base ho27) hb)
                    have n1_ := Aside0.mk (Kd.V_elder' (by (with_reducible repeat (first | apply Kd.V_alloc | apply Kd.V_drewN | apply Kd.V_drew)); exact HO415.out) (Kd.N_base ho27) hb)
                    have n2_ := Aside0.mk (Kd.N_lower ho27 (below_size (by repeat (first | (with_reducible first | exact HB.out | apply below_alloc | apply pw_below_drewN | apply below_drew1 | refine below_set ?_ GE405.out | refine below_set ?_ GE406.out | refine below_set ?_ GE419.out) | exact HB.out))))
                    have n3_ := Aside0.mk (blk_below (g := gb405) (o := .cells #[.slice A0_0 l0_0.length c0_0, .int .i64 a0_1, .int .i64 a0_2] 46 (0, 0)) (by (with_reducible repeat (first | refine blk_drewN ?_ _ | refine blk_drew ?_ | refine blk_alloc ?_ _)); exact BK405.out) hb)
                    have n4_ := Aside0.mk (blk_below (g := gb406) (o := .cells #[.slice none 0 0, .int .i64 0, .int .i64 0] 46 (0, 0)) (by (with_reducible repeat (first | refine blk_drewN ?_ _ | refine blk_drew ?_ | refine blk_alloc ?_ _)); exact BK406.out) hb)
                    have n5_ := Aside0.mk (blk_below (g := gb419) (o := .cells #[.slice none 0 0, .int .i64 0, .int .i64 0] 46 (0, 0)) (by (with_reducible repeat (first | refine blk_drewN ?_ _ | refine blk_drew ?_ | refine blk_alloc ?_ _)); exact BK419.out) hb)
                    have n6_ := Aside0.mk (below_step (by repeat (first | (with_reducible first | exact HB.out | apply below_alloc | apply pw_below_drewN | apply below_drew1 | refine below_set ?_ GE405.out | refine below_set ?_ GE406.out | refine below_set ?_ GE419.out) | exact HB.out)) hb)
                    clear HO0_0
                    clear HO415
                    clear BK405
                    clear BK406
                    clear BK419
                    clear HB
                    have HO0_0 := n0_
                    have HO415 := n1_
                    have HO410 := n2_
                    have BK405 := n3_
                    have BK406 := n4_
                    have BK419 := n5_
                    have HB := n6_
                    clear n0_ n1_ n2_ n3_ n4_ n5_ n6_
                    clear hb ho27
                    refine hK.out _ _ ⟨(blk_cell BK405.out 0).trans rfl, (blk_cell BK405.out 1).trans rfl, (blk_cell BK405.out 2).trans rfl⟩ (fun hHeld => ?_)
                    clear hK K
                    refine norm_ (a' := ?_) ?_ ?_
                    rotate_left
                    · show Act.put _ (some 14) _ = _
                      simp only [Act.put, List.setIfInBounds_toArray, List.set_cons_zero, List.set_cons_succ, i64_w, i32_w]
                      rfl
                    refine one_ (i := 5) (N := some 19) #[true, true, true, true, true, true, true, true, true, true, false, true, false] rfl rfl (one_of HT_.out (by kernel_rfl)) (by decide) (fun K hK => ?_)
                    refine Kd.N_append_rows_step k86 (w0 := w) w.heap.size (by rfl) (.tmp 14) (.tmp 18) 44 86 (.agg #[(.int .i64 0), (.slice none 0 0)]) 32 rfl Try.underlying44 info86 rfl (by decide) (by omega) v409 y408 y411 _ _ _ (fun k_ => (P0_0_ k_ ∨ w.heap.size ≤ k_) ∧ k_ ≠ gb405 ∧ k_ ≠ gb406 ∧ k_ ≠ gb419) (fun k_ => ((fun k_ => (P0_0_ k_ ∨ w.heap.size ≤ k_) ∧ k_ ≠ gb405 ∧ k_ ≠ gb406 ∧ k_ ≠ gb419)) k_ ∧ some k_ ≠ (v409 : Value).ownBlock) rfl rfl ?aO ?aR (fun _ hk => hk) ?aF ?aB ?aS ?aL ?_
                    (case aR => exact (by skip; exact Kd.V_F (Kd.V_mono (ok' := (fun k_ => ((fun k_ => (P0_0_ k_ ∨ w.heap.size ≤ k_) ∧ k_ ≠ gb405 ∧ k_ ≠ gb406 ∧ k_ ≠ gb419)) k_ ∧ some k_ ≠ (v409 : Value).ownBlock)) (HO415.out) (fun k_ hk => ⟨⟨hk.1.1.1.1, ⟨hk.1.1.1.2, ⟨hk.1.1.2, hk.1.2⟩⟩⟩, hk.2⟩))))
                    (case aB => exact (by repeat (first | (with_reducible first | exact HB.out | apply below_alloc | apply pw_below_drewN | apply below_drew1 | refine below_set ?_ GE405.out | refine below_set ?_ GE406.out | refine below_set ?_ GE419.out) | exact HB.out)))
                    (case aF => exact (fun k_ hk => ⟨(.inr (Nat.le_trans (below_size (by repeat (first | (with_reducible first | exact HB.out | apply below_alloc | apply pw_below_drewN | apply below_drew1 | refine below_set ?_ GE405.out | refine below_set ?_ GE406.out | refine below_set ?_ GE419.out) | exact HB.out))) hk)), Kd.freshB (g := gb405) (o := .cells #[.slice A0_0 l0_0.length c0_0, .int .i64 a0_1, .int .i64 a0_2] 46 (0, 0)) (by (with_reducible repeat (first | refine blk_drewN ?_ _ | refine blk_drew ?_ | refine blk_alloc ?_ _)); exact BK405.out) k_ hk, Kd.freshB (g := gb406) (o := .cells #[.slice none 0 0, .int .i64 0, .int .i64 0] 46 (0, 0)) (by (with_reducible repeat (first | refine blk_drewN ?_ _ | refine blk_drew ?_ | refine blk_alloc ?_ _)); exact BK406.out) k_ hk, Kd.freshB (g := gb419) (o := .cells #[.slice none 0 0, .int .i64 0, .int .i64 0] 46 (0, 0)) (by (with_reducible repeat (first | refine blk_drewN ?_ _ | refine blk_drew ?_ | refine blk_alloc ?_ _)); exact BK419.out) k_ hk⟩))
                    (case aO => exact (by (with_reducible repeat (first | apply Kd.N_alloc | apply Kd.N_drewN | apply Kd.N_drew)); exact HO410.out))
                    (case aS => exact (below_size (by repeat (first | (with_reducible first | exact HB.out | apply below_alloc | apply pw_below_drewN | apply below_drew1 | refine below_set ?_ GE405.out | refine below_set ?_ GE406.out | refine below_set ?_ GE419.out) | exact HB.out))))
                    (case aL => have := LMc13.out; omega)
                    intro v417 w28 ho hb hg hat
                    rw [← Ny416.out] at ho
                    have n0_ := Aside0.mk (Kd.V_afterv (ok := (fun k_ => (P0_0_ k_ ∨ w.heap.size ≤ k_) ∧ k_ ≠ gb405 ∧ k_ ≠ gb406 ∧ k_ ≠ gb419)) (by (with_reducible repeat (first | apply Kd.V_alloc | apply Kd.V_drewN | apply Kd.V_drew)); exact Kd.V_mono HO0_0.out (fun _ hk => ⟨⟨hk.1.1.1.1, ⟨hk.1.1.1.2, ⟨hk.1.1.2, hk.1.2⟩⟩⟩, hk.2⟩)) hg hat)
                    have n1_ := Aside0.mk (blk_grown (g := gb405) (o := .cells #[.slice A0_0 l0_0.length c0_0, .int .i64 a0_1, .int .i64 a0_2] 46 (0, 0)) (by (with_reducible repeat (first | refine blk_drewN ?_ _ | refine blk_drew ?_ | refine blk_alloc ?_ _)); exact BK405.out) hg (Kd.N_ne HO410.out BK405.out (by decide)))
                    have n2_ := Aside0.mk (blk_grown (g := gb406) (o := .cells #[.slice none 0 0, .int .i64 0, .int .i64 0] 46 (0, 0)) (by (with_reducible repeat (first | refine blk_drewN ?_ _ | refine blk_drew ?_ | refine blk_alloc ?_ _)); exact BK406.out) hg (Kd.N_ne HO410.out BK406.out (by decide)))
                    have n3_ := Aside0.mk (Kd.V_afterv (ok := (fun k_ => (P0_0_ k_ ∨ w.heap.size ≤ k_) ∧ k_ ≠ gb405 ∧ k_ ≠ gb406 ∧ k_ ≠ gb419)) (by (with_reducible repeat (first | apply Kd.V_alloc | apply Kd.V_drewN | apply Kd.V_drew)); exact Kd.V_mono HO415.out (fun _ hk => ⟨⟨hk.1.1.1.1, ⟨hk.1.1.1.2, ⟨hk.1.1.2, hk.1.2⟩⟩⟩, hk.2⟩)) hg hat)
                    have n4_ := Aside0.mk (blk_grown (g := gb419) (o := .cells #[.slice none 0 0, .int .i64 0, .int .i64 0] 46 (0, 0)) (by (with_reducible repeat (first | refine blk_drewN ?_ _ | refine blk_drew ?_ | refine blk_alloc ?_ _)); exact BK419.out) hg (Kd.N_ne HO410.out BK419.out (by decide)))
                    have n5_ := Aside0.mk (hb)
                    have n6_ := Aside0.mk (ho)
                    clear HO0_0
                    clear BK405
                    clear BK406
                    clear HO415
                    clear BK419
                    clear HB
                    clear HO410
                    have HO0_0 := n0_
                    have BK405 := n1_
                    have BK406 := n2_
                    have HO415 := n3_
                    have BK419 := n4_
                    have HB := n5_
                    have HO418 := n6_
                    clear n0_ n1_ n2_ n3_ n4_ n5_ n6_
                    clear ho hb hg hat
                    obtain ⟨Ao29, co29, eo29⟩ := Kd.N_slice HO418.out
                    (first | subst eo29 | (injection eo29 with f1_ f2_ f3_; have f4_ := f1_.symm; have f5_ := f3_.symm; clear f1_ f2_ f3_; subst f4_; subst f5_))
                    refine hK.out _ _ ⟨(blk_cell BK405.out 0).trans rfl, (blk_cell BK405.out 1).trans rfl, (blk_cell BK405.out 2).trans rfl⟩ (fun hHeld => ?_)
                    clear hK K
                    refine norm_ (a' := ?_) ?_ ?_
                    rotate_left
                    · show Act.put _ (some 19) _ = _
                      simp only [Act.put, List.setIfInBounds_toArray, List.set_cons_zero, List.set_cons_succ, i64_w, i32_w]
                      rfl
                    refine pure_ (i := 10) (N := some 24) (v := ?_) (a' := ?_) #[true, true, true, true, true, true, true, true, true, true, true, true, false] rfl rfl (any_of HT_.out (by kernel_rfl)) (fun _ _ _ h => h) (Or.inl ⟨by rfl, ?_⟩) ?_ ?_
                    rotate_left
                    · intro w'
                      go_simp
                      with_reducible rfl
                    rotate_left
                    · simp only [Act.put, List.setIfInBounds_toArray, List.set_cons_zero, List.set_cons_succ, i64_w, i32_w]
                      rfl
                    exact norm_ (by simp only [putAll, Act.put, List.setIfInBounds_toArray, List.set_cons_zero, List.set_cons_succ]) (hCont (v409, .slice Ao29 y416.length co29, gb419) _ ⟨hHeld, (by (with_reducible repeat (first | apply Kd.V_alloc | apply Kd.V_drewN | apply Kd.V_drew)); exact Kd.V_mono HO0_0.out (fun _ hk => ⟨hk.1.1, ⟨hk.2, ⟨hk.1.2.1, ⟨hk.1.2.2.1, hk.1.2.2.2⟩⟩⟩⟩)), (by (with_reducible repeat (first | apply Kd.V_alloc | apply Kd.V_drewN | apply Kd.V_drew)); exact Kd.V_mono HO415.out (fun _ hk => ⟨hk.1.1, ⟨hk.2, ⟨hk.1.2.1, ⟨hk.1.2.2.1, hk.1.2.2.2⟩⟩⟩⟩)), (by (with_reducible repeat (first | apply Kd.N_alloc | apply Kd.N_drewN | apply Kd.N_drew)); exact HO418.out), (by (with_reducible repeat (first | refine blk_drewN ?_ _ | refine blk_drew ?_ | refine blk_alloc ?_ _)); exact BK405.out), (by (with_reducible repeat (first | refine blk_drewN ?_ _ | refine blk_drew ?_ | refine blk_alloc ?_ _)); exact BK406.out), (by (with_reducible repeat (first | refine blk_drewN ?_ _ | refine blk_drew ?_ | refine blk_alloc ?_ _)); exact BK419.out), GW419.out, GE419.out, NB405_419.out, NB419_405.out, NB406_419.out, NB419_406.out, (by repeat (first | (with_reducible first | exact HB.out | apply below_alloc | apply pw_below_drewN | apply below_drew1 | refine below_set ?_ GE405.out | refine below_set ?_ GE406.out | refine below_set ?_ GE419.out) | exact HB.out))⟩)
                rintro ⟨v409, v417, gb419⟩ w30 ⟨hS_, h0_, h1_, h2_, h3_, h4_, h5_, h6_, h7_, h8_, h9_, h10_, h11_, h12_⟩
                have n0_ : Aside0 (Kd.V k86 86 w30 w.heap.size (fun k_ => (P0_0_ k_ ∨ w.heap.size ≤ k_) ∧ some k_ ≠ (v417 : Value).ownBlock ∧ k_ ≠ gb405 ∧ k_ ≠ gb406 ∧ k_ ≠ gb419) (.slice A0_0 l0_0.length c0_0) l0_0) := ⟨h0_⟩
                have n1_ : Aside0 (Kd.V k86 86 w30 w.heap.size (fun k_ => (P0_0_ k_ ∨ w.heap.size ≤ k_) ∧ some k_ ≠ (v417 : Value).ownBlock ∧ k_ ≠ gb405 ∧ k_ ≠ gb406 ∧ k_ ≠ gb419) (.slice A0_0 y411.length c0_0) y411) := ⟨h1_⟩
                have n2_ : Aside0 (Kd.N k86 86 w30 w.heap.size (fun k_ => (P0_0_ k_ ∨ w.heap.size ≤ k_) ∧ k_ ≠ gb405 ∧ k_ ≠ gb406 ∧ k_ ≠ gb419) v417 y416) := ⟨h2_⟩
                have n3_ : Aside0 (w30.heap[gb405]? = some (.cells #[.slice A0_0 l0_0.length c0_0, .int .i64 a0_1, .int .i64 a0_2] 46 (0, 0))) := ⟨h3_⟩
                have n4_ : Aside0 (w30.heap[gb406]? = some (.cells #[.slice none 0 0, .int .i64 0, .int .i64 0] 46 (0, 0))) := ⟨h4_⟩
                have n5_ : Aside0 (w30.heap[gb419]? = some (.cells #[.slice none 0 0, .int .i64 0, .int .i64 0] 46 (0, 0))) := ⟨h5_⟩
                have n6_ : Aside0 (w.heap.size ≤ gb419) := ⟨h6_⟩
                have n7_ : Aside0 (w.heap.size ≤ gb419) := ⟨h7_⟩
                have n8_ : Aside0 (gb405 ≠ gb419) := ⟨h8_⟩
                have n9_ : Aside0 (gb419 ≠ gb405) := ⟨h9_⟩
                have n10_ : Aside0 (gb406 ≠ gb419) := ⟨h10_⟩
                have n11_ : Aside0 (gb419 ≠ gb406) := ⟨h11_⟩
                have n12_ : Aside0 (Below w.heap.size w w30) := ⟨h12_⟩
                clear HO0_0
                clear BK405
                clear BK406
                clear HB
                clear h0_ h1_ h2_ h3_ h4_ h5_ h6_ h7_ h8_ h9_ h10_ h11_ h12_
                have HO0_0 := n0_
                have HO415 := n1_
                have HO418 := n2_
                have BK405 := n3_
                have BK406 := n4_
                have BK419 := n5_
                have GW419 := n6_
                have GE419 := n7_
                have NB405_419 := n8_
                have NB419_405 := n9_
                have NB406_419 := n10_
                have NB419_406 := n11_
                have HB := n12_
                clear n0_ n1_ n2_ n3_ n4_ n5_ n6_ n7_ n8_ n9_ n10_ n11_ n12_
                have hHeld : w30.cell? ⟨gb405, 0, none⟩ = some (.slice A0_0 l0_0.length c0_0) ∧ w30.cell? ⟨gb405, 1, none⟩ = some (.int .i64 a0_1) ∧ w30.cell? ⟨gb405, 2, none⟩ = some (.int .i64 a0_2) := hS_
                obtain ⟨Ao31, co31, eo31⟩ := Kd.N_slice HO418.out
                (first | subst eo31 | (injection eo31 with f1_ f2_ f3_; have f4_ := f1_.symm; have f5_ := f3_.symm; clear f1_ f2_ f3_; subst f4_; subst f5_))
                refine norm_ (a' := ?_) ?_ ?_
                rotate_left
                · simp only [putAll, Act.put, List.setIfInBounds_toArray, List.set_cons_zero, List.set_cons_succ]
                  rfl
                refine one_ (i := 12) (N := none) #[true, true, true, true, true, true, true, true, true, true, true, true, true] rfl rfl (one_of HT_.out (by kernel_rfl)) (by decide) (fun K hK => ?_)
                have hs32 : w30.cell? ⟨gb419, 0, none⟩ = some (.slice none 0 0) := (blk_cell BK419.out 0).trans rfl
                have hfs32 := blk_frozen BK419.out 0
                have hns32_0 := NB405_419.out
                have hns32_1 := NB406_419.out
                have hms32_0 := NB419_405.out
                have hms32_1 := NB419_406.out
                have hs33 : w30.cell? ⟨gb419, 1, none⟩ = some (.int .i64 0) := (blk_cell BK419.out 1).trans rfl
                have hfs33 := blk_frozen BK419.out 1
                have hns33_0 := NB405_419.out
                have hns33_1 := NB406_419.out
                have hms33_0 := NB419_405.out
                have hms33_1 := NB419_406.out
                have hs34 : w30.cell? ⟨gb419, 2, none⟩ = some (.int .i64 0) := (blk_cell BK419.out 2).trans rfl
                have hfs34 := blk_frozen BK419.out 2
                have hns34_0 := NB405_419.out
                have hns34_1 := NB406_419.out
                have hms34_0 := NB419_405.out
                have hms34_1 := NB419_406.out
                refine skip_ (w1 := ?_) (by rfl) rfl ?_ ?_
                rotate_left
                · go_simp
                  rfl
                refine hK.out _ _ ⟨((cell_far (p := ⟨gb419, _, none⟩) NB405_419.out _).trans (((cell_far (p := ⟨gb419, _, none⟩) NB405_419.out _).trans (((cell_far (p := ⟨gb419, _, none⟩) NB405_419.out _).trans (hHeld.1)))))), ((cell_far (p := ⟨gb419, _, none⟩) NB405_419.out _).trans (((cell_far (p := ⟨gb419, _, none⟩) NB405_419.out _).trans (((cell_far (p := ⟨gb419, _, none⟩) NB405_419.out _).trans (hHeld.2.1)))))), ((cell_far (p := ⟨gb419, _, none⟩) NB405_419.out _).trans (((cell_far (p := ⟨gb419, _, none⟩) NB405_419.out _).trans (((cell_far (p := ⟨gb419, _, none⟩) NB405_419.out _).trans (hHeld.2.2))))))⟩ (fun hHeld => ?_)
                clear hK K
                refine done_ (done_of HT_.out (by kernel_rfl)) ?_
                try go_wp2
                have n0_ : Aside0 (Kd.V k86 86 (((w30.setCell ⟨gb419, 0, none⟩ (.slice Ao31 y416.length co31)).setCell ⟨gb419, 1, none⟩ (.int .i64 a0_1)).setCell ⟨gb419, 2, none⟩ (.int .i64 a0_2)) w.heap.size (fun k_ => (P0_0_ k_ ∨ w.heap.size ≤ k_) ∧ some k_ ≠ (.slice Ao31 y416.length co31 : Value).ownBlock ∧ k_ ≠ gb405 ∧ k_ ≠ gb406 ∧ k_ ≠ gb419) (.slice A0_0 l0_0.length c0_0) l0_0) := ⟨by (with_reducible repeat (first | apply Kd.V_alloc | apply Kd.V_drewN | apply Kd.V_drew)); exact Kd.V_mono (Kd.V_far (p := ⟨gb419, 2, none⟩) (Kd.V_far (p := ⟨gb419, 1, none⟩) (Kd.V_far (p := ⟨gb419, 0, none⟩) (Kd.V_mono HO0_0.out (fun k_ hk => (⟨hk, hk.2.2.2.2⟩ : _ ∧ k_ ≠ gb419))) (fun _ hk => hk.2) (.slice Ao31 y416.length co31)) (fun _ hk => hk.2) (.int .i64 a0_1)) (fun _ hk => hk.2) (.int .i64 a0_2)) (fun _ hk => ⟨hk.1.1, ⟨hk.1.2.1, ⟨hk.1.2.2.1, ⟨hk.1.2.2.2.1, hk.1.2.2.2.2⟩⟩⟩⟩)⟩
                have n1_ : Aside0 (Kd.V k86 86 (((w30.setCell ⟨gb419, 0, none⟩ (.slice Ao31 y416.length co31)).setCell ⟨gb419, 1, none⟩ (.int .i64 a0_1)).setCell ⟨gb419, 2, none⟩ (.int .i64 a0_2)) w.heap.size (fun k_ => (P0_0_ k_ ∨ w.heap.size ≤ k_) ∧ some k_ ≠ (.slice Ao31 y416.length co31 : Value).ownBlock ∧ k_ ≠ gb405 ∧ k_ ≠ gb406 ∧ k_ ≠ gb419) (.slice A0_0 y411.length c0_0) y411) := ⟨by (with_reducible repeat (first | apply Kd.V_alloc | apply Kd.V_drewN | apply Kd.V_drew)); exact Kd.V_mono (Kd.V_far (p := ⟨gb419, 2, none⟩) (Kd.V_far (p := ⟨gb419, 1, none⟩) (Kd.V_far (p := ⟨gb419, 0, none⟩) (Kd.V_mono HO415.out (fun k_ hk => (⟨hk, hk.2.2.2.2⟩ : _ ∧ k_ ≠ gb419))) (fun _ hk => hk.2) (.slice Ao31 y416.length co31)) (fun _ hk => hk.2) (.int .i64 a0_1)) (fun _ hk => hk.2) (.int .i64 a0_2)) (fun _ hk => ⟨hk.1.1, ⟨hk.1.2.1, ⟨hk.1.2.2.1, ⟨hk.1.2.2.2.1, hk.1.2.2.2.2⟩⟩⟩⟩)⟩
                have n2_ : Aside0 (Kd.N k86 86 (((w30.setCell ⟨gb419, 0, none⟩ (.slice Ao31 y416.length co31)).setCell ⟨gb419, 1, none⟩ (.int .i64 a0_1)).setCell ⟨gb419, 2, none⟩ (.int .i64 a0_2)) w.heap.size (fun k_ => (P0_0_ k_ ∨ w.heap.size ≤ k_) ∧ k_ ≠ gb405 ∧ k_ ≠ gb406 ∧ k_ ≠ gb419) (.slice Ao31 y416.length co31) y416) := ⟨by (with_reducible repeat (first | apply Kd.N_alloc | apply Kd.N_drewN | apply Kd.N_drew)); exact Kd.N_mono (Kd.N_far (p := ⟨gb419, 2, none⟩) (Kd.N_far (p := ⟨gb419, 1, none⟩) (Kd.N_far (p := ⟨gb419, 0, none⟩) (Kd.N_mono HO418.out (fun k_ hk => (⟨hk, hk.2.2.2⟩ : _ ∧ k_ ≠ gb419))) (fun _ hk => hk.2) (.slice Ao31 y416.length co31)) (fun _ hk => hk.2) (.int .i64 a0_1)) (fun _ hk => hk.2) (.int .i64 a0_2)) (fun _ hk => ⟨hk.1.1, ⟨hk.1.2.1, ⟨hk.1.2.2.1, hk.1.2.2.2⟩⟩⟩)⟩
                have n3_ : Aside0 ((((w30.setCell ⟨gb419, 0, none⟩ (.slice Ao31 y416.length co31)).setCell ⟨gb419, 1, none⟩ (.int .i64 a0_1)).setCell ⟨gb419, 2, none⟩ (.int .i64 a0_2)).heap[gb405]? = some (.cells #[.slice A0_0 l0_0.length c0_0, .int .i64 a0_1, .int .i64 a0_2] 46 (0, 0))) := ⟨by (with_reducible repeat (first | refine blk_drewN ?_ _ | refine blk_drew ?_ | refine blk_alloc ?_ _)); refine blk_far ?_ NB405_419.out _; (with_reducible repeat (first | refine blk_drewN ?_ _ | refine blk_drew ?_ | refine blk_alloc ?_ _)); refine blk_far ?_ NB405_419.out _; (with_reducible repeat (first | refine blk_drewN ?_ _ | refine blk_drew ?_ | refine blk_alloc ?_ _)); refine blk_far ?_ NB405_419.out _; (with_reducible repeat (first | refine blk_drewN ?_ _ | refine blk_drew ?_ | refine blk_alloc ?_ _)); exact BK405.out⟩
                have n4_ : Aside0 ((((w30.setCell ⟨gb419, 0, none⟩ (.slice Ao31 y416.length co31)).setCell ⟨gb419, 1, none⟩ (.int .i64 a0_1)).setCell ⟨gb419, 2, none⟩ (.int .i64 a0_2)).heap[gb406]? = some (.cells #[.slice none 0 0, .int .i64 0, .int .i64 0] 46 (0, 0))) := ⟨by (with_reducible repeat (first | refine blk_drewN ?_ _ | refine blk_drew ?_ | refine blk_alloc ?_ _)); refine blk_far ?_ NB406_419.out _; (with_reducible repeat (first | refine blk_drewN ?_ _ | refine blk_drew ?_ | refine blk_alloc ?_ _)); refine blk_far ?_ NB406_419.out _; (with_reducible repeat (first | refine blk_drewN ?_ _ | refine blk_drew ?_ | refine blk_alloc ?_ _)); refine blk_far ?_ NB406_419.out _; (with_reducible repeat (first | refine blk_drewN ?_ _ | refine blk_drew ?_ | refine blk_alloc ?_ _)); exact BK406.out⟩
                have n5_ : Aside0 ((((w30.setCell ⟨gb419, 0, none⟩ (.slice Ao31 y416.length co31)).setCell ⟨gb419, 1, none⟩ (.int .i64 a0_1)).setCell ⟨gb419, 2, none⟩ (.int .i64 a0_2)).heap[gb419]? = some (.cells #[.slice Ao31 y416.length co31, .int .i64 a0_1, .int .i64 a0_2] 46 (0, 0))) := ⟨by (with_reducible repeat (first | refine blk_drewN ?_ _ | refine blk_drew ?_ | refine blk_alloc ?_ _)); refine blk_put (cs := #[.slice Ao31 y416.length co31, .int .i64 a0_1, .int .i64 0]) ?_ 2 _ rfl; (with_reducible repeat (first | refine blk_drewN ?_ _ | refine blk_drew ?_ | refine blk_alloc ?_ _)); refine blk_put (cs := #[.slice Ao31 y416.length co31, .int .i64 0, .int .i64 0]) ?_ 1 _ rfl; (with_reducible repeat (first | refine blk_drewN ?_ _ | refine blk_drew ?_ | refine blk_alloc ?_ _)); refine blk_put (cs := #[.slice none 0 0, .int .i64 0, .int .i64 0]) ?_ 0 _ rfl; (with_reducible repeat (first | refine blk_drewN ?_ _ | refine blk_drew ?_ | refine blk_alloc ?_ _)); exact BK419.out⟩
                have n6_ : Aside0 (Below w.heap.size w (((w30.setCell ⟨gb419, 0, none⟩ (.slice Ao31 y416.length co31)).setCell ⟨gb419, 1, none⟩ (.int .i64 a0_1)).setCell ⟨gb419, 2, none⟩ (.int .i64 a0_2))) := ⟨by repeat (first | (with_reducible first | exact HB.out | apply below_alloc | apply pw_below_drewN | apply below_drew1 | refine below_set ?_ GE405.out | refine below_set ?_ GE406.out | refine below_set ?_ GE419.out) | exact HB.out)⟩
                (try clear HO0_0)
                (try clear HO415)
                (try clear HO418)
                (try clear BK405)
                (try clear BK406)
                (try clear BK419)
                (try clear HB)
                generalize (((w30.setCell ⟨gb419, 0, none⟩ (.slice Ao31 y416.length co31)).setCell ⟨gb419, 1, none⟩ (.int .i64 a0_1)).setCell ⟨gb419, 2, none⟩ (.int .i64 a0_2)) = w35 at n0_ n1_ n2_ n3_ n4_ n5_ n6_ ⊢
                have HO0_0 := n0_
                have HO415 := n1_
                have HO418 := n2_
                have BK405 := n3_
                have BK406 := n4_
                have BK419 := n5_
                have HB := n6_
                clear n0_ n1_ n2_ n3_ n4_ n5_ n6_
                have n0_ := Aside0.mk (Kd.V_drew HO0_0.out)
                have n1_ := Aside0.mk (Kd.V_drew HO415.out)
                have n2_ := Aside0.mk (Kd.N_drew HO418.out)
                have n3_ := Aside0.mk (blk_drew BK405.out)
                have n4_ := Aside0.mk (blk_drew BK406.out)
                have n5_ := Aside0.mk (blk_drew BK419.out)
                have n6_ := Aside0.mk (below_drew1 HB.out)
                clear HO0_0
                clear HO415
                clear HO418
                clear BK405
                clear BK406
                clear BK419
                clear HB
                have HO0_0 := n0_
                have HO415 := n1_
                have HO418 := n2_
                have BK405 := n3_
                have BK406 := n4_
                have BK419 := n5_
                have HB := n6_
                clear n0_ n1_ n2_ n3_ n4_ n5_ n6_
                have q37 : ((ji14) : Int) ≤ ((l0_0.length : Int) : Int) := of_decide_eq_true (by first | (with_reducible assumption) | assumption)
                obtain ⟨i037, hi037, _, hsz37, _⟩ := info_parts info86
                have hroom37 : l0_0.length ≤ c0_0 := (Kd.V_reads' HO0_0.out).2.1
                have hC37 : Kd.F k86 _ _ A0_0 l0_0.length l0_0 := (Kd.V_at (base := w.heap.size) HO0_0.out).2.2
                have q037 : (0 : Int) ≤ ((ji14) : Int) := of_decide_eq_true (by first | (with_reducible assumption) | assumption)
                have hcut37 := cut_from (P := Try.prog) 44 86 .i64 Try.underlying44 hi037 2 hsz37 A0_0 l0_0.length c0_0 (ji14) q037 q37
                have hr37 := Kd.F_cut (m := ((ji14) : Int).toNat) (c := c0_0) hC37 (by omega) hroom37
                obtain ⟨A37, hA37⟩ : ∃ A1, A1 = (if c0_0 = ((ji14) : Int).toNat then A0_0 else (A0_0 : Option Addr).map (·.add (((ji14) : Int).toNat * 2))) := ⟨_, rfl⟩
                obtain ⟨c37, hc37⟩ : ∃ c1, c1 = c0_0 - ((ji14) : Int).toNat := ⟨_, rfl⟩
                have hy37 : y420.length = l0_0.length - ((ji14) : Int).toNat := (by rw [Ny420.out, List.length_drop] <;> omega)
                rw [show (l0_0).drop ((ji14) : Int).toNat = y420 from Ny420.out.symm] at hr37
                replace hr37 : Kd.F k86 _ _ A37 y420.length y420 := (by rw [hA37]; exact hr37)
                rw [← hy37, ← hA37, ← hc37] at hcut37
                have HO424 := Aside0.mk (show Kd.V k86 86 _ w.heap.size _ (.slice A37 y420.length c37) y420 from Kd.V_mk (by rw [hy37, hc37]; exact Nat.sub_le_sub_right hroom37 _) hr37)
                have HC424 := Aside0.mk (show y420.length ≤ c37 from by rw [hy37, hc37]; exact Nat.sub_le_sub_right hroom37 _)
                clear hr37 hC37 hroom37 hi037 hsz37 hc37
                have KY37 := Aside0.mk hy37
                have KA37 := Aside0.mk hA37
                clear hy37 hA37
                replace q37 := eq_true q37
                refine start_ (n := 10) (S := fun w' => w'.cell? ⟨gb419, 0, none⟩ = some (.slice Ao31 y416.length co31) ∧ w'.cell? ⟨gb419, 1, none⟩ = some (.int .i64 a0_1) ∧ w'.cell? ⟨gb419, 2, none⟩ = some (.int .i64 a0_2) ∧ w'.cell? ⟨gb405, 0, none⟩ = some (.slice A0_0 l0_0.length c0_0) ∧ w'.cell? ⟨gb405, 1, none⟩ = some (.int .i64 a0_1) ∧ w'.cell? ⟨gb405, 2, none⟩ = some (.int .i64 a0_2)) (ds := [9]) #[false, false, false, false, false, false, false, false, false, false] (by kernel_rfl) rfl rfl ⟨(blk_cell BK419.out 0).trans rfl, (blk_cell BK419.out 1).trans rfl, (blk_cell BK419.out 2).trans rfl, (blk_cell BK405.out 0).trans rfl, (blk_cell BK405.out 1).trans rfl, (blk_cell BK405.out 2).trans rfl⟩ (fun hHeld => ?_); refine with_tabW cordwoodref21_Forget.tab5 cordwoodref21_Forget.bits5 (fun HT_ HW_ => ?_)
                generalize w35.drew = w36 at HO0_0 HO415 HO418 BK405 BK406 BK419 HB HO424 hHeld ⊢
                refine pure_ (i := 0) (N := some 25) (v := ?_) (a' := ?_) #[true, false, false, false, false, false, false, false, false, false] rfl rfl (any_of HT_.out (by kernel_rfl)) (fun _ _ _ h => h) (Or.inl ⟨by rfl, ?_⟩) ?_ ?_
                rotate_left
                · intro w'
                  go_simp
                  with_reducible rfl
                rotate_left
                · simp only [Act.put, List.setIfInBounds_toArray, List.set_cons_zero, List.set_cons_succ, i64_w, i32_w]
                  rfl
                refine pure_ (i := 2) (N := some 27) (v := ?_) (a' := ?_) #[true, false, true, false, false, false, false, false, false, false] rfl rfl (any_of HT_.out (by kernel_rfl)) (fun _ _ _ h => h) (Or.inl ⟨by rfl, ?_⟩) ?_ ?_
                rotate_left
                · intro w'
                  go_simp
                  with_reducible rfl
                rotate_left
                · simp only [Act.put, List.setIfInBounds_toArray, List.set_cons_zero, List.set_cons_succ, i64_w, i32_w]
                  rfl
                refine pure_ (i := 4) (N := some 29) (v := ?_) (a' := ?_) #[true, false, true, false, true, false, false, false, false, false] rfl rfl (any_of HT_.out (by kernel_rfl)) (fun _ _ _ h => h) (Or.inl ⟨by rfl, ?_⟩) ?_ ?_
                rotate_left
                · intro w'
                  go_simp
                  with_reducible rfl
                rotate_left
                · simp only [Act.put, List.setIfInBounds_toArray, List.set_cons_zero, List.set_cons_succ, i64_w, i32_w]
                  rfl
                refine pure_ (i := 5) (N := some 30) (v := ?_) (a' := ?_) #[true, false, true, false, true, true, false, false, false, false] rfl rfl (any_of HT_.out (by kernel_rfl)) (fun _ _ _ h => h) (Or.inl ⟨by rfl, ?_⟩) ?_ ?_
                rotate_left
                · intro w'
                  go_simp
                  with_reducible rfl
                rotate_left
                · simp only [Act.put, List.setIfInBounds_toArray, List.set_cons_zero, List.set_cons_succ, i64_w, i32_w]
                  rfl
                refine take_ (i := 1) (N := some 26) (v := ?_) (a' := ?_) #[true, true, true, false, true, true, false, false, false, false] rfl rfl (take_ofW HT_.out HW_.out (by kernel_rfl)) (fun _ _ _ h => h) (Or.inl ⟨by rfl, ?_⟩) hHeld ?_ ?_
                rotate_left
                · rintro w' ⟨s0, s1, s2, s3, s4, s5⟩
                  go_simp
                  with_reducible rfl
                rotate_left
                · simp only [Act.put, List.setIfInBounds_toArray, List.set_cons_zero, List.set_cons_succ, i64_w, i32_w]
                  rfl
                refine take_ (i := 3) (N := some 28) (v := ?_) (a' := ?_) #[true, true, true, true, true, true, false, false, false, false] rfl rfl (take_ofW HT_.out HW_.out (by kernel_rfl)) (fun _ _ _ h => h) (Or.inl ⟨by rfl, ?_⟩) hHeld ?_ ?_
                rotate_left
                · rintro w' ⟨s0, s1, s2, s3, s4, s5⟩
                  go_simp
                  with_reducible rfl
                rotate_left
                · simp only [Act.put, List.setIfInBounds_toArray, List.set_cons_zero, List.set_cons_succ, i64_w, i32_w]
                  rfl
                refine pure_ (i := 6) (N := some 31) (v := ?_) (a' := ?_) #[true, true, true, true, true, true, true, false, false, false] rfl rfl (any_of HT_.out (by kernel_rfl)) (fun _ _ _ h => h) (Or.inl ⟨by rfl, ?_⟩) ?_ ?_
                rotate_left
                · intro w'
                  go_simp
                  with_reducible rfl
                rotate_left
                · simp only [Act.put, List.setIfInBounds_toArray, List.set_cons_zero, List.set_cons_succ, i64_w, i32_w]
                  rfl
                refine one_ (i := 7) (N := some 32) #[true, true, true, true, true, true, true, true, false, false] rfl rfl (one_of HT_.out (by kernel_rfl)) (by decide) (fun K hK => ?_)
                refine Kd.N_append_rows_step k86 (w0 := w) w.heap.size (by rfl) (.tmp 26) (.tmp 31) 44 86 (.agg #[(.int .i64 0), (.slice none 0 0)]) 32 rfl Try.underlying44 info86 rfl (by decide) (by omega) (.slice Ao31 y416.length co31) y416 y420 _ _ _ (fun k_ => (P0_0_ k_ ∨ w.heap.size ≤ k_) ∧ k_ ≠ gb405 ∧ k_ ≠ gb406 ∧ k_ ≠ gb419) (fun k_ => ((fun k_ => (P0_0_ k_ ∨ w.heap.size ≤ k_) ∧ k_ ≠ gb405 ∧ k_ ≠ gb406 ∧ k_ ≠ gb419)) k_ ∧ some k_ ≠ (.slice Ao31 y416.length co31 : Value).ownBlock) rfl rfl ?aO ?aR (fun _ hk => hk) ?aF ?aB ?aS ?aL ?_
                (case aR => exact (by skip; exact Kd.V_F (Kd.V_mono (ok' := (fun k_ => ((fun k_ => (P0_0_ k_ ∨ w.heap.size ≤ k_) ∧ k_ ≠ gb405 ∧ k_ ≠ gb406 ∧ k_ ≠ gb419)) k_ ∧ some k_ ≠ (.slice Ao31 y416.length co31 : Value).ownBlock)) (HO424.out) (fun k_ hk => ⟨⟨hk.1, ⟨hk.2.2.1, ⟨hk.2.2.2.1, hk.2.2.2.2⟩⟩⟩, hk.2.1⟩))))
                (case aB => exact (by repeat (first | (with_reducible first | exact HB.out | apply below_alloc | apply pw_below_drewN | apply below_drew1 | refine below_set ?_ GE405.out | refine below_set ?_ GE406.out | refine below_set ?_ GE419.out) | exact HB.out)))
                (case aF => exact (fun k_ hk => ⟨(.inr (Nat.le_trans (below_size (by repeat (first | (with_reducible first | exact HB.out | apply below_alloc | apply pw_below_drewN | apply below_drew1 | refine below_set ?_ GE405.out | refine below_set ?_ GE406.out | refine below_set ?_ GE419.out) | exact HB.out))) hk)), Kd.freshB (g := gb405) (o := .cells #[.slice A0_0 l0_0.length c0_0, .int .i64 a0_1, .int .i64 a0_2] 46 (0, 0)) (by (with_reducible repeat (first | refine blk_drewN ?_ _ | refine blk_drew ?_ | refine blk_alloc ?_ _)); exact BK405.out) k_ hk, Kd.freshB (g := gb406) (o := .cells #[.slice none 0 0, .int .i64 0, .int .i64 0] 46 (0, 0)) (by (with_reducible repeat (first | refine blk_drewN ?_ _ | refine blk_drew ?_ | refine blk_alloc ?_ _)); exact BK406.out) k_ hk, Kd.freshB (g := gb419) (o := .cells #[.slice Ao31 y416.length co31, .int .i64 a0_1, .int .i64 a0_2] 46 (0, 0)) (by (with_reducible repeat (first | refine blk_drewN ?_ _ | refine blk_drew ?_ | refine blk_alloc ?_ _)); exact BK419.out) k_ hk⟩))
                (case aO => exact (by (with_reducible repeat (first | apply Kd.N_alloc | apply Kd.N_drewN | apply Kd.N_drew)); exact HO418.out))
                (case aS => exact (below_size (by repeat (first | (with_reducible first | exact HB.out | apply below_alloc | apply pw_below_drewN | apply below_drew1 | refine below_set ?_ GE405.out | refine below_set ?_ GE406.out | refine below_set ?_ GE419.out) | exact HB.out))))
                (case aL => have := LMc17.out; omega)
                intro v426 w38 ho hb hg hat
                rw [← Ny425.out] at ho
                have n0_ := Aside0.mk (Kd.V_afterv (ok := (fun k_ => (P0_0_ k_ ∨ w.heap.size ≤ k_) ∧ k_ ≠ gb405 ∧ k_ ≠ gb406 ∧ k_ ≠ gb419)) (by (with_reducible repeat (first | apply Kd.V_alloc | apply Kd.V_drewN | apply Kd.V_drew)); exact Kd.V_mono HO0_0.out (fun _ hk => ⟨⟨hk.1, ⟨hk.2.2.1, ⟨hk.2.2.2.1, hk.2.2.2.2⟩⟩⟩, hk.2.1⟩)) hg hat)
                have n1_ := Aside0.mk (blk_grown (g := gb405) (o := .cells #[.slice A0_0 l0_0.length c0_0, .int .i64 a0_1, .int .i64 a0_2] 46 (0, 0)) (by (with_reducible repeat (first | refine blk_drewN ?_ _ | refine blk_drew ?_ | refine blk_alloc ?_ _)); exact BK405.out) hg (Kd.N_ne HO418.out BK405.out (by decide)))
                have n2_ := Aside0.mk (blk_grown (g := gb406) (o := .cells #[.slice none 0 0, .int .i64 0, .int .i64 0] 46 (0, 0)) (by (with_reducible repeat (first | refine blk_drewN ?_ _ | refine blk_drew ?_ | refine blk_alloc ?_ _)); exact BK406.out) hg (Kd.N_ne HO418.out BK406.out (by decide)))
                have n3_ := Aside0.mk (Kd.V_afterv (ok := (fun k_ => (P0_0_ k_ ∨ w.heap.size ≤ k_) ∧ k_ ≠ gb405 ∧ k_ ≠ gb406 ∧ k_ ≠ gb419)) (by (with_reducible repeat (first | apply Kd.V_alloc | apply Kd.V_drewN | apply Kd.V_drew)); exact Kd.V_mono HO415.out (fun _ hk => ⟨⟨hk.1, ⟨hk.2.2.1, ⟨hk.2.2.2.1, hk.2.2.2.2⟩⟩⟩, hk.2.1⟩)) hg hat)
                have n4_ := Aside0.mk (blk_grown (g := gb419) (o := .cells #[.slice Ao31 y416.length co31, .int .i64 a0_1, .int .i64 a0_2] 46 (0, 0)) (by (with_reducible repeat (first | refine blk_drewN ?_ _ | refine blk_drew ?_ | refine blk_alloc ?_ _)); exact BK419.out) hg (Kd.N_ne HO418.out BK419.out (by decide)))
                have n5_ := Aside0.mk (Kd.V_afterv (ok := (fun k_ => (P0_0_ k_ ∨ w.heap.size ≤ k_) ∧ k_ ≠ gb405 ∧ k_ ≠ gb406 ∧ k_ ≠ gb419)) (by (with_reducible repeat (first | apply Kd.V_alloc | apply Kd.V_drewN | apply Kd.V_drew)); exact Kd.V_mono HO424.out (fun _ hk => ⟨⟨hk.1, ⟨hk.2.2.1, ⟨hk.2.2.2.1, hk.2.2.2.2⟩⟩⟩, hk.2.1⟩)) hg hat)
                have n6_ := Aside0.mk (hb)
                have n7_ := Aside0.mk (ho)
                clear HO0_0
                clear BK405
                clear BK406
                clear HO415
                clear BK419
                clear HO424
                clear HB
                clear HO418
                have HO0_0 := n0_
                have BK405 := n1_
                have BK406 := n2_
                have HO415 := n3_
                have BK419 := n4_
                have HO424 := n5_
                have HB := n6_
                have HO427 := n7_
                clear n0_ n1_ n2_ n3_ n4_ n5_ n6_ n7_
                clear ho hb hg hat
                obtain ⟨Ao39, co39, eo39⟩ := Kd.N_slice HO427.out
                (first | subst eo39 | (injection eo39 with f1_ f2_ f3_; have f4_ := f1_.symm; have f5_ := f3_.symm; clear f1_ f2_ f3_; subst f4_; subst f5_))
                refine hK.out _ _ ⟨(blk_cell BK419.out 0).trans rfl, (blk_cell BK419.out 1).trans rfl, (blk_cell BK419.out 2).trans rfl, (blk_cell BK405.out 0).trans rfl, (blk_cell BK405.out 1).trans rfl, (blk_cell BK405.out 2).trans rfl⟩ (fun hHeld => ?_)
                clear hK K
                refine norm_ (a' := ?_) ?_ ?_
                rotate_left
                · show Act.put _ (some 32) _ = _
                  simp only [Act.put, List.setIfInBounds_toArray, List.set_cons_zero, List.set_cons_succ, i64_w, i32_w]
                  rfl
                refine pure_ (i := 8) (N := some 33) (v := ?_) (a' := ?_) #[true, true, true, true, true, true, true, true, true, false] rfl rfl (any_of HT_.out (by kernel_rfl)) (fun _ _ _ h => h) (Or.inl ⟨by rfl, ?_⟩) ?_ ?_
                rotate_left
                · intro w'
                  go_simp
                  with_reducible rfl
                rotate_left
                · simp only [Act.put, List.setIfInBounds_toArray, List.set_cons_zero, List.set_cons_succ, i64_w, i32_w]
                  rfl
                refine last_ (i := 9) (N := none) #[true, true, true, true, true, true, true, true, true, true] rfl rfl (one_of HT_.out (by kernel_rfl)) (by decide) (fun K hK => ?_)
                have hs40 : w38.cell? ⟨gb419, 0, none⟩ = some (.slice Ao31 y416.length co31) := (blk_cell BK419.out 0).trans rfl
                have hfs40 := blk_frozen BK419.out 0
                have hns40_0 := NB405_419.out
                have hns40_1 := NB406_419.out
                have hms40_0 := NB419_405.out
                have hms40_1 := NB419_406.out
                refine skip_ (w1 := ?_) (by rfl) rfl ?_ ?_
                rotate_left
                · go_simp
                  rfl
                refine hK.out _ _ ?_
                clear hK K
                refine done_ (done_of HT_.out (by kernel_rfl)) ?_
                have hnb41 := NB419_405.out
                have hnc41 := NB405_419.out
                have hnb42 := NB419_406.out
                have hnc42 := NB406_419.out
                have hcz43_0 : w38.cell? ⟨gb419, 0, none⟩ = some (.slice Ao31 y416.length co31) := (blk_cell BK419.out 0).trans rfl
                have hcz43_1 : w38.cell? ⟨gb419, 1, none⟩ = some (.int .i64 a0_1) := (blk_cell BK419.out 1).trans rfl
                have hcz43_2 : w38.cell? ⟨gb419, 2, none⟩ = some (.int .i64 a0_2) := (blk_cell BK419.out 2).trans rfl
                have hfz43_0 := blk_frozen BK419.out 0
                have hfz43_1 := blk_frozen BK419.out 1
                have hfz43_2 := blk_frozen BK419.out 2
                have hcz44_0 : w38.cell? ⟨gb406, 0, none⟩ = some (.slice none 0 0) := (blk_cell BK406.out 0).trans rfl
                have hcz44_1 : w38.cell? ⟨gb406, 1, none⟩ = some (.int .i64 0) := (blk_cell BK406.out 1).trans rfl
                have hcz44_2 : w38.cell? ⟨gb406, 2, none⟩ = some (.int .i64 0) := (blk_cell BK406.out 2).trans rfl
                have hfz44_0 := blk_frozen BK406.out 0
                have hfz44_1 := blk_frozen BK406.out 1
                have hfz44_2 := blk_frozen BK406.out 2
                try go_wp2
                refine bodyPost_ret (results_ct rfl _ _ gb406 46 #[.slice Ao39 y425.length co39, .int .i64 a0_1, .int .i64 a0_2] (0, 0) _ rfl (by (with_reducible repeat (first | refine blk_drewN ?_ _ | refine blk_drew ?_ | refine blk_alloc ?_ _)); refine blk_put (cs := #[.slice Ao39 y425.length co39, .int .i64 a0_1, .int .i64 0]) ?_ 2 _ rfl; (with_reducible repeat (first | refine blk_drewN ?_ _ | refine blk_drew ?_ | refine blk_alloc ?_ _)); refine blk_put (cs := #[.slice Ao39 y425.length co39, .int .i64 0, .int .i64 0]) ?_ 1 _ rfl; (with_reducible repeat (first | refine blk_drewN ?_ _ | refine blk_drew ?_ | refine blk_alloc ?_ _)); refine blk_put (cs := #[.slice none 0 0, .int .i64 0, .int .i64 0]) ?_ 0 _ rfl; (with_reducible repeat (first | refine blk_drewN ?_ _ | refine blk_drew ?_ | refine blk_alloc ?_ _)); refine blk_far ?_ NB406_419.out _; (with_reducible repeat (first | refine blk_drewN ?_ _ | refine blk_drew ?_ | refine blk_alloc ?_ _)); exact BK406.out) Try.underlying46 rfl (by kernel_rfl)) rfl ?_
                exact ⟨_, by first | rfl | (simp [errW_none, errW_some] <;> rfl) | (simp only [← hji14]; first | rfl | (simp [errW_none, errW_some] <;> rfl)) | (simp [*, errW_none, errW_some] <;> rfl), by (with_reducible repeat (first | apply Kd.N_alloc | apply Kd.N_drewN | apply Kd.N_drew)); exact Kd.N_mono (Kd.N_far (p := ⟨gb406, 2, none⟩) (Kd.N_far (p := ⟨gb406, 1, none⟩) (Kd.N_far (p := ⟨gb406, 0, none⟩) (Kd.N_far (p := ⟨gb419, 0, none⟩) (Kd.N_mono (Kd.N_mono HO427.out (fun k_ hk => (⟨hk, hk.2.2.2⟩ : _ ∧ k_ ≠ gb419))) (fun k_ hk => (⟨hk, hk.1.2.2.1⟩ : _ ∧ k_ ≠ gb406))) (fun _ hk => hk.1.2) (.slice Ao39 y425.length co39)) (fun _ hk => hk.2) (.slice Ao39 y425.length co39)) (fun _ hk => hk.2) (.int .i64 a0_1)) (fun _ hk => hk.2) (.int .i64 a0_2)) (fun _ hk => hk.1.1.1), by repeat (first | (with_reducible first | exact HB.out | apply below_alloc | apply pw_below_drewN | apply below_drew1 | refine below_set ?_ GE405.out | refine below_set ?_ GE406.out | refine below_set ?_ GE419.out) | exact HB.out)⟩
              · rw [if_neg c17] at H
                exact absurd H (by simp)
            · rw [if_neg c16] at H
              exact absurd H (by simp)
          · rw [if_neg c15] at H
            exact absurd H (by simp)
        · rw [if_neg c13] at H
          exact absurd H (by simp)
      · rw [if_neg c12] at H
        exact absurd H (by simp)
    · rw [if_neg c11] at H
      exact absurd H (by simp)

end Go.Proofs.Ytkabbahfaeeihaa.Q
