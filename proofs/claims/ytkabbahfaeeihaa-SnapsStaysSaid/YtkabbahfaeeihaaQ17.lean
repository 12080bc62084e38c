/- Contracts of the functions that the laws reach, in the words of the kit's print; written by a program of this claim (gen_q.py). -/
import Derived.Test.YtkabbahfaeeihaaQ0
import Derived.Test.YtkabbahfaeeihaaQ16
namespace Go.Proofs.Ytkabbahfaeeihaa.Q
open Go.RowKit Go.Proofs.YtkabbahfaeeihaaW.PrintWords Go.Proofs.YtkabbahfaeeihaaW.PrintLast Go.Proofs.YtkabbahfaeeihaaW.PrintMore
attribute [local go_sem] max2_int min2_int max_two min_two max_three min_three max_four min_four   -- for this text's walks alone
set_option linter.unusedVariables false
set_option linter.unusedSimpArgs false

/-! ### cordwoodref10_Few: function 11 -/
def cordwoodref10_Few.l0 : Nat → List (S72) → Int → Option (Bool)
  | 0, _, _ => none
  | k + 1, x0, x3 => if x3 < (x0.length : Int) then (if 0 ≤ x3 then ((cordwoodref09_Few.f ((rd_T72 x0 x3).f0) ((rd_T72 x0 x3).f1.f0) ((rd_T72 x0 x3).f1.f1) ((rd_T72 x0 x3).f1.f2) ((rd_T72 x0 x3).f1.f3) ((rd_T72 x0 x3).f2.f0) ((rd_T72 x0 x3).f2.f1) ((rd_T72 x0 x3).f2.f2)).bind fun t270 => (if t270 = true then (cordwoodref10_Few.l0 k x0 (wrap64 (x3 + 1))) else (some false))) else (none)) else (some (decide ((x0.length : Int) ≤ 300)))
def cordwoodref10_Few.f (k : Nat) (l0 : List (S72)) : Option (Bool) := cordwoodref10_Few.l0 k l0 0
theorem cordwoodref10_Few.mono_l : ∀ k, (∀ y0 y1, LeO (cordwoodref10_Few.l0 k y0 y1) (cordwoodref10_Few.l0 (k + 1) y0 y1))
  | 0 => fun _ _ r h => by simp [cordwoodref10_Few.l0] at h
  | k + 1 => by
    have ih0 := cordwoodref10_Few.mono_l k
    · intro y0 y1
      unfold cordwoodref10_Few.l0
      repeat' first
      | (with_reducible exact ih0 _ _)
      | (with_reducible exact LeO.refl _)
      | (with_reducible exact LeO.none _)
      | (with_reducible refine LeO.ite ?_ ?_)
      | (with_reducible refine LeO.bind ?_ (fun _ => ?_))
      | exact ih0 _ _
      | exact LeO.none _
      | refine LeO.ite ?_ ?_
      | refine LeO.bind ?_ (fun _ => ?_)
theorem cordwoodref10_Few.mono : ∀ a0 k, LeO (cordwoodref10_Few.f k a0) (cordwoodref10_Few.f (k + 1) a0) := by
  intro a0 k
  have ih0 := cordwoodref10_Few.mono_l k
  unfold cordwoodref10_Few.f
  repeat' first
      | (with_reducible exact ih0 _ _)
      | (with_reducible exact LeO.refl _)
      | (with_reducible exact LeO.none _)
      | (with_reducible refine LeO.ite ?_ ?_)
      | (with_reducible refine LeO.bind ?_ (fun _ => ?_))
      | exact ih0 _ _
      | exact LeO.none _
      | refine LeO.ite ?_ ?_
      | refine LeO.bind ?_ (fun _ => ?_)
set_option maxHeartbeats 8000000 in
set_option maxRecDepth 100000 in
theorem cordwoodref10_Few.calls (k : Nat) (A0 : Option Addr) (c0 : Nat) (l0 : List (S72)) (r : Bool) (w : World) (hr0 : Kd.C k72 w A0 l0.length l0) (hc0 : l0.length ≤ c0) (h : cordwoodref10_Few.f k l0 = some r) :
    Calls Try.prog 11 #[.slice A0 l0.length c0] w fun e w' => e = .returned (.bool r) ∧ Below w.heap.size w w' := by
  have hu72 := Try.underlying72
  have HR0 := Aside0.mk hr0
  have HC0 := Aside0.mk hc0
  clear hr0 hc0
  have HB := Aside0.mk (Below.refl w.heap.size w)
  have H : (cordwoodref10_Few.l0 k l0 0) = some r := h
  clear h
  have H' := Aside0.mk H
  clear H
  go_enter Try.func11, Try.ntmps11
  go_wp2
  go_loopg [3] k (fun kq v3 w' => ∃ (x3_1 : Int), v3 = .int .i64 x3_1 ∧ Aside0 (cordwoodref10_Few.l0 kq l0 x3_1 = some r) ∧ Aside0 (kq ≤ k) ∧ Aside0 (Below w.heap.size w w'))
  case atStart => exact ⟨(0), (by first | rfl | (simp; done) | (simp [*]; done)), H', ⟨Nat.le_refl _⟩, ⟨by repeat (first | (with_reducible first | exact HB.out | apply below_alloc | apply pw_below_drewN | apply below_drew1) | exact HB.out)⟩⟩
  case round =>
    clear H'
    try clear c1
    obtain ⟨x3_1, rfl, HA, HK1, HB⟩ := hrel
    cases gk with
    | zero => exact absurd HA.out (by simp [cordwoodref10_Few.l0])
    | succ k1 =>
      have H := HA.out
      clear HA
      simp only [cordwoodref10_Few.l0] at H
      by_cases c2 : x3_1 < (l0.length : Int)
      · rw [if_pos c2] at H
        have c2b0 : decide (x3_1 < (l0.length : Int)) = true := decide_eq_true c2
        clear c2
        by_cases c3 : 0 ≤ x3_1
        · rw [if_pos c3] at H
          have c3b0 : decide (0 ≤ x3_1) = true := decide_eq_true c3
          clear c3
          replace H := Option.bind_eq_some_iff.mp H
          obtain ⟨t270, A40, H⟩ := H
          replace H : (if t270 = true then (cordwoodref10_Few.l0 k1 l0 (wrap64 (x3_1 + 1))) else (some false)) = some r := H
          have A4 := Aside0.mk A40
          clear A40
          by_cases c5 : t270 = true
          · subst c5
            have H1 : (cordwoodref10_Few.l0 k1 l0 (wrap64 (x3_1 + 1))) = some r := by rw [if_pos rfl] at H; exact H
            clear H
            have H := H1
            clear H1
            have H' := Aside0.mk H
            clear H
            have p269 : 0 ≤ (x3_1 : Int) := of_decide_eq_true (by first | (with_reducible assumption) | assumption)
            have q269 : x3_1 < (l0.length : Int) := of_decide_eq_true (by first | (with_reducible assumption) | assumption)
            obtain ⟨ad269, A269_1, c269_1, A269_2, c269_2, A269_4, c269_4, A269_5, c269_5, A269_6, c269_6, A269_7, c269_7, e269, hx269_0, hx269_1, hx269_2, hx269_3, hx269_4, hx269_5, hx269_6, hx269_7, hl269_1, hi269_1, hl269_2, hi269_2, hl269_4, hi269_4, hl269_5, hi269_5, hl269_6, hi269_6, hl269_7, hi269_7⟩ := at_T72 HR0.out x3_1 p269 q269
            cases e269
            replace hx269_0 := (HB.out.cell (World.block_lt_of_cell? w _ hx269_0)).trans hx269_0
            replace hx269_1 := (HB.out.cell (World.block_lt_of_cell? w _ hx269_1)).trans hx269_1
            replace hx269_2 := (HB.out.cell (World.block_lt_of_cell? w _ hx269_2)).trans hx269_2
            replace hx269_3 := (HB.out.cell (World.block_lt_of_cell? w _ hx269_3)).trans hx269_3
            replace hx269_4 := (HB.out.cell (World.block_lt_of_cell? w _ hx269_4)).trans hx269_4
            replace hx269_5 := (HB.out.cell (World.block_lt_of_cell? w _ hx269_5)).trans hx269_5
            replace hx269_6 := (HB.out.cell (World.block_lt_of_cell? w _ hx269_6)).trans hx269_6
            replace hx269_7 := (HB.out.cell (World.block_lt_of_cell? w _ hx269_7)).trans hx269_7
            have HR269_1 := Aside0.mk hi269_1
            have HC269_1 := Aside0.mk hl269_1
            clear hi269_1 hl269_1
            have HR269_2 := Aside0.mk hi269_2
            have HC269_2 := Aside0.mk hl269_2
            clear hi269_2 hl269_2
            have HR269_4 := Aside0.mk hi269_4
            have HC269_4 := Aside0.mk hl269_4
            clear hi269_4 hl269_4
            have HR269_5 := Aside0.mk hi269_5
            have HC269_5 := Aside0.mk hl269_5
            clear hi269_5 hl269_5
            have HR269_6 := Aside0.mk hi269_6
            have HC269_6 := Aside0.mk hl269_6
            clear hi269_6 hl269_6
            have HR269_7 := Aside0.mk hi269_7
            have HC269_7 := Aside0.mk hl269_7
            clear hi269_7 hl269_7
            replace p269 := eq_true p269
            replace q269 := eq_true q269
            go_wp2_with (first | ((with_reducible refine gate_callee (f := 26) rfl ?_); refine goesL_ (some 14) rfl rfl Try.func26 (by kernel_rfl) rfl #[.agg #[.int .i64 ((rd_T72 l0 x3_1).f0), .slice A269_1 ((rd_T72 l0 x3_1).f1.f0).length c269_1, .slice A269_2 ((rd_T72 l0 x3_1).f1.f1).length c269_2, .int .i64 ((rd_T72 l0 x3_1).f1.f2), .slice A269_4 ((rd_T72 l0 x3_1).f1.f3).length c269_4, .slice A269_5 ((rd_T72 l0 x3_1).f2.f0).length c269_5, .slice A269_6 ((rd_T72 l0 x3_1).f2.f1).length c269_6, .slice A269_7 ((rd_T72 l0 x3_1).f2.f2).length c269_7]] rfl (by (try simp only [List.map_toArray, List.map_cons, List.map_nil]); first | done | rfl | (simp only [List.length_drop, List.length_take]; rfl)) ?_; (with_reducible refine (cordwoodref09_Few.calls ((rd_T72 l0 x3_1).f0) _ _ ((rd_T72 l0 x3_1).f1.f0) _ _ ((rd_T72 l0 x3_1).f1.f1) ((rd_T72 l0 x3_1).f1.f2) _ _ ((rd_T72 l0 x3_1).f1.f3) _ _ ((rd_T72 l0 x3_1).f2.f0) _ _ ((rd_T72 l0 x3_1).f2.f1) _ _ ((rd_T72 l0 x3_1).f2.f2) true _ ?side1 ?side2 ?side3 ?side4 ?side5 ?side6 ?side7 ?side8 ?side9 ?side10 ?side11 ?side12 A4.out).mono ?_); (case side1 => repeat (first | exact (Kd.C_below HR269_1.out HB.out) | (with_reducible refine Kd.C_alloc ?_ _) | (with_reducible refine Kd.C_drewN ?_ _) | (with_reducible refine Kd.C_drew ?_))); (case side2 => exact HC269_1.out); (case side3 => repeat (first | exact (Kd.C_below HR269_2.out HB.out) | (with_reducible refine Kd.C_alloc ?_ _) | (with_reducible refine Kd.C_drewN ?_ _) | (with_reducible refine Kd.C_drew ?_))); (case side4 => exact HC269_2.out); (case side5 => repeat (first | exact (Kd.C_below HR269_4.out HB.out) | (with_reducible refine Kd.C_alloc ?_ _) | (with_reducible refine Kd.C_drewN ?_ _) | (with_reducible refine Kd.C_drew ?_))); (case side6 => exact HC269_4.out); (case side7 => repeat (first | exact (Kd.C_below HR269_5.out HB.out) | (with_reducible refine Kd.C_alloc ?_ _) | (with_reducible refine Kd.C_drewN ?_ _) | (with_reducible refine Kd.C_drew ?_))); (case side8 => exact HC269_5.out); (case side9 => repeat (first | exact (Kd.C_below HR269_6.out HB.out) | (with_reducible refine Kd.C_alloc ?_ _) | (with_reducible refine Kd.C_drewN ?_ _) | (with_reducible refine Kd.C_drew ?_))); (case side10 => exact HC269_6.out); (case side11 => repeat (first | exact (Kd.C_below HR269_7.out HB.out) | (with_reducible refine Kd.C_alloc ?_ _) | (with_reducible refine Kd.C_drewN ?_ _) | (with_reducible refine Kd.C_drew ?_))); (case side12 => exact HC269_7.out); rintro e w6 ⟨rfl, hb⟩; refine ⟨_, rfl, ?_⟩; have n0_ := Aside0.mk (below_step (by repeat (first | (with_reducible first | exact HB.out | apply below_alloc | apply pw_below_drewN | apply below_drew1) | exact HB.out)) hb); clear HB; have HB := n0_; clear n0_; (try clear hb); (try clear hb2); (try clear hk); (try clear hi)))
            go_roundg k1
            case measure => have := HK1.out; omega
            case rel => exact ⟨(wrap64 (x3_1 + 1)), (by first | rfl | (simp; done) | (simp [*]; done)), H', ⟨by have := HK1.out; omega⟩, ⟨by repeat (first | (with_reducible first | exact HB.out | apply below_alloc | apply pw_below_drewN | apply below_drew1) | exact HB.out)⟩⟩
          · replace c5 := Bool.eq_false_iff.mpr c5
            subst c5
            have H1 : (some false) = some r := by rw [if_neg (show ¬ (false = true) by decide)] at H; exact H
            clear H
            have H := H1
            clear H1
            obtain rfl := Option.some.inj H
            have p269 : 0 ≤ (x3_1 : Int) := of_decide_eq_true (by first | (with_reducible assumption) | assumption)
            have q269 : x3_1 < (l0.length : Int) := of_decide_eq_true (by first | (with_reducible assumption) | assumption)
            obtain ⟨ad269, A269_1, c269_1, A269_2, c269_2, A269_4, c269_4, A269_5, c269_5, A269_6, c269_6, A269_7, c269_7, e269, hx269_0, hx269_1, hx269_2, hx269_3, hx269_4, hx269_5, hx269_6, hx269_7, hl269_1, hi269_1, hl269_2, hi269_2, hl269_4, hi269_4, hl269_5, hi269_5, hl269_6, hi269_6, hl269_7, hi269_7⟩ := at_T72 HR0.out x3_1 p269 q269
            cases e269
            replace hx269_0 := (HB.out.cell (World.block_lt_of_cell? w _ hx269_0)).trans hx269_0
            replace hx269_1 := (HB.out.cell (World.block_lt_of_cell? w _ hx269_1)).trans hx269_1
            replace hx269_2 := (HB.out.cell (World.block_lt_of_cell? w _ hx269_2)).trans hx269_2
            replace hx269_3 := (HB.out.cell (World.block_lt_of_cell? w _ hx269_3)).trans hx269_3
            replace hx269_4 := (HB.out.cell (World.block_lt_of_cell? w _ hx269_4)).trans hx269_4
            replace hx269_5 := (HB.out.cell (World.block_lt_of_cell? w _ hx269_5)).trans hx269_5
            replace hx269_6 := (HB.out.cell (World.block_lt_of_cell? w _ hx269_6)).trans hx269_6
            replace hx269_7 := (HB.out.cell (World.block_lt_of_cell? w _ hx269_7)).trans hx269_7
            have HR269_1 := Aside0.mk hi269_1
            have HC269_1 := Aside0.mk hl269_1
            clear hi269_1 hl269_1
            have HR269_2 := Aside0.mk hi269_2
            have HC269_2 := Aside0.mk hl269_2
            clear hi269_2 hl269_2
            have HR269_4 := Aside0.mk hi269_4
            have HC269_4 := Aside0.mk hl269_4
            clear hi269_4 hl269_4
            have HR269_5 := Aside0.mk hi269_5
            have HC269_5 := Aside0.mk hl269_5
            clear hi269_5 hl269_5
            have HR269_6 := Aside0.mk hi269_6
            have HC269_6 := Aside0.mk hl269_6
            clear hi269_6 hl269_6
            have HR269_7 := Aside0.mk hi269_7
            have HC269_7 := Aside0.mk hl269_7
            clear hi269_7 hl269_7
            replace p269 := eq_true p269
            replace q269 := eq_true q269
            go_wp2_with (first | ((with_reducible refine gate_callee (f := 26) rfl ?_); refine goesL_ (some 14) rfl rfl Try.func26 (by kernel_rfl) rfl #[.agg #[.int .i64 ((rd_T72 l0 x3_1).f0), .slice A269_1 ((rd_T72 l0 x3_1).f1.f0).length c269_1, .slice A269_2 ((rd_T72 l0 x3_1).f1.f1).length c269_2, .int .i64 ((rd_T72 l0 x3_1).f1.f2), .slice A269_4 ((rd_T72 l0 x3_1).f1.f3).length c269_4, .slice A269_5 ((rd_T72 l0 x3_1).f2.f0).length c269_5, .slice A269_6 ((rd_T72 l0 x3_1).f2.f1).length c269_6, .slice A269_7 ((rd_T72 l0 x3_1).f2.f2).length c269_7]] rfl (by (try simp only [List.map_toArray, List.map_cons, List.map_nil]); first | done | rfl | (simp only [List.length_drop, List.length_take]; rfl)) ?_; (with_reducible refine (cordwoodref09_Few.calls ((rd_T72 l0 x3_1).f0) _ _ ((rd_T72 l0 x3_1).f1.f0) _ _ ((rd_T72 l0 x3_1).f1.f1) ((rd_T72 l0 x3_1).f1.f2) _ _ ((rd_T72 l0 x3_1).f1.f3) _ _ ((rd_T72 l0 x3_1).f2.f0) _ _ ((rd_T72 l0 x3_1).f2.f1) _ _ ((rd_T72 l0 x3_1).f2.f2) false _ ?side1 ?side2 ?side3 ?side4 ?side5 ?side6 ?side7 ?side8 ?side9 ?side10 ?side11 ?side12 A4.out).mono ?_); (case side1 => repeat (first | exact (Kd.C_below HR269_1.out HB.out) | (with_reducible refine Kd.C_alloc ?_ _) | (with_reducible refine Kd.C_drewN ?_ _) | (with_reducible refine Kd.C_drew ?_))); (case side2 => exact HC269_1.out); (case side3 => repeat (first | exact (Kd.C_below HR269_2.out HB.out) | (with_reducible refine Kd.C_alloc ?_ _) | (with_reducible refine Kd.C_drewN ?_ _) | (with_reducible refine Kd.C_drew ?_))); (case side4 => exact HC269_2.out); (case side5 => repeat (first | exact (Kd.C_below HR269_4.out HB.out) | (with_reducible refine Kd.C_alloc ?_ _) | (with_reducible refine Kd.C_drewN ?_ _) | (with_reducible refine Kd.C_drew ?_))); (case side6 => exact HC269_4.out); (case side7 => repeat (first | exact (Kd.C_below HR269_5.out HB.out) | (with_reducible refine Kd.C_alloc ?_ _) | (with_reducible refine Kd.C_drewN ?_ _) | (with_reducible refine Kd.C_drew ?_))); (case side8 => exact HC269_5.out); (case side9 => repeat (first | exact (Kd.C_below HR269_6.out HB.out) | (with_reducible refine Kd.C_alloc ?_ _) | (with_reducible refine Kd.C_drewN ?_ _) | (with_reducible refine Kd.C_drew ?_))); (case side10 => exact HC269_6.out); (case side11 => repeat (first | exact (Kd.C_below HR269_7.out HB.out) | (with_reducible refine Kd.C_alloc ?_ _) | (with_reducible refine Kd.C_drewN ?_ _) | (with_reducible refine Kd.C_drew ?_))); (case side12 => exact HC269_7.out); rintro e w7 ⟨rfl, hb⟩; refine ⟨_, rfl, ?_⟩; have n0_ := Aside0.mk (below_step (by repeat (first | (with_reducible first | exact HB.out | apply below_alloc | apply pw_below_drewN | apply below_drew1) | exact HB.out)) hb); clear HB; have HB := n0_; clear n0_; (try clear hb); (try clear hb2); (try clear hk); (try clear hi)))
            go_ret
            exact ⟨by first | rfl | (simp [errW_none, errW_some] <;> rfl) | (simp [*, errW_none, errW_some] <;> rfl), by repeat (first | (with_reducible first | exact HB.out | apply below_alloc | apply pw_below_drewN | apply below_drew1) | exact HB.out)⟩
        · rw [if_neg c3] at H
          exact absurd H (by simp)
      · rw [if_neg c2] at H
        have c2b0 : decide (x3_1 < (l0.length : Int)) = false := decide_eq_false c2
        clear c2
        obtain rfl := Option.some.inj H
        go_wp2
        go_ret
        exact ⟨by first | rfl | (simp [errW_none, errW_some] <;> rfl) | (simp [*, errW_none, errW_some] <;> rfl), by repeat (first | (with_reducible first | exact HB.out | apply below_alloc | apply pw_below_drewN | apply below_drew1) | exact HB.out)⟩

end Go.Proofs.Ytkabbahfaeeihaa.Q
