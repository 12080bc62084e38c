/- Contracts of the functions that the laws reach, in the words of the kit's print; written by a program of this claim (gen_q.py). -/
import Derived.Test.YtkabbahfaeeihaaQ0
import Derived.Test.YtkabbahfaeeihaaQ21
namespace Go.Proofs.Ytkabbahfaeeihaa.Q
open Go.RowKit Go.Proofs.YtkabbahfaeeihaaW.PrintWords Go.Proofs.YtkabbahfaeeihaaW.PrintLast Go.Proofs.YtkabbahfaeeihaaW.PrintMore
attribute [local go_sem] max2_int min2_int max_two min_two max_three min_three max_four min_four   -- for this text's walks alone
set_option linter.unusedVariables false
set_option linter.unusedSimpArgs false

/-! ### cordwoodref10_Same: function 14 -/
def cordwoodref10_Same.l0 : Nat → List (S72) → List (S72) → Int → Option (Bool)
  | 0, _, _, _ => none
  | k + 1, x0, x1, x5 => if x5 < (x0.length : Int) then (if 0 ≤ x5 then (if x5 < (x1.length : Int) then ((cordwoodref09_Same.f k ((rd_T72 x0 x5).f0) ((rd_T72 x0 x5).f1.f0) ((rd_T72 x0 x5).f1.f1) ((rd_T72 x0 x5).f1.f2) ((rd_T72 x0 x5).f1.f3) ((rd_T72 x0 x5).f2.f0) ((rd_T72 x0 x5).f2.f1) ((rd_T72 x0 x5).f2.f2) ((rd_T72 x1 x5).f0) ((rd_T72 x1 x5).f1.f0) ((rd_T72 x1 x5).f1.f1) ((rd_T72 x1 x5).f1.f2) ((rd_T72 x1 x5).f1.f3) ((rd_T72 x1 x5).f2.f0) ((rd_T72 x1 x5).f2.f1) ((rd_T72 x1 x5).f2.f2)).bind fun t284 => (if t284 = true then (cordwoodref10_Same.l0 k x0 x1 (wrap64 (x5 + 1))) else (some false))) else (none)) else (none)) else (some true)
def cordwoodref10_Same.f (k : Nat) (l0 : List (S72)) (l1 : List (S72)) : Option (Bool) := if (l0.length : Int) = (l1.length : Int) then (cordwoodref10_Same.l0 k l0 l1 0) else (some false)
theorem cordwoodref10_Same.mono_l : ∀ k, (∀ y0 y1 y2, LeO (cordwoodref10_Same.l0 k y0 y1 y2) (cordwoodref10_Same.l0 (k + 1) y0 y1 y2))
  | 0 => fun _ _ _ r h => by simp [cordwoodref10_Same.l0] at h
  | k + 1 => by
    have ih0 := cordwoodref10_Same.mono_l k
    · intro y0 y1 y2
      unfold cordwoodref10_Same.l0
      repeat' first
      | (with_reducible exact ih0 _ _ _)
      | (with_reducible exact cordwoodref09_Same.mono _ _ _ _ _ _ _ _ _ _ _ _ _ _ _ _ _)
      | (with_reducible exact LeO.refl _)
      | (with_reducible exact LeO.none _)
      | (with_reducible refine LeO.ite ?_ ?_)
      | (with_reducible refine LeO.bind ?_ (fun _ => ?_))
      | exact ih0 _ _ _
      | exact cordwoodref09_Same.mono _ _ _ _ _ _ _ _ _ _ _ _ _ _ _ _ _
      | exact LeO.none _
      | refine LeO.ite ?_ ?_
      | refine LeO.bind ?_ (fun _ => ?_)
theorem cordwoodref10_Same.mono : ∀ a0 a1 k, LeO (cordwoodref10_Same.f k a0 a1) (cordwoodref10_Same.f (k + 1) a0 a1) := by
  intro a0 a1 k
  have ih0 := cordwoodref10_Same.mono_l k
  unfold cordwoodref10_Same.f
  repeat' first
      | (with_reducible exact ih0 _ _ _)
      | (with_reducible exact cordwoodref09_Same.mono _ _ _ _ _ _ _ _ _ _ _ _ _ _ _ _ _)
      | (with_reducible exact LeO.refl _)
      | (with_reducible exact LeO.none _)
      | (with_reducible refine LeO.ite ?_ ?_)
      | (with_reducible refine LeO.bind ?_ (fun _ => ?_))
      | exact ih0 _ _ _
      | exact cordwoodref09_Same.mono _ _ _ _ _ _ _ _ _ _ _ _ _ _ _ _ _
      | exact LeO.none _
      | refine LeO.ite ?_ ?_
      | refine LeO.bind ?_ (fun _ => ?_)
def cordwoodref10_Same.T6 : Bool × List (List Nat × List Nat) := (true, [([], []), ([], []), ([0, 1], [0, 1]), ([2], [2]), ([], []), ([], []), ([4, 5], [4, 5]), ([6], [6]), ([3, 7], [3, 7]), ([8], [8])])
def cordwoodref10_Same.B6 : List Nat := [0, 0, 3, 7, 0, 0, 48, 112, 255, 511]
theorem cordwoodref10_Same.tab6 : rtab .any (opsOf Try.f14 6) = cordwoodref10_Same.T6 := by kernel_rfl
theorem cordwoodref10_Same.bits6 : waitsOk cordwoodref10_Same.T6.2 cordwoodref10_Same.B6 = true := by kernel_rfl
set_option maxHeartbeats 8000000 in
set_option maxRecDepth 100000 in
theorem cordwoodref10_Same.calls (k : Nat) (A0 : Option Addr) (c0 : Nat) (l0 : List (S72)) (A1 : Option Addr) (c1 : Nat) (l1 : List (S72)) (r : Bool) (w : World) (hr0 : Kd.C k72 w A0 l0.length l0) (hc0 : l0.length ≤ c0) (hr1 : Kd.C k72 w A1 l1.length l1) (hc1 : l1.length ≤ c1) (h : cordwoodref10_Same.f k l0 l1 = some r) :
    Calls Try.prog 14 #[.slice A0 l0.length c0, .slice A1 l1.length c1] w fun e w' => e = .returned (.bool r) ∧ Below w.heap.size w w' := by
  have hu72 := Try.underlying72
  have HR0 := Aside0.mk hr0
  have HC0 := Aside0.mk hc0
  clear hr0 hc0
  have HR1 := Aside0.mk hr1
  have HC1 := Aside0.mk hc1
  clear hr1 hc1
  have HB := Aside0.mk (Below.refl w.heap.size w)
  have H : (if (l0.length : Int) = (l1.length : Int) then (cordwoodref10_Same.l0 k l0 l1 0) else (some false)) = some r := h
  clear h
  by_cases c3 : (l0.length : Int) = (l1.length : Int)
  · rw [if_pos c3] at H
    have c3b0 : ((l0.length : Int) == (l1.length : Int)) = true := beq_iff_eq.mpr c3
    have c3b1 : ((l0.length : Int) != (l1.length : Int)) = false := bne_eq_false_iff_eq.mpr c3
    have c3b2 : (l0.length == l1.length) = true := by first | simpa using c3 | (simp at c3 ⊢; omega)
    clear c3
    have H' := Aside0.mk H
    clear H
    go_enter Try.func14, Try.ntmps14
    go_wp2
    go_loopg [5] k (fun kq v5 w' => ∃ (x5_1 : Int), v5 = .int .i64 x5_1 ∧ Aside0 (cordwoodref10_Same.l0 kq l0 l1 x5_1 = some r) ∧ Aside0 (kq ≤ k) ∧ Aside0 (Below w.heap.size w w'))
    case atStart => exact ⟨(0), (by first | rfl | (simp; done) | (simp [*]; done)), H', ⟨Nat.le_refl _⟩, ⟨by repeat (first | (with_reducible first | exact HB.out | apply below_alloc | apply pw_below_drewN | apply below_drew1) | exact HB.out)⟩⟩
    case round =>
      clear H'
      try clear c1
      try clear p2
      try clear c3
      try clear c3b0
      try clear c3b1
      try clear c3b2
      obtain ⟨x5_1, rfl, HA, HK1, HB⟩ := hrel
      cases gk with
      | zero => exact absurd HA.out (by simp [cordwoodref10_Same.l0])
      | succ k1 =>
        have H := HA.out
        clear HA
        simp only [cordwoodref10_Same.l0] at H
        by_cases c4 : x5_1 < (l0.length : Int)
        · rw [if_pos c4] at H
          have c4b0 : decide (x5_1 < (l0.length : Int)) = true := decide_eq_true c4
          clear c4
          by_cases c5 : 0 ≤ x5_1
          · rw [if_pos c5] at H
            have c5b0 : decide (0 ≤ x5_1) = true := decide_eq_true c5
            clear c5
            by_cases c6 : x5_1 < (l1.length : Int)
            · rw [if_pos c6] at H
              have c6b0 : decide (x5_1 < (l1.length : Int)) = true := decide_eq_true c6
              clear c6
              replace H := Option.bind_eq_some_iff.mp H
              obtain ⟨t284, A70, H⟩ := H
              replace H : (if t284 = true then (cordwoodref10_Same.l0 k1 l0 l1 (wrap64 (x5_1 + 1))) else (some false)) = some r := H
              have A7 := Aside0.mk A70
              clear A70
              by_cases c8 : t284 = true
              · subst c8
                have H1 : (cordwoodref10_Same.l0 k1 l0 l1 (wrap64 (x5_1 + 1))) = some r := by rw [if_pos rfl] at H; exact H
                clear H
                have H := H1
                clear H1
                have H' := Aside0.mk H
                clear H
                try go_wp2
                have n0_ := Aside0.mk (below_drew1 HB.out)
                clear HB
                have HB := n0_
                clear n0_
                have p282 : 0 ≤ (x5_1 : Int) := of_decide_eq_true (by first | (with_reducible assumption) | assumption)
                have q282 : x5_1 < (l0.length : Int) := of_decide_eq_true (by first | (with_reducible assumption) | assumption)
                obtain ⟨ad282, A282_1, c282_1, A282_2, c282_2, A282_4, c282_4, A282_5, c282_5, A282_6, c282_6, A282_7, c282_7, e282, hx282_0, hx282_1, hx282_2, hx282_3, hx282_4, hx282_5, hx282_6, hx282_7, hl282_1, hi282_1, hl282_2, hi282_2, hl282_4, hi282_4, hl282_5, hi282_5, hl282_6, hi282_6, hl282_7, hi282_7⟩ := at_T72 HR0.out x5_1 p282 q282
                have hw282_7 := hx282_7
                have hw282_6 := hx282_6
                have hw282_5 := hx282_5
                have hw282_4 := hx282_4
                have hw282_3 := hx282_3
                have hw282_2 := hx282_2
                have hw282_1 := hx282_1
                have hw282_0 := hx282_0
                cases e282
                replace hx282_0 := (HB.out.cell (World.block_lt_of_cell? w _ hx282_0)).trans hx282_0
                replace hx282_1 := (HB.out.cell (World.block_lt_of_cell? w _ hx282_1)).trans hx282_1
                replace hx282_2 := (HB.out.cell (World.block_lt_of_cell? w _ hx282_2)).trans hx282_2
                replace hx282_3 := (HB.out.cell (World.block_lt_of_cell? w _ hx282_3)).trans hx282_3
                replace hx282_4 := (HB.out.cell (World.block_lt_of_cell? w _ hx282_4)).trans hx282_4
                replace hx282_5 := (HB.out.cell (World.block_lt_of_cell? w _ hx282_5)).trans hx282_5
                replace hx282_6 := (HB.out.cell (World.block_lt_of_cell? w _ hx282_6)).trans hx282_6
                replace hx282_7 := (HB.out.cell (World.block_lt_of_cell? w _ hx282_7)).trans hx282_7
                have HR282_1 := Aside0.mk hi282_1
                have HC282_1 := Aside0.mk hl282_1
                clear hi282_1 hl282_1
                have HR282_2 := Aside0.mk hi282_2
                have HC282_2 := Aside0.mk hl282_2
                clear hi282_2 hl282_2
                have HR282_4 := Aside0.mk hi282_4
                have HC282_4 := Aside0.mk hl282_4
                clear hi282_4 hl282_4
                have HR282_5 := Aside0.mk hi282_5
                have HC282_5 := Aside0.mk hl282_5
                clear hi282_5 hl282_5
                have HR282_6 := Aside0.mk hi282_6
                have HC282_6 := Aside0.mk hl282_6
                clear hi282_6 hl282_6
                have HR282_7 := Aside0.mk hi282_7
                have HC282_7 := Aside0.mk hl282_7
                clear hi282_7 hl282_7
                replace p282 := eq_true p282
                replace q282 := eq_true q282
                have p283 : 0 ≤ (x5_1 : Int) := of_decide_eq_true (by first | (with_reducible assumption) | assumption)
                have q283 : x5_1 < (l1.length : Int) := of_decide_eq_true (by first | (with_reducible assumption) | assumption)
                obtain ⟨ad283, A283_1, c283_1, A283_2, c283_2, A283_4, c283_4, A283_5, c283_5, A283_6, c283_6, A283_7, c283_7, e283, hx283_0, hx283_1, hx283_2, hx283_3, hx283_4, hx283_5, hx283_6, hx283_7, hl283_1, hi283_1, hl283_2, hi283_2, hl283_4, hi283_4, hl283_5, hi283_5, hl283_6, hi283_6, hl283_7, hi283_7⟩ := at_T72 HR1.out x5_1 p283 q283
                have hw283_7 := hx283_7
                have hw283_6 := hx283_6
                have hw283_5 := hx283_5
                have hw283_4 := hx283_4
                have hw283_3 := hx283_3
                have hw283_2 := hx283_2
                have hw283_1 := hx283_1
                have hw283_0 := hx283_0
                cases e283
                replace hx283_0 := (HB.out.cell (World.block_lt_of_cell? w _ hx283_0)).trans hx283_0
                replace hx283_1 := (HB.out.cell (World.block_lt_of_cell? w _ hx283_1)).trans hx283_1
                replace hx283_2 := (HB.out.cell (World.block_lt_of_cell? w _ hx283_2)).trans hx283_2
                replace hx283_3 := (HB.out.cell (World.block_lt_of_cell? w _ hx283_3)).trans hx283_3
                replace hx283_4 := (HB.out.cell (World.block_lt_of_cell? w _ hx283_4)).trans hx283_4
                replace hx283_5 := (HB.out.cell (World.block_lt_of_cell? w _ hx283_5)).trans hx283_5
                replace hx283_6 := (HB.out.cell (World.block_lt_of_cell? w _ hx283_6)).trans hx283_6
                replace hx283_7 := (HB.out.cell (World.block_lt_of_cell? w _ hx283_7)).trans hx283_7
                have HR283_1 := Aside0.mk hi283_1
                have HC283_1 := Aside0.mk hl283_1
                clear hi283_1 hl283_1
                have HR283_2 := Aside0.mk hi283_2
                have HC283_2 := Aside0.mk hl283_2
                clear hi283_2 hl283_2
                have HR283_4 := Aside0.mk hi283_4
                have HC283_4 := Aside0.mk hl283_4
                clear hi283_4 hl283_4
                have HR283_5 := Aside0.mk hi283_5
                have HC283_5 := Aside0.mk hl283_5
                clear hi283_5 hl283_5
                have HR283_6 := Aside0.mk hi283_6
                have HC283_6 := Aside0.mk hl283_6
                clear hi283_6 hl283_6
                have HR283_7 := Aside0.mk hi283_7
                have HC283_7 := Aside0.mk hl283_7
                clear hi283_7 hl283_7
                replace p283 := eq_true p283
                replace q283 := eq_true q283
                refine start_ (n := 10) (S := fun w' => w'.cell? (ad282.add ((x5_1).toNat * 8)) = some (.int .i64 ((rd_T72 l0 x5_1).f0)) ∧ w'.cell? ⟨(ad282.add ((x5_1).toNat * 8)).block, (ad282.add ((x5_1).toNat * 8)).off + 1, none⟩ = some (.slice A282_1 ((rd_T72 l0 x5_1).f1.f0).length c282_1) ∧ w'.cell? ⟨(ad282.add ((x5_1).toNat * 8)).block, (ad282.add ((x5_1).toNat * 8)).off + 2, none⟩ = some (.slice A282_2 ((rd_T72 l0 x5_1).f1.f1).length c282_2) ∧ w'.cell? ⟨(ad282.add ((x5_1).toNat * 8)).block, (ad282.add ((x5_1).toNat * 8)).off + 3, none⟩ = some (.int .i64 ((rd_T72 l0 x5_1).f1.f2)) ∧ w'.cell? ⟨(ad282.add ((x5_1).toNat * 8)).block, (ad282.add ((x5_1).toNat * 8)).off + 4, none⟩ = some (.slice A282_4 ((rd_T72 l0 x5_1).f1.f3).length c282_4) ∧ w'.cell? ⟨(ad282.add ((x5_1).toNat * 8)).block, (ad282.add ((x5_1).toNat * 8)).off + 5, none⟩ = some (.slice A282_5 ((rd_T72 l0 x5_1).f2.f0).length c282_5) ∧ w'.cell? ⟨(ad282.add ((x5_1).toNat * 8)).block, (ad282.add ((x5_1).toNat * 8)).off + 6, none⟩ = some (.slice A282_6 ((rd_T72 l0 x5_1).f2.f1).length c282_6) ∧ w'.cell? ⟨(ad282.add ((x5_1).toNat * 8)).block, (ad282.add ((x5_1).toNat * 8)).off + 7, none⟩ = some (.slice A282_7 ((rd_T72 l0 x5_1).f2.f2).length c282_7) ∧ w'.cell? (ad283.add ((x5_1).toNat * 8)) = some (.int .i64 ((rd_T72 l1 x5_1).f0)) ∧ w'.cell? ⟨(ad283.add ((x5_1).toNat * 8)).block, (ad283.add ((x5_1).toNat * 8)).off + 1, none⟩ = some (.slice A283_1 ((rd_T72 l1 x5_1).f1.f0).length c283_1) ∧ w'.cell? ⟨(ad283.add ((x5_1).toNat * 8)).block, (ad283.add ((x5_1).toNat * 8)).off + 2, none⟩ = some (.slice A283_2 ((rd_T72 l1 x5_1).f1.f1).length c283_2) ∧ w'.cell? ⟨(ad283.add ((x5_1).toNat * 8)).block, (ad283.add ((x5_1).toNat * 8)).off + 3, none⟩ = some (.int .i64 ((rd_T72 l1 x5_1).f1.f2)) ∧ w'.cell? ⟨(ad283.add ((x5_1).toNat * 8)).block, (ad283.add ((x5_1).toNat * 8)).off + 4, none⟩ = some (.slice A283_4 ((rd_T72 l1 x5_1).f1.f3).length c283_4) ∧ w'.cell? ⟨(ad283.add ((x5_1).toNat * 8)).block, (ad283.add ((x5_1).toNat * 8)).off + 5, none⟩ = some (.slice A283_5 ((rd_T72 l1 x5_1).f2.f0).length c283_5) ∧ w'.cell? ⟨(ad283.add ((x5_1).toNat * 8)).block, (ad283.add ((x5_1).toNat * 8)).off + 6, none⟩ = some (.slice A283_6 ((rd_T72 l1 x5_1).f2.f1).length c283_6) ∧ w'.cell? ⟨(ad283.add ((x5_1).toNat * 8)).block, (ad283.add ((x5_1).toNat * 8)).off + 7, none⟩ = some (.slice A283_7 ((rd_T72 l1 x5_1).f2.f2).length c283_7)) (ds := []) #[false, false, false, false, false, false, false, false, false, false] (by kernel_rfl) rfl rfl ⟨((HB.out.cell (World.block_lt_of_cell? w _ hw282_0)).trans hw282_0), ((HB.out.cell (World.block_lt_of_cell? w _ hw282_1)).trans hw282_1), ((HB.out.cell (World.block_lt_of_cell? w _ hw282_2)).trans hw282_2), ((HB.out.cell (World.block_lt_of_cell? w _ hw282_3)).trans hw282_3), ((HB.out.cell (World.block_lt_of_cell? w _ hw282_4)).trans hw282_4), ((HB.out.cell (World.block_lt_of_cell? w _ hw282_5)).trans hw282_5), ((HB.out.cell (World.block_lt_of_cell? w _ hw282_6)).trans hw282_6), ((HB.out.cell (World.block_lt_of_cell? w _ hw282_7)).trans hw282_7), ((HB.out.cell (World.block_lt_of_cell? w _ hw283_0)).trans hw283_0), ((HB.out.cell (World.block_lt_of_cell? w _ hw283_1)).trans hw283_1), ((HB.out.cell (World.block_lt_of_cell? w _ hw283_2)).trans hw283_2), ((HB.out.cell (World.block_lt_of_cell? w _ hw283_3)).trans hw283_3), ((HB.out.cell (World.block_lt_of_cell? w _ hw283_4)).trans hw283_4), ((HB.out.cell (World.block_lt_of_cell? w _ hw283_5)).trans hw283_5), ((HB.out.cell (World.block_lt_of_cell? w _ hw283_6)).trans hw283_6), ((HB.out.cell (World.block_lt_of_cell? w _ hw283_7)).trans hw283_7)⟩ (fun hHeld => ?_); refine with_tabW cordwoodref10_Same.tab6 cordwoodref10_Same.bits6 (fun HT_ HW_ => ?_)
                generalize wr.drew = w9 at HB HR282_1 HR282_2 HR282_4 HR282_5 HR282_6 HR282_7 HR283_1 HR283_2 HR283_4 HR283_5 HR283_6 HR283_7 hx282_0 hx282_1 hx282_2 hx282_3 hx282_4 hx282_5 hx282_6 hx282_7 hx283_0 hx283_1 hx283_2 hx283_3 hx283_4 hx283_5 hx283_6 hx283_7 hHeld ⊢
                refine pure_ (i := 0) (N := some 17) (v := ?_) (a' := ?_) #[true, false, false, false, false, false, false, false, false, false] rfl rfl (any_of HT_.out (by kernel_rfl)) (fun _ _ _ h => h) (Or.inl ⟨by rfl, ?_⟩) ?_ ?_
                rotate_left
                · intro w'
                  go_simp
                  with_reducible rfl
                rotate_left
                · simp only [Act.put, List.setIfInBounds_toArray, List.set_cons_zero, List.set_cons_succ, i64_w, i32_w]
                  rfl
                refine pure_ (i := 1) (N := some 18) (v := ?_) (a' := ?_) #[true, true, false, false, false, false, false, false, false, false] rfl rfl (any_of HT_.out (by kernel_rfl)) (fun _ _ _ h => h) (Or.inl ⟨by rfl, ?_⟩) ?_ ?_
                rotate_left
                · intro w'
                  go_simp
                  with_reducible rfl
                rotate_left
                · simp only [Act.put, List.setIfInBounds_toArray, List.set_cons_zero, List.set_cons_succ, i64_w, i32_w]
                  rfl
                refine pure_ (i := 2) (N := some 19) (v := ?_) (a' := ?_) #[true, true, true, false, false, false, false, false, false, false] rfl rfl (any_of HT_.out (by kernel_rfl)) (fun _ _ _ h => h) (Or.inl ⟨by rfl, ?_⟩) ?_ ?_
                rotate_left
                · intro w'
                  go_simp
                  with_reducible rfl
                rotate_left
                · simp only [Act.put, List.setIfInBounds_toArray, List.set_cons_zero, List.set_cons_succ, i64_w, i32_w]
                  rfl
                refine pure_ (i := 4) (N := some 21) (v := ?_) (a' := ?_) #[true, true, true, false, true, false, false, false, false, false] rfl rfl (any_of HT_.out (by kernel_rfl)) (fun _ _ _ h => h) (Or.inl ⟨by rfl, ?_⟩) ?_ ?_
                rotate_left
                · intro w'
                  go_simp
                  with_reducible rfl
                rotate_left
                · simp only [Act.put, List.setIfInBounds_toArray, List.set_cons_zero, List.set_cons_succ, i64_w, i32_w]
                  rfl
                refine pure_ (i := 5) (N := some 22) (v := ?_) (a' := ?_) #[true, true, true, false, true, true, false, false, false, false] rfl rfl (any_of HT_.out (by kernel_rfl)) (fun _ _ _ h => h) (Or.inl ⟨by rfl, ?_⟩) ?_ ?_
                rotate_left
                · intro w'
                  go_simp
                  with_reducible rfl
                rotate_left
                · simp only [Act.put, List.setIfInBounds_toArray, List.set_cons_zero, List.set_cons_succ, i64_w, i32_w]
                  rfl
                refine pure_ (i := 6) (N := some 23) (v := ?_) (a' := ?_) #[true, true, true, false, true, true, true, false, false, false] rfl rfl (any_of HT_.out (by kernel_rfl)) (fun _ _ _ h => h) (Or.inl ⟨by rfl, ?_⟩) ?_ ?_
                rotate_left
                · intro w'
                  go_simp
                  with_reducible rfl
                rotate_left
                · simp only [Act.put, List.setIfInBounds_toArray, List.set_cons_zero, List.set_cons_succ, i64_w, i32_w]
                  rfl
                refine take_ (i := 3) (N := some 20) (v := ?_) (a' := ?_) #[true, true, true, true, true, true, true, false, false, false] rfl rfl (take_ofW HT_.out HW_.out (by kernel_rfl)) (fun _ _ _ h => h) (Or.inl ⟨by rfl, ?_⟩) hHeld ?_ ?_
                rotate_left
                · rintro w' ⟨s0, s1, s2, s3, s4, s5, s6, s7, s8, s9, s10, s11, s12, s13, s14, s15⟩
                  go_simp
                  with_reducible rfl
                rotate_left
                · simp only [Act.put, List.setIfInBounds_toArray, List.set_cons_zero, List.set_cons_succ, i64_w, i32_w]
                  rfl
                refine take_ (i := 7) (N := some 24) (v := ?_) (a' := ?_) #[true, true, true, true, true, true, true, true, false, false] rfl rfl (take_ofW HT_.out HW_.out (by kernel_rfl)) (fun _ _ _ h => h) (Or.inl ⟨by rfl, ?_⟩) hHeld ?_ ?_
                rotate_left
                · rintro w' ⟨s0, s1, s2, s3, s4, s5, s6, s7, s8, s9, s10, s11, s12, s13, s14, s15⟩
                  go_simp
                  with_reducible rfl
                rotate_left
                · simp only [Act.put, List.setIfInBounds_toArray, List.set_cons_zero, List.set_cons_succ, i64_w, i32_w]
                  rfl
                refine one_ (i := 8) (N := some 25) #[true, true, true, true, true, true, true, true, true, false] rfl rfl (one_of HT_.out (by kernel_rfl)) (by decide) (fun K hK => ?_)
                refine goes_ Try.func29 (by kernel_rfl) rfl #[.agg #[.int .i64 ((rd_T72 l0 x5_1).f0), .slice A282_1 ((rd_T72 l0 x5_1).f1.f0).length c282_1, .slice A282_2 ((rd_T72 l0 x5_1).f1.f1).length c282_2, .int .i64 ((rd_T72 l0 x5_1).f1.f2), .slice A282_4 ((rd_T72 l0 x5_1).f1.f3).length c282_4, .slice A282_5 ((rd_T72 l0 x5_1).f2.f0).length c282_5, .slice A282_6 ((rd_T72 l0 x5_1).f2.f1).length c282_6, .slice A282_7 ((rd_T72 l0 x5_1).f2.f2).length c282_7], .agg #[.int .i64 ((rd_T72 l1 x5_1).f0), .slice A283_1 ((rd_T72 l1 x5_1).f1.f0).length c283_1, .slice A283_2 ((rd_T72 l1 x5_1).f1.f1).length c283_2, .int .i64 ((rd_T72 l1 x5_1).f1.f2), .slice A283_4 ((rd_T72 l1 x5_1).f1.f3).length c283_4, .slice A283_5 ((rd_T72 l1 x5_1).f2.f0).length c283_5, .slice A283_6 ((rd_T72 l1 x5_1).f2.f1).length c283_6, .slice A283_7 ((rd_T72 l1 x5_1).f2.f2).length c283_7]] (by rfl) rfl rfl (by (try simp only [List.map_toArray, List.map_cons, List.map_nil]); first | done | rfl | (simp only [List.length_drop, List.length_take]; rfl)) ?_
                with_reducible refine (cordwoodref09_Same.calls k1 ((rd_T72 l0 x5_1).f0) _ _ ((rd_T72 l0 x5_1).f1.f0) _ _ ((rd_T72 l0 x5_1).f1.f1) ((rd_T72 l0 x5_1).f1.f2) _ _ ((rd_T72 l0 x5_1).f1.f3) _ _ ((rd_T72 l0 x5_1).f2.f0) _ _ ((rd_T72 l0 x5_1).f2.f1) _ _ ((rd_T72 l0 x5_1).f2.f2) ((rd_T72 l1 x5_1).f0) _ _ ((rd_T72 l1 x5_1).f1.f0) _ _ ((rd_T72 l1 x5_1).f1.f1) ((rd_T72 l1 x5_1).f1.f2) _ _ ((rd_T72 l1 x5_1).f1.f3) _ _ ((rd_T72 l1 x5_1).f2.f0) _ _ ((rd_T72 l1 x5_1).f2.f1) _ _ ((rd_T72 l1 x5_1).f2.f2) true _ ?side1 ?side2 ?side3 ?side4 ?side5 ?side6 ?side7 ?side8 ?side9 ?side10 ?side11 ?side12 ?side13 ?side14 ?side15 ?side16 ?side17 ?side18 ?side19 ?side20 ?side21 ?side22 ?side23 ?side24 A7.out).mono ?_
                (case side1 => repeat (first | exact (Kd.C_below HR282_1.out HB.out) | (with_reducible refine Kd.C_alloc ?_ _) | (with_reducible refine Kd.C_drewN ?_ _) | (with_reducible refine Kd.C_drew ?_)))
                (case side2 => exact HC282_1.out)
                (case side3 => repeat (first | exact (Kd.C_below HR282_2.out HB.out) | (with_reducible refine Kd.C_alloc ?_ _) | (with_reducible refine Kd.C_drewN ?_ _) | (with_reducible refine Kd.C_drew ?_)))
                (case side4 => exact HC282_2.out)
                (case side5 => repeat (first | exact (Kd.C_below HR282_4.out HB.out) | (with_reducible refine Kd.C_alloc ?_ _) | (with_reducible refine Kd.C_drewN ?_ _) | (with_reducible refine Kd.C_drew ?_)))
                (case side6 => exact HC282_4.out)
                (case side7 => repeat (first | exact (Kd.C_below HR282_5.out HB.out) | (with_reducible refine Kd.C_alloc ?_ _) | (with_reducible refine Kd.C_drewN ?_ _) | (with_reducible refine Kd.C_drew ?_)))
                (case side8 => exact HC282_5.out)
                (case side9 => repeat (first | exact (Kd.C_below HR282_6.out HB.out) | (with_reducible refine Kd.C_alloc ?_ _) | (with_reducible refine Kd.C_drewN ?_ _) | (with_reducible refine Kd.C_drew ?_)))
                (case side10 => exact HC282_6.out)
                (case side11 => repeat (first | exact (Kd.C_below HR282_7.out HB.out) | (with_reducible refine Kd.C_alloc ?_ _) | (with_reducible refine Kd.C_drewN ?_ _) | (with_reducible refine Kd.C_drew ?_)))
                (case side12 => exact HC282_7.out)
                (case side13 => repeat (first | exact (Kd.C_below HR283_1.out HB.out) | (with_reducible refine Kd.C_alloc ?_ _) | (with_reducible refine Kd.C_drewN ?_ _) | (with_reducible refine Kd.C_drew ?_)))
                (case side14 => exact HC283_1.out)
                (case side15 => repeat (first | exact (Kd.C_below HR283_2.out HB.out) | (with_reducible refine Kd.C_alloc ?_ _) | (with_reducible refine Kd.C_drewN ?_ _) | (with_reducible refine Kd.C_drew ?_)))
                (case side16 => exact HC283_2.out)
                (case side17 => repeat (first | exact (Kd.C_below HR283_4.out HB.out) | (with_reducible refine Kd.C_alloc ?_ _) | (with_reducible refine Kd.C_drewN ?_ _) | (with_reducible refine Kd.C_drew ?_)))
                (case side18 => exact HC283_4.out)
                (case side19 => repeat (first | exact (Kd.C_below HR283_5.out HB.out) | (with_reducible refine Kd.C_alloc ?_ _) | (with_reducible refine Kd.C_drewN ?_ _) | (with_reducible refine Kd.C_drew ?_)))
                (case side20 => exact HC283_5.out)
                (case side21 => repeat (first | exact (Kd.C_below HR283_6.out HB.out) | (with_reducible refine Kd.C_alloc ?_ _) | (with_reducible refine Kd.C_drewN ?_ _) | (with_reducible refine Kd.C_drew ?_)))
                (case side22 => exact HC283_6.out)
                (case side23 => repeat (first | exact (Kd.C_below HR283_7.out HB.out) | (with_reducible refine Kd.C_alloc ?_ _) | (with_reducible refine Kd.C_drewN ?_ _) | (with_reducible refine Kd.C_drew ?_)))
                (case side24 => exact HC283_7.out)
                rintro e w10 ⟨rfl, hb⟩
                refine ⟨_, rfl, ?_⟩
                have n0_ := Aside0.mk (below_step (by repeat (first | (with_reducible first | exact HB.out | apply below_alloc | apply pw_below_drewN | apply below_drew1) | exact HB.out)) hb)
                clear HB
                have HB := n0_
                clear n0_
                (try clear hb)
                (try clear hb2)
                (try clear hk)
                (try clear hi)
                refine hK.out _ _ ⟨((HB.out.cell (World.block_lt_of_cell? w _ hw282_0)).trans hw282_0), ((HB.out.cell (World.block_lt_of_cell? w _ hw282_1)).trans hw282_1), ((HB.out.cell (World.block_lt_of_cell? w _ hw282_2)).trans hw282_2), ((HB.out.cell (World.block_lt_of_cell? w _ hw282_3)).trans hw282_3), ((HB.out.cell (World.block_lt_of_cell? w _ hw282_4)).trans hw282_4), ((HB.out.cell (World.block_lt_of_cell? w _ hw282_5)).trans hw282_5), ((HB.out.cell (World.block_lt_of_cell? w _ hw282_6)).trans hw282_6), ((HB.out.cell (World.block_lt_of_cell? w _ hw282_7)).trans hw282_7), ((HB.out.cell (World.block_lt_of_cell? w _ hw283_0)).trans hw283_0), ((HB.out.cell (World.block_lt_of_cell? w _ hw283_1)).trans hw283_1), ((HB.out.cell (World.block_lt_of_cell? w _ hw283_2)).trans hw283_2), ((HB.out.cell (World.block_lt_of_cell? w _ hw283_3)).trans hw283_3), ((HB.out.cell (World.block_lt_of_cell? w _ hw283_4)).trans hw283_4), ((HB.out.cell (World.block_lt_of_cell? w _ hw283_5)).trans hw283_5), ((HB.out.cell (World.block_lt_of_cell? w _ hw283_6)).trans hw283_6), ((HB.out.cell (World.block_lt_of_cell? w _ hw283_7)).trans hw283_7)⟩ (fun hHeld => ?_)
                clear hK K
                refine norm_ (a' := ?_) ?_ ?_
                rotate_left
                · show Act.put _ (some 25) _ = _
                  simp only [Act.put, List.setIfInBounds_toArray, List.set_cons_zero, List.set_cons_succ, i64_w, i32_w]
                  rfl
                refine pure_ (i := 9) (N := some 26) (v := ?_) (a' := ?_) #[true, true, true, true, true, true, true, true, true, true] rfl rfl (any_of HT_.out (by kernel_rfl)) (fun _ _ _ h => h) (Or.inl ⟨by rfl, ?_⟩) ?_ ?_
                rotate_left
                · intro w'
                  go_simp
                  with_reducible rfl
                rotate_left
                · simp only [Act.put, List.setIfInBounds_toArray, List.set_cons_zero, List.set_cons_succ, i64_w, i32_w]
                  rfl
                refine done_ (done_of HT_.out (by kernel_rfl)) ?_
                try go_wp2
                go_roundg k1
                case measure => have := HK1.out; omega
                case rel => exact ⟨(wrap64 (x5_1 + 1)), (by first | rfl | (simp; done) | (simp [*]; done)), H', ⟨by have := HK1.out; omega⟩, ⟨by repeat (first | (with_reducible first | exact HB.out | apply below_alloc | apply pw_below_drewN | apply below_drew1) | exact HB.out)⟩⟩
              · replace c8 := Bool.eq_false_iff.mpr c8
                subst c8
                have H1 : (some false) = some r := by rw [if_neg (show ¬ (false = true) by decide)] at H; exact H
                clear H
                have H := H1
                clear H1
                obtain rfl := Option.some.inj H
                try go_wp2
                have n0_ := Aside0.mk (below_drew1 HB.out)
                clear HB
                have HB := n0_
                clear n0_
                have p282 : 0 ≤ (x5_1 : Int) := of_decide_eq_true (by first | (with_reducible assumption) | assumption)
                have q282 : x5_1 < (l0.length : Int) := of_decide_eq_true (by first | (with_reducible assumption) | assumption)
                obtain ⟨ad282, A282_1, c282_1, A282_2, c282_2, A282_4, c282_4, A282_5, c282_5, A282_6, c282_6, A282_7, c282_7, e282, hx282_0, hx282_1, hx282_2, hx282_3, hx282_4, hx282_5, hx282_6, hx282_7, hl282_1, hi282_1, hl282_2, hi282_2, hl282_4, hi282_4, hl282_5, hi282_5, hl282_6, hi282_6, hl282_7, hi282_7⟩ := at_T72 HR0.out x5_1 p282 q282
                have hw282_7 := hx282_7
                have hw282_6 := hx282_6
                have hw282_5 := hx282_5
                have hw282_4 := hx282_4
                have hw282_3 := hx282_3
                have hw282_2 := hx282_2
                have hw282_1 := hx282_1
                have hw282_0 := hx282_0
                cases e282
                replace hx282_0 := (HB.out.cell (World.block_lt_of_cell? w _ hx282_0)).trans hx282_0
                replace hx282_1 := (HB.out.cell (World.block_lt_of_cell? w _ hx282_1)).trans hx282_1
                replace hx282_2 := (HB.out.cell (World.block_lt_of_cell? w _ hx282_2)).trans hx282_2
                replace hx282_3 := (HB.out.cell (World.block_lt_of_cell? w _ hx282_3)).trans hx282_3
                replace hx282_4 := (HB.out.cell (World.block_lt_of_cell? w _ hx282_4)).trans hx282_4
                replace hx282_5 := (HB.out.cell (World.block_lt_of_cell? w _ hx282_5)).trans hx282_5
                replace hx282_6 := (HB.out.cell (World.block_lt_of_cell? w _ hx282_6)).trans hx282_6
                replace hx282_7 := (HB.out.cell (World.block_lt_of_cell? w _ hx282_7)).trans hx282_7
                have HR282_1 := Aside0.mk hi282_1
                have HC282_1 := Aside0.mk hl282_1
                clear hi282_1 hl282_1
                have HR282_2 := Aside0.mk hi282_2
                have HC282_2 := Aside0.mk hl282_2
                clear hi282_2 hl282_2
                have HR282_4 := Aside0.mk hi282_4
                have HC282_4 := Aside0.mk hl282_4
                clear hi282_4 hl282_4
                have HR282_5 := Aside0.mk hi282_5
                have HC282_5 := Aside0.mk hl282_5
                clear hi282_5 hl282_5
                have HR282_6 := Aside0.mk hi282_6
                have HC282_6 := Aside0.mk hl282_6
                clear hi282_6 hl282_6
                have HR282_7 := Aside0.mk hi282_7
                have HC282_7 := Aside0.mk hl282_7
                clear hi282_7 hl282_7
                replace p282 := eq_true p282
                replace q282 := eq_true q282
                have p283 : 0 ≤ (x5_1 : Int) := of_decide_eq_true (by first | (with_reducible assumption) | assumption)
                have q283 : x5_1 < (l1.length : Int) := of_decide_eq_true (by first | (with_reducible assumption) | assumption)
                obtain ⟨ad283, A283_1, c283_1, A283_2, c283_2, A283_4, c283_4, A283_5, c283_5, A283_6, c283_6, A283_7, c283_7, e283, hx283_0, hx283_1, hx283_2, hx283_3, hx283_4, hx283_5, hx283_6, hx283_7, hl283_1, hi283_1, hl283_2, hi283_2, hl283_4, hi283_4, hl283_5, hi283_5, hl283_6, hi283_6, hl283_7, hi283_7⟩ := at_T72 HR1.out x5_1 p283 q283
                have hw283_7 := hx283_7
                have hw283_6 := hx283_6
                have hw283_5 := hx283_5
                have hw283_4 := hx283_4
                have hw283_3 := hx283_3
                have hw283_2 := hx283_2
                have hw283_1 := hx283_1
                have hw283_0 := hx283_0
                cases e283
                replace hx283_0 := (HB.out.cell (World.block_lt_of_cell? w _ hx283_0)).trans hx283_0
                replace hx283_1 := (HB.out.cell (World.block_lt_of_cell? w _ hx283_1)).trans hx283_1
                replace hx283_2 := (HB.out.cell (World.block_lt_of_cell? w _ hx283_2)).trans hx283_2
                replace hx283_3 := (HB.out.cell (World.block_lt_of_cell? w _ hx283_3)).trans hx283_3
                replace hx283_4 := (HB.out.cell (World.block_lt_of_cell? w _ hx283_4)).trans hx283_4
                replace hx283_5 := (HB.out.cell (World.block_lt_of_cell? w _ hx283_5)).trans hx283_5
                replace hx283_6 := (HB.out.cell (World.block_lt_of_cell? w _ hx283_6)).trans hx283_6
                replace hx283_7 := (HB.out.cell (World.block_lt_of_cell? w _ hx283_7)).trans hx283_7
                have HR283_1 := Aside0.mk hi283_1
                have HC283_1 := Aside0.mk hl283_1
                clear hi283_1 hl283_1
                have HR283_2 := Aside0.mk hi283_2
                have HC283_2 := Aside0.mk hl283_2
                clear hi283_2 hl283_2
                have HR283_4 := Aside0.mk hi283_4
                have HC283_4 := Aside0.mk hl283_4
                clear hi283_4 hl283_4
                have HR283_5 := Aside0.mk hi283_5
                have HC283_5 := Aside0.mk hl283_5
                clear hi283_5 hl283_5
                have HR283_6 := Aside0.mk hi283_6
                have HC283_6 := Aside0.mk hl283_6
                clear hi283_6 hl283_6
                have HR283_7 := Aside0.mk hi283_7
                have HC283_7 := Aside0.mk hl283_7
                clear hi283_7 hl283_7
                replace p283 := eq_true p283
                replace q283 := eq_true q283
                refine start_ (n := 10) (S := fun w' => w'.cell? (ad282.add ((x5_1).toNat * 8)) = some (.int .i64 ((rd_T72 l0 x5_1).f0)) ∧ w'.cell? ⟨(ad282.add ((x5_1).toNat * 8)).block, (ad282.add ((x5_1).toNat * 8)).off + 1, none⟩ = some (.slice A282_1 ((rd_T72 l0 x5_1).f1.f0).length c282_1) ∧ w'.cell? ⟨(ad282.add ((x5_1).toNat * 8)).block, (ad282.add ((x5_1).toNat * 8)).off + 2, none⟩ = some (.slice A282_2 ((rd_T72 l0 x5_1).f1.f1).length c282_2) ∧ w'.cell? ⟨(ad282.add ((x5_1).toNat * 8)).block, (ad282.add ((x5_1).toNat * 8)).off + 3, none⟩ = some (.int .i64 ((rd_T72 l0 x5_1).f1.f2)) ∧ w'.cell? ⟨(ad282.add ((x5_1).toNat * 8)).block, (ad282.add ((x5_1).toNat * 8)).off + 4, none⟩ = some (.slice A282_4 ((rd_T72 l0 x5_1).f1.f3).length c282_4) ∧ w'.cell? ⟨(ad282.add ((x5_1).toNat * 8)).block, (ad282.add ((x5_1).toNat * 8)).off + 5, none⟩ = some (.slice A282_5 ((rd_T72 l0 x5_1).f2.f0).length c282_5) ∧ w'.cell? ⟨(ad282.add ((x5_1).toNat * 8)).block, (ad282.add ((x5_1).toNat * 8)).off + 6, none⟩ = some (.slice A282_6 ((rd_T72 l0 x5_1).f2.f1).length c282_6) ∧ w'.cell? ⟨(ad282.add ((x5_1).toNat * 8)).block, (ad282.add ((x5_1).toNat * 8)).off + 7, none⟩ = some (.slice A282_7 ((rd_T72 l0 x5_1).f2.f2).length c282_7) ∧ w'.cell? (ad283.add ((x5_1).toNat * 8)) = some (.int .i64 ((rd_T72 l1 x5_1).f0)) ∧ w'.cell? ⟨(ad283.add ((x5_1).toNat * 8)).block, (ad283.add ((x5_1).toNat * 8)).off + 1, none⟩ = some (.slice A283_1 ((rd_T72 l1 x5_1).f1.f0).length c283_1) ∧ w'.cell? ⟨(ad283.add ((x5_1).toNat * 8)).block, (ad283.add ((x5_1).toNat * 8)).off + 2, none⟩ = some (.slice A283_2 ((rd_T72 l1 x5_1).f1.f1).length c283_2) ∧ w'.cell? ⟨(ad283.add ((x5_1).toNat * 8)).block, (ad283.add ((x5_1).toNat * 8)).off + 3, none⟩ = some (.int .i64 ((rd_T72 l1 x5_1).f1.f2)) ∧ w'.cell? ⟨(ad283.add ((x5_1).toNat * 8)).block, (ad283.add ((x5_1).toNat * 8)).off + 4, none⟩ = some (.slice A283_4 ((rd_T72 l1 x5_1).f1.f3).length c283_4) ∧ w'.cell? ⟨(ad283.add ((x5_1).toNat * 8)).block, (ad283.add ((x5_1).toNat * 8)).off + 5, none⟩ = some (.slice A283_5 ((rd_T72 l1 x5_1).f2.f0).length c283_5) ∧ w'.cell? ⟨(ad283.add ((x5_1).toNat * 8)).block, (ad283.add ((x5_1).toNat * 8)).off + 6, none⟩ = some (.slice A283_6 ((rd_T72 l1 x5_1).f2.f1).length c283_6) ∧ w'.cell? ⟨(ad283.add ((x5_1).toNat * 8)).block, (ad283.add ((x5_1).toNat * 8)).off + 7, none⟩ = some (.slice A283_7 ((rd_T72 l1 x5_1).f2.f2).length c283_7)) (ds := []) #[false, false, false, false, false, false, false, false, false, false] (by kernel_rfl) rfl rfl ⟨((HB.out.cell (World.block_lt_of_cell? w _ hw282_0)).trans hw282_0), ((HB.out.cell (World.block_lt_of_cell? w _ hw282_1)).trans hw282_1), ((HB.out.cell (World.block_lt_of_cell? w _ hw282_2)).trans hw282_2), ((HB.out.cell (World.block_lt_of_cell? w _ hw282_3)).trans hw282_3), ((HB.out.cell (World.block_lt_of_cell? w _ hw282_4)).trans hw282_4), ((HB.out.cell (World.block_lt_of_cell? w _ hw282_5)).trans hw282_5), ((HB.out.cell (World.block_lt_of_cell? w _ hw282_6)).trans hw282_6), ((HB.out.cell (World.block_lt_of_cell? w _ hw282_7)).trans hw282_7), ((HB.out.cell (World.block_lt_of_cell? w _ hw283_0)).trans hw283_0), ((HB.out.cell (World.block_lt_of_cell? w _ hw283_1)).trans hw283_1), ((HB.out.cell (World.block_lt_of_cell? w _ hw283_2)).trans hw283_2), ((HB.out.cell (World.block_lt_of_cell? w _ hw283_3)).trans hw283_3), ((HB.out.cell (World.block_lt_of_cell? w _ hw283_4)).trans hw283_4), ((HB.out.cell (World.block_lt_of_cell? w _ hw283_5)).trans hw283_5), ((HB.out.cell (World.block_lt_of_cell? w _ hw283_6)).trans hw283_6), ((HB.out.cell (World.block_lt_of_cell? w _ hw283_7)).trans hw283_7)⟩ (fun hHeld => ?_); refine with_tabW cordwoodref10_Same.tab6 cordwoodref10_Same.bits6 (fun HT_ HW_ => ?_)
                generalize wr.drew = w11 at HB HR282_1 HR282_2 HR282_4 HR282_5 HR282_6 HR282_7 HR283_1 HR283_2 HR283_4 HR283_5 HR283_6 HR283_7 hx282_0 hx282_1 hx282_2 hx282_3 hx282_4 hx282_5 hx282_6 hx282_7 hx283_0 hx283_1 hx283_2 hx283_3 hx283_4 hx283_5 hx283_6 hx283_7 hHeld ⊢
                refine pure_ (i := 0) (N := some 17) (v := ?_) (a' := ?_) #[true, false, false, false, false, false, false, false, false, false] rfl rfl (any_of HT_.out (by kernel_rfl)) (fun _ _ _ h => h) (Or.inl ⟨by rfl, ?_⟩) ?_ ?_
                rotate_left
                · intro w'
                  go_simp
                  with_reducible rfl
                rotate_left
                · simp only [Act.put, List.setIfInBounds_toArray, List.set_cons_zero, List.set_cons_succ, i64_w, i32_w]
                  rfl
                refine pure_ (i := 1) (N := some 18) (v := ?_) (a' := ?_) #[true, true, false, false, false, false, false, false, false, false] rfl rfl (any_of HT_.out (by kernel_rfl)) (fun _ _ _ h => h) (Or.inl ⟨by rfl, ?_⟩) ?_ ?_
                rotate_left
                · intro w'
                  go_simp
                  with_reducible rfl
                rotate_left
                · simp only [Act.put, List.setIfInBounds_toArray, List.set_cons_zero, List.set_cons_succ, i64_w, i32_w]
                  rfl
                refine pure_ (i := 2) (N := some 19) (v := ?_) (a' := ?_) #[true, true, true, false, false, false, false, false, false, false] rfl rfl (any_of HT_.out (by kernel_rfl)) (fun _ _ _ h => h) (Or.inl ⟨by rfl, ?_⟩) ?_ ?_
                rotate_left
                · intro w'
                  go_simp
                  with_reducible rfl
                rotate_left
                · simp only [Act.put, List.setIfInBounds_toArray, List.set_cons_zero, List.set_cons_succ, i64_w, i32_w]
                  rfl
                refine pure_ (i := 4) (N := some 21) (v := ?_) (a' := ?_) #[true, true, true, false, true, false, false, false, false, false] rfl rfl (any_of HT_.out (by kernel_rfl)) (fun _ _ _ h => h) (Or.inl ⟨by rfl, ?_⟩) ?_ ?_
                rotate_left
                · intro w'
                  go_simp
                  with_reducible rfl
                rotate_left
                · simp only [Act.put, List.setIfInBounds_toArray, List.set_cons_zero, List.set_cons_succ, i64_w, i32_w]
                  rfl
                refine pure_ (i := 5) (N := some 22) (v := ?_) (a' := ?_) #[true, true, true, false, true, true, false, false, false, false] rfl rfl (any_of HT_.out (by kernel_rfl)) (fun _ _ _ h => h) (Or.inl ⟨by rfl, ?_⟩) ?_ ?_
                rotate_left
                · intro w'
                  go_simp
                  with_reducible rfl
                rotate_left
                · simp only [Act.put, List.setIfInBounds_toArray, List.set_cons_zero, List.set_cons_succ, i64_w, i32_w]
                  rfl
                refine pure_ (i := 6) (N := some 23) (v := ?_) (a' := ?_) #[true, true, true, false, true, true, true, false, false, false] rfl rfl (any_of HT_.out (by kernel_rfl)) (fun _ _ _ h => h) (Or.inl ⟨by rfl, ?_⟩) ?_ ?_
                rotate_left
                · intro w'
                  go_simp
                  with_reducible rfl
                rotate_left
                · simp only [Act.put, List.setIfInBounds_toArray, List.set_cons_zero, List.set_cons_succ, i64_w, i32_w]
                  rfl
                refine take_ (i := 3) (N := some 20) (v := ?_) (a' := ?_) #[true, true, true, true, true, true, true, false, false, false] rfl rfl (take_ofW HT_.out HW_.out (by kernel_rfl)) (fun _ _ _ h => h) (Or.inl ⟨by rfl, ?_⟩) hHeld ?_ ?_
                rotate_left
                · rintro w' ⟨s0, s1, s2, s3, s4, s5, s6, s7, s8, s9, s10, s11, s12, s13, s14, s15⟩
                  go_simp
                  with_reducible rfl
                rotate_left
                · simp only [Act.put, List.setIfInBounds_toArray, List.set_cons_zero, List.set_cons_succ, i64_w, i32_w]
                  rfl
                refine take_ (i := 7) (N := some 24) (v := ?_) (a' := ?_) #[true, true, true, true, true, true, true, true, false, false] rfl rfl (take_ofW HT_.out HW_.out (by kernel_rfl)) (fun _ _ _ h => h) (Or.inl ⟨by rfl, ?_⟩) hHeld ?_ ?_
                rotate_left
                · rintro w' ⟨s0, s1, s2, s3, s4, s5, s6, s7, s8, s9, s10, s11, s12, s13, s14, s15⟩
                  go_simp
                  with_reducible rfl
                rotate_left
                · simp only [Act.put, List.setIfInBounds_toArray, List.set_cons_zero, List.set_cons_succ, i64_w, i32_w]
                  rfl
                refine one_ (i := 8) (N := some 25) #[true, true, true, true, true, true, true, true, true, false] rfl rfl (one_of HT_.out (by kernel_rfl)) (by decide) (fun K hK => ?_)
                refine goes_ Try.func29 (by kernel_rfl) rfl #[.agg #[.int .i64 ((rd_T72 l0 x5_1).f0), .slice A282_1 ((rd_T72 l0 x5_1).f1.f0).length c282_1, .slice A282_2 ((rd_T72 l0 x5_1).f1.f1).length c282_2, .int .i64 ((rd_T72 l0 x5_1).f1.f2), .slice A282_4 ((rd_T72 l0 x5_1).f1.f3).length c282_4, .slice A282_5 ((rd_T72 l0 x5_1).f2.f0).length c282_5, .slice A282_6 ((rd_T72 l0 x5_1).f2.f1).length c282_6, .slice A282_7 ((rd_T72 l0 x5_1).f2.f2).length c282_7], .agg #[.int .i64 ((rd_T72 l1 x5_1).f0), .slice A283_1 ((rd_T72 l1 x5_1).f1.f0).length c283_1, .slice A283_2 ((rd_T72 l1 x5_1).f1.f1).length c283_2, .int .i64 ((rd_T72 l1 x5_1).f1.f2), .slice A283_4 ((rd_T72 l1 x5_1).f1.f3).length c283_4, .slice A283_5 ((rd_T72 l1 x5_1).f2.f0).length c283_5, .slice A283_6 ((rd_T72 l1 x5_1).f2.f1).length c283_6, .slice A283_7 ((rd_T72 l1 x5_1).f2.f2).length c283_7]] (by rfl) rfl rfl (by (try simp only [List.map_toArray, List.map_cons, List.map_nil]); first | done | rfl | (simp only [List.length_drop, List.length_take]; rfl)) ?_
                with_reducible refine (cordwoodref09_Same.calls k1 ((rd_T72 l0 x5_1).f0) _ _ ((rd_T72 l0 x5_1).f1.f0) _ _ ((rd_T72 l0 x5_1).f1.f1) ((rd_T72 l0 x5_1).f1.f2) _ _ ((rd_T72 l0 x5_1).f1.f3) _ _ ((rd_T72 l0 x5_1).f2.f0) _ _ ((rd_T72 l0 x5_1).f2.f1) _ _ ((rd_T72 l0 x5_1).f2.f2) ((rd_T72 l1 x5_1).f0) _ _ ((rd_T72 l1 x5_1).f1.f0) _ _ ((rd_T72 l1 x5_1).f1.f1) ((rd_T72 l1 x5_1).f1.f2) _ _ ((rd_T72 l1 x5_1).f1.f3) _ _ ((rd_T72 l1 x5_1).f2.f0) _ _ ((rd_T72 l1 x5_1).f2.f1) _ _ ((rd_T72 l1 x5_1).f2.f2) false _ ?side1 ?side2 ?side3 ?side4 ?side5 ?side6 ?side7 ?side8 ?side9 ?side10 ?side11 ?side12 ?side13 ?side14 ?side15 ?side16 ?side17 ?side18 ?side19 ?side20 ?side21 ?side22 ?side23 ?side24 A7.out).mono ?_
                (case side1 => repeat (first | exact (Kd.C_below HR282_1.out HB.out) | (with_reducible refine Kd.C_alloc ?_ _) | (with_reducible refine Kd.C_drewN ?_ _) | (with_reducible refine Kd.C_drew ?_)))
                (case side2 => exact HC282_1.out)
                (case side3 => repeat (first | exact (Kd.C_below HR282_2.out HB.out) | (with_reducible refine Kd.C_alloc ?_ _) | (with_reducible refine Kd.C_drewN ?_ _) | (with_reducible refine Kd.C_drew ?_)))
                (case side4 => exact HC282_2.out)
                (case side5 => repeat (first | exact (Kd.C_below HR282_4.out HB.out) | (with_reducible refine Kd.C_alloc ?_ _) | (with_reducible refine Kd.C_drewN ?_ _) | (with_reducible refine Kd.C_drew ?_)))
                (case side6 => exact HC282_4.out)
                (case side7 => repeat (first | exact (Kd.C_below HR282_5.out HB.out) | (with_reducible refine Kd.C_alloc ?_ _) | (with_reducible refine Kd.C_drewN ?_ _) | (with_reducible refine Kd.C_drew ?_)))
                (case side8 => exact HC282_5.out)
                (case side9 => repeat (first | exact (Kd.C_below HR282_6.out HB.out) | (with_reducible refine Kd.C_alloc ?_ _) | (with_reducible refine Kd.C_drewN ?_ _) | (with_reducible refine Kd.C_drew ?_)))
                (case side10 => exact HC282_6.out)
                (case side11 => repeat (first | exact (Kd.C_below HR282_7.out HB.out) | (with_reducible refine Kd.C_alloc ?_ _) | (with_reducible refine Kd.C_drewN ?_ _) | (with_reducible refine Kd.C_drew ?_)))
                (case side12 => exact HC282_7.out)
                (case side13 => repeat (first | exact (Kd.C_below HR283_1.out HB.out) | (with_reducible refine Kd.C_alloc ?_ _) | (with_reducible refine Kd.C_drewN ?_ _) | (with_reducible refine Kd.C_drew ?_)))
                (case side14 => exact HC283_1.out)
                (case side15 => repeat (first | exact (Kd.C_below HR283_2.out HB.out) | (with_reducible refine Kd.C_alloc ?_ _) | (with_reducible refine Kd.C_drewN ?_ _) | (with_reducible refine Kd.C_drew ?_)))
                (case side16 => exact HC283_2.out)
                (case side17 => repeat (first | exact (Kd.C_below HR283_4.out HB.out) | (with_reducible refine Kd.C_alloc ?_ _) | (with_reducible refine Kd.C_drewN ?_ _) | (with_reducible refine Kd.C_drew ?_)))
                (case side18 => exact HC283_4.out)
                (case side19 => repeat (first | exact (Kd.C_below HR283_5.out HB.out) | (with_reducible refine Kd.C_alloc ?_ _) | (with_reducible refine Kd.C_drewN ?_ _) | (with_reducible refine Kd.C_drew ?_)))
                (case side20 => exact HC283_5.out)
                (case side21 => repeat (first | exact (Kd.C_below HR283_6.out HB.out) | (with_reducible refine Kd.C_alloc ?_ _) | (with_reducible refine Kd.C_drewN ?_ _) | (with_reducible refine Kd.C_drew ?_)))
                (case side22 => exact HC283_6.out)
                (case side23 => repeat (first | exact (Kd.C_below HR283_7.out HB.out) | (with_reducible refine Kd.C_alloc ?_ _) | (with_reducible refine Kd.C_drewN ?_ _) | (with_reducible refine Kd.C_drew ?_)))
                (case side24 => exact HC283_7.out)
                rintro e w12 ⟨rfl, hb⟩
                refine ⟨_, rfl, ?_⟩
                have n0_ := Aside0.mk (below_step (by repeat (first | (with_reducible first | exact HB.out | apply below_alloc | apply pw_below_drewN | apply below_drew1) | exact HB.out)) hb)
                clear HB
                have HB := n0_
                clear n0_
                (try clear hb)
                (try clear hb2)
                (try clear hk)
                (try clear hi)
                refine hK.out _ _ ⟨((HB.out.cell (World.block_lt_of_cell? w _ hw282_0)).trans hw282_0), ((HB.out.cell (World.block_lt_of_cell? w _ hw282_1)).trans hw282_1), ((HB.out.cell (World.block_lt_of_cell? w _ hw282_2)).trans hw282_2), ((HB.out.cell (World.block_lt_of_cell? w _ hw282_3)).trans hw282_3), ((HB.out.cell (World.block_lt_of_cell? w _ hw282_4)).trans hw282_4), ((HB.out.cell (World.block_lt_of_cell? w _ hw282_5)).trans hw282_5), ((HB.out.cell (World.block_lt_of_cell? w _ hw282_6)).trans hw282_6), ((HB.out.cell (World.block_lt_of_cell? w _ hw282_7)).trans hw282_7), ((HB.out.cell (World.block_lt_of_cell? w _ hw283_0)).trans hw283_0), ((HB.out.cell (World.block_lt_of_cell? w _ hw283_1)).trans hw283_1), ((HB.out.cell (World.block_lt_of_cell? w _ hw283_2)).trans hw283_2), ((HB.out.cell (World.block_lt_of_cell? w _ hw283_3)).trans hw283_3), ((HB.out.cell (World.block_lt_of_cell? w _ hw283_4)).trans hw283_4), ((HB.out.cell (World.block_lt_of_cell? w _ hw283_5)).trans hw283_5), ((HB.out.cell (World.block_lt_of_cell? w _ hw283_6)).trans hw283_6), ((HB.out.cell (World.block_lt_of_cell? w _ hw283_7)).trans hw283_7)⟩ (fun hHeld => ?_)
                clear hK K
                refine norm_ (a' := ?_) ?_ ?_
                rotate_left
                · show Act.put _ (some 25) _ = _
                  simp only [Act.put, List.setIfInBounds_toArray, List.set_cons_zero, List.set_cons_succ, i64_w, i32_w]
                  rfl
                refine pure_ (i := 9) (N := some 26) (v := ?_) (a' := ?_) #[true, true, true, true, true, true, true, true, true, true] rfl rfl (any_of HT_.out (by kernel_rfl)) (fun _ _ _ h => h) (Or.inl ⟨by rfl, ?_⟩) ?_ ?_
                rotate_left
                · intro w'
                  go_simp
                  with_reducible rfl
                rotate_left
                · simp only [Act.put, List.setIfInBounds_toArray, List.set_cons_zero, List.set_cons_succ, i64_w, i32_w]
                  rfl
                refine done_ (done_of HT_.out (by kernel_rfl)) ?_
                try go_wp2
                go_ret
                exact ⟨by first | rfl | (simp [errW_none, errW_some] <;> rfl) | (simp [*, errW_none, errW_some] <;> rfl), by repeat (first | (with_reducible first | exact HB.out | apply below_alloc | apply pw_below_drewN | apply below_drew1) | exact HB.out)⟩
            · rw [if_neg c6] at H
              exact absurd H (by simp)
          · rw [if_neg c5] at H
            exact absurd H (by simp)
        · rw [if_neg c4] at H
          have c4b0 : decide (x5_1 < (l0.length : Int)) = false := decide_eq_false c4
          clear c4
          obtain rfl := Option.some.inj H
          go_wp2
          go_ret
          exact ⟨by first | rfl | (simp [errW_none, errW_some] <;> rfl) | (simp [*, errW_none, errW_some] <;> rfl), by repeat (first | (with_reducible first | exact HB.out | apply below_alloc | apply pw_below_drewN | apply below_drew1) | exact HB.out)⟩
  · rw [if_neg c3] at H
    have c3b0 : ((l0.length : Int) == (l1.length : Int)) = false := beq_eq_false_iff_ne.mpr c3
    have c3b1 : ((l0.length : Int) != (l1.length : Int)) = true := bne_iff_ne.mpr c3
    have c3b2 : (l0.length == l1.length) = false := by first | simpa using c3 | (simp at c3 ⊢; omega)
    obtain rfl := Option.some.inj H
    go_enter Try.func14, Try.ntmps14
    go_wp2
    go_ret
    exact ⟨by first | rfl | (simp [errW_none, errW_some] <;> rfl) | (simp [*, errW_none, errW_some] <;> rfl), by repeat (first | (with_reducible first | exact HB.out | apply below_alloc | apply pw_below_drewN | apply below_drew1) | exact HB.out)⟩

end Go.Proofs.Ytkabbahfaeeihaa.Q
