/- Contracts of the functions that the laws reach, in the words of the kit's print; written by a program of this claim (gen_q.py). -/
import Derived.Test.YtkabbahfaeeihaaQ0
import Derived.Test.YtkabbahfaeeihaaShort
import Derived.Test.YtkabbahfaeeihaaQ1
import Derived.Test.YtkabbahfaeeihaaQ5
import Derived.Test.YtkabbahfaeeihaaQ8
import Derived.Test.YtkabbahfaeeihaaQ12
import Derived.Test.YtkabbahfaeeihaaHd
import Derived.Test.YtkabbahfaeeihaaQ17
import Derived.Test.YtkabbahfaeeihaaQ22
import Derived.Test.YtkabbahfaeeihaaQ23
namespace Go.Proofs.Ytkabbahfaeeihaa.Q
open Go.RowKit Go.Proofs.YtkabbahfaeeihaaW.PrintWords Go.Proofs.YtkabbahfaeeihaaW.PrintLast Go.Proofs.YtkabbahfaeeihaaW.PrintMore
attribute [local go_sem] max2_int min2_int max_two min_two max_three min_three max_four min_four   -- for this text's walks alone
set_option linter.unusedVariables false
set_option linter.unusedSimpArgs false

/-! ### sRoom: function 3 -/
mutual
def sRoom.l0 : Nat → List (List (S72)) → Int → Bool → Int → Int → List Int → List (List (S72)) → Int → Int → Option (Bool)
 | 0, _, _, _, _, _, _, _, _, _ => none
 | k + 1, x1, x2, x7, x8, x10, xq0, xq1, xq2, xq3 => if x10 < (x1.length : Int) then (sRoom.j1 k x1 x2 x7 x8 x10 (decide (x10 < 80)) xq0 xq1 xq2 xq3) else (sRoom.j1 k x1 x2 x7 x8 x10 false xq0 xq1 xq2 xq3)
def sRoom.j1 : Nat → List (List (S72)) → Int → Bool → Int → Int → Bool → List Int → List (List (S72)) → Int → Int → Option (Bool)
 | 0, _, _, _, _, _, _, _, _, _, _ => none
 | k + 1, x1, x2, x7, x8, x10, x35, xq0, xq1, xq2, xq3 => if x35 = true then (if 0 ≤ x10 then (if x10 < (x1.length : Int) then ((cordwoodref10_Few.f k (rd_L7 x1 x10)).bind fun t300 => (if t300 = true then ((snaps_Keep.f xq0 xq1 xq2 xq3 (rd_L7 x1 x10)).bind fun bt302 => (if x10 ≥ x8 then (if bt302.2.2.2.2.2 = 10 then (sRoom.j2 k x1 x2 x7 x8 x10 (bt302.2.2.2.2.1 != 0) xq0 xq1 xq2 xq3) else (sRoom.j2 k x1 x2 x7 x8 x10 true xq0 xq1 xq2 xq3)) else ((snaps_Get.f k bt302.1 bt302.2.1 bt302.2.2.1 bt302.2.2.2.1 (wrap64 (x10 + 1))).bind fun bt313 => (if bt302.2.2.2.2.2 = 0 then (if bt302.2.2.2.2.1 = (wrap64 (x10 + 1)) then (if bt313.2 = 0 then ((cordwoodref10_Same.f k bt313.1 (rd_L7 x1 x10)).bind fun t318 => (sRoom.j3 k x1 x2 x7 x8 x10 (!t318) bt302.1 bt302.2.1 bt302.2.2.1 bt302.2.2.2.1)) else (sRoom.j3 k x1 x2 x7 x8 x10 true bt302.1 bt302.2.1 bt302.2.2.1 bt302.2.2.2.1)) else (sRoom.j3 k x1 x2 x7 x8 x10 true bt302.1 bt302.2.1 bt302.2.2.1 bt302.2.2.2.1)) else (sRoom.j3 k x1 x2 x7 x8 x10 true bt302.1 bt302.2.1 bt302.2.2.1 bt302.2.2.2.1))))) else (some x7))) else (none)) else (none)) else ((snaps_IDs.f xq0 xq1 xq2 xq3).bind fun t319 => (if (t319.length : Int) = 0 then (if x7 = true then (if x8 = 0 then (some true) else (some ((x1.length : Int) == 0))) else (some false)) else ((snaps_Forget.f k xq0 xq1 xq2 xq3 (wrap64 (1 + (Int.tmod (Go.bits .and .i64 x2 65535) (t319.length : Int))))).bind fun bt322 => ((snaps_Keep.f bt322.1 bt322.2.1 bt322.2.2.1 bt322.2.2.2.1 ([] : List (S72))).bind fun bt332 => (if x7 = true then (if (t319.length : Int) = (mn (mn x8 (x1.length : Int)) 80) then (if bt322.2.2.2.2 = 0 then (if bt332.2.2.2.2.2 = 0 then (some (bt332.2.2.2.2.1 == (wrap64 ((t319.length : Int) + 1)))) else (some false)) else (some false)) else (some false)) else (some false))))))
def sRoom.j2 : Nat → List (List (S72)) → Int → Bool → Int → Int → Bool → List Int → List (List (S72)) → Int → Int → Option (Bool)
 | 0, _, _, _, _, _, _, _, _, _, _ => none
 | k + 1, x1, x2, x7, x8, x10, x63, xq0, xq1, xq2, xq3 => if x63 = true then (some false) else (sRoom.l0 k x1 x2 x7 x8 (wrap64 (x10 + 1)) xq0 xq1 xq2 xq3)
def sRoom.j3 : Nat → List (List (S72)) → Int → Bool → Int → Int → Bool → List Int → List (List (S72)) → Int → Int → Option (Bool)
 | 0, _, _, _, _, _, _, _, _, _, _ => none
 | k + 1, x1, x2, x7, x8, x10, x91, xq4, xq5, xq6, xq7 => if x91 = true then (some false) else (sRoom.l0 k x1 x2 x7 x8 (wrap64 (x10 + 1)) xq4 xq5 xq6 xq7)
end
def sRoom.f (k : Nat) (a0 : Int) (l1 : List (List (S72))) (a2 : Int) : Option (Bool) := (cordwoodlaw21_awake.f k).bind fun t289 => ((snaps_New.f a0).bind fun bt290 => (sRoom.l0 k l1 a2 t289 (mn (mx a0 0) 64) 0 bt290.1 bt290.2.1 bt290.2.2.1 bt290.2.2.2))
def sRoom.T9 : Bool × List (List Nat × List Nat) := (true, [([], []), ([], []), ([], []), ([1, 2], [1, 2]), ([3], [3]), ([0, 4], [0, 4]), ([5], [5]), ([6], [6]), ([6], [6]), ([6], [6]), ([], []), ([10, 7, 5, 0, 1, 2, 3, 4, 5, 6, 7, 10], [7, 10]), ([8, 11, 0, 1, 2, 3, 4, 5, 6, 7, 8, 10, 11], [8]), ([9, 12, 0, 1, 2, 3, 4, 5, 6, 7, 8, 9, 10, 11, 12], [9])])
def sRoom.B9 : List Nat := [0, 0, 0, 6, 14, 31, 63, 127, 127, 127, 0, 1279, 3583, 8191]
theorem sRoom.tab9 : rtab .any (opsOf Try.f3 9) = sRoom.T9 := by kernel_rfl
theorem sRoom.bits9 : waitsOk sRoom.T9.2 sRoom.B9 = true := by kernel_rfl
def sRoom.T20 : Bool × List (List Nat × List Nat) := (true, [([], []), ([], []), ([1], [1]), ([], []), ([2, 3], [2, 3]), ([4], [4]), ([0, 5], [0, 5]), ([6], [6]), ([7], [7]), ([7], [7]), ([], []), ([10, 8, 6, 0, 1, 2, 3, 4, 5, 6, 7, 8, 10], [8, 10]), ([9, 11, 0, 1, 2, 3, 4, 5, 6, 7, 8, 9, 10, 11], [9])])
def sRoom.B20 : List Nat := [0, 0, 2, 0, 14, 30, 63, 127, 255, 255, 0, 1535, 4095]
theorem sRoom.tab20 : rtab .any (opsOf Try.f3 20) = sRoom.T20 := by kernel_rfl
theorem sRoom.bits20 : waitsOk sRoom.T20.2 sRoom.B20 = true := by kernel_rfl
set_option maxHeartbeats 8000000 in
set_option maxRecDepth 100000 in
theorem sRoom.calls (k : Nat) (a0 : Int) (A1 : Option Addr) (c1 : Nat) (l1 : List (List (S72))) (a2 : Int) (r : Bool) (w : World) (hr1 : Kd.C (Kd.slice 72 k72) w A1 l1.length l1) (hc1 : l1.length ≤ c1) (hr : Aside0 (r = true)) (h : sRoom.f k a0 l1 a2 = some r) :
  Calls Try.prog 3 #[.int .i64 a0, .slice A1 l1.length c1, .int .i64 a2] w fun e w' => e = .returned (.bool r) ∧ Below w.heap.size w w' := by
 have hu28 := Try.underlying28
 have HR1 := Aside0.mk hr1
 have HC1 := Aside0.mk hc1
 clear hr1 hc1
 have HB := Aside0.mk (Below.refl w.heap.size w)
 have H : ((cordwoodlaw21_awake.f k).bind fun t289 => ((snaps_New.f a0).bind fun bt290 => (sRoom.l0 k l1 a2 t289 (mn (mx a0 0) 64) 0 bt290.1 bt290.2.1 bt290.2.2.1 bt290.2.2.2))) = some r := h
 clear h
 replace H := Option.bind_eq_some_iff.mp H
 obtain ⟨t289, A40, H⟩ := H
 replace H : ((snaps_New.f a0).bind fun bt290 => (sRoom.l0 k l1 a2 t289 (mn (mx a0 0) 64) 0 bt290.1 bt290.2.1 bt290.2.2.1 bt290.2.2.2)) = some r := H
 have A4 := Aside0.mk A40
 clear A40
 obtain ⟨ji5, hji5⟩ : ∃ j_ : Int, (mx a0 0) = j_ := ⟨_, rfl⟩
 replace H : ((snaps_New.f a0).bind fun bt290 => (sRoom.l0 k l1 a2 t289 (mn (ji5) 64) 0 bt290.1 bt290.2.1 bt290.2.2.1 bt290.2.2.2)) = some r := by first | (rw [hji5] at H; exact H) | (simp only [hji5] at H ⊢; exact H)
 (try rw [hji5] at A4)
 (try (have hji5l : 0 ≤ ji5 := by (rw [← hji5]; unfold mx; (repeat' split) <;> omega)))
 (try (have hji5m : 0 ≤ ji5 := by omega))
 have hji5_ : (if a0 < 0 then 0 else a0) = ji5 := hji5
 obtain ⟨ji6, hji6⟩ : ∃ j_ : Int, (mn (ji5) 64) = j_ := ⟨_, rfl⟩
 replace H : ((snaps_New.f a0).bind fun bt290 => (sRoom.l0 k l1 a2 t289 ji6 0 bt290.1 bt290.2.1 bt290.2.2.1 bt290.2.2.2)) = some r := by first | (rw [hji6] at H; exact H) | (simp only [hji6] at H ⊢; exact H)
 (try rw [hji6] at A4)
 have hji6_ : (if 64 < (ji5) then 64 else (ji5)) = ji6 := hji6
 replace H := Option.bind_eq_some_iff.mp H
 obtain ⟨⟨t290, t293, t296, t297⟩, A70, H⟩ := H
 replace H : (sRoom.l0 k l1 a2 t289 ji6 0 t290 t293 t296 t297) = some r := H
 have A7 := Aside0.mk A70
 clear A70
 have H' := Aside0.mk H
 clear H
 go_enter Try.func3, Try.ntmps3
 go_wp2_with (first | ((with_reducible refine gate_callee (f := 9) rfl ?_); refine goesL_ (some 22) rfl rfl Try.func9 (by kernel_rfl) rfl #[] rfl (by (try simp only [List.map_toArray, List.map_cons, List.map_nil]); first | done | rfl | (simp only [List.length_drop, List.length_take]; rfl)) ?_; (with_reducible refine (cordwoodlaw21_awake.calls k  t289 _ A4.out).mono ?_); rintro e w8 ⟨rfl, hb⟩; refine ⟨_, rfl, ?_⟩; have n0_ := Aside0.mk (below_step (by repeat (first | (with_reducible first | exact HB.out | apply below_alloc | apply pw_below_drewN | apply below_drew1) | exact HB.out)) hb); clear HB; have HB := n0_; clear n0_; (try clear hb); (try clear hb2); (try clear hk); (try clear hi)) | ((with_reducible refine gate_callee (f := 10) rfl ?_); refine goesL_ (some 27) rfl rfl Try.func10 (by kernel_rfl) rfl #[.int .i64 a0] rfl (by (try simp only [List.map_toArray, List.map_cons, List.map_nil]); first | done | rfl | (simp only [List.length_drop, List.length_take]; rfl)) ?_; (with_reducible refine (snaps_New.calls a0 t290 t293 t296 t297 _ A7.out).mono ?_); rintro e w9 ⟨v291, v294, rfl, ho0, ho1, hb⟩; refine ⟨_, rfl, ?_⟩; have n0_ := Aside0.mk (Kd.R_lower ho0 (below_size (by repeat (first | (with_reducible first | exact HB.out | apply below_alloc | apply pw_below_drewN | apply below_drew1) | exact HB.out)))); have n1_ := Aside0.mk (Kd.N_lower (Kd.N_mono (ok' := fun k_ => some k_ ≠ (v291 : Value).ownBlock) (Kd.R_N (Kd.R_bound ho1)) (fun k_ hk_ => hk_.1)) (below_size (by repeat (first | (with_reducible first | exact HB.out | apply below_alloc | apply pw_below_drewN | apply below_drew1) | exact HB.out)))); have n2_ := Aside0.mk (below_step (by repeat (first | (with_reducible first | exact HB.out | apply below_alloc | apply pw_below_drewN | apply below_drew1) | exact HB.out)) hb); clear HB; have HO292 := n0_; have HO295 := n1_; have HB := n2_; clear n0_ n1_ n2_; (try clear hb); (try clear hb2); (try clear hk); (try clear hi); (try clear ho0); (try clear ho1)) | ((with_reducible refine gate_dst (N := 9) rfl ?_); (try (refine gate_guard (by rfl) ?_; dsimp only)); refine box_event ?hg (N := 9) ?hd (cs := #[.slice none 0 0, .slice none 0 0, .int .i64 0, .int .i64 0]) (t := 28) ?hr ?_; (case hd => rfl); (case hg => rfl); (case hr => first | (go_simp; done) | (go_simp; rfl)); intro gb298 hg w10 hbox hb; have n0_ := Aside0.mk (Kd.R_below (by (with_reducible repeat (first | apply Kd.R_alloc | apply Kd.R_drewN | apply Kd.R_drew)); exact HO292.out) hb); have n1_ := Aside0.mk (Kd.N_below (Kd.N_elderB (by (with_reducible repeat (first | apply Kd.N_alloc | apply Kd.N_drewN | apply Kd.N_drew)); exact HO295.out) gb298 (Nat.le_of_eq hg.symm)) hb); have n2_ := Aside0.mk (below_step (by repeat (first | (with_reducible first | exact HB.out | apply below_alloc | apply pw_below_drewN | apply below_drew1) | exact HB.out)) hb); have n3_ := Aside0.mk (hbox); have n4_ := Aside0.mk ((by rw [hg]; exact (below_size (by repeat (first | (with_reducible first | exact HB.out | apply below_alloc | apply pw_below_drewN | apply below_drew1) | exact HB.out))) : w.heap.size ≤ gb298)); have n5_ := Aside0.mk ((by rw [hg]; exact (below_size (by repeat (first | (with_reducible first | exact HB.out | apply below_alloc | apply pw_below_drewN | apply below_drew1) | exact HB.out))) : w.heap.size ≤ gb298)); clear HO292; clear HO295; clear HB; have HO292 := n0_; have HO295 := n1_; have HB := n2_; have BK298 := n3_; have GW298 := n4_; have GE298 := n5_; clear n0_ n1_ n2_ n3_ n4_ n5_; clear hb hbox hg; obtain ⟨Ao11, co11, eo11⟩ := Kd.R_slice HO292.out; subst eo11; have hcz12_0 : w10.cell? ⟨gb298, 0, none⟩ = some (.slice none 0 0) := (blk_cell BK298.out 0).trans rfl; have hcz12_1 : w10.cell? ⟨gb298, 1, none⟩ = some (.slice none 0 0) := (blk_cell BK298.out 1).trans rfl; have hcz12_2 : w10.cell? ⟨gb298, 2, none⟩ = some (.int .i64 0) := (blk_cell BK298.out 2).trans rfl; have hcz12_3 : w10.cell? ⟨gb298, 3, none⟩ = some (.int .i64 0) := (blk_cell BK298.out 3).trans rfl; have hfz12_0 := blk_frozen BK298.out 0; have hfz12_1 := blk_frozen BK298.out 1; have hfz12_2 := blk_frozen BK298.out 2; have hfz12_3 := blk_frozen BK298.out 3; obtain ⟨Ao13, co13, eo13⟩ := Kd.N_slice HO295.out; subst eo13))
 go_loopg [10] k (fun kq v10 w' => ∃ (x10_1 : Int) (xq0_1 : List Int) (xq1_1 : List (List (S72))) (xq2_1 : Int) (xq3_1 : Int) (u299000 : Value) (u299001 : Value), v10 = .int .i64 x10_1 ∧ Aside0 (sRoom.l0 kq l1 a2 t289 ji6 x10_1 xq0_1 xq1_1 xq2_1 xq3_1 = some r) ∧ Aside0 (kq ≤ k) ∧ Aside0 (Kd.R (Kd.int .i64) 3 w' w.heap.size (fun _ => True) u299000 xq0_1) ∧ Aside0 (Kd.N (Kd.slice 72 k72) 31 w' w.heap.size (fun k_ => some k_ ≠ (u299000 : Value).ownBlock ∧ k_ ≠ gb298) u299001 xq1_1) ∧ Aside0 (w'.heap[gb298]? = some (.cells #[u299000, u299001, .int .i64 xq2_1, .int .i64 xq3_1] 28 (0, 0))) ∧ Aside0 (Below w.heap.size w w'))
 case atStart => exact ⟨(0), (t290), (t293), (t296), (t297), (.slice Ao11 t290.length co11), (.slice Ao13 t293.length co13), (by first | rfl | (simp; done) | (simp [*]; done)), H', ⟨Nat.le_refl _⟩, ⟨by (with_reducible repeat (first | apply Kd.R_alloc | apply Kd.R_drewN | apply Kd.R_drew)); exact Kd.R_mono (Kd.R_far (p := ⟨gb298, 3, none⟩) (Kd.R_far (p := ⟨gb298, 2, none⟩) (Kd.R_far (p := ⟨gb298, 1, none⟩) (Kd.R_far (p := ⟨gb298, 0, none⟩) (Kd.R_types HO292.out BK298.out (by decide)) (fun _ hk => hk.2) (.slice Ao11 t290.length co11)) (fun _ hk => hk.2) (.slice Ao13 t293.length co13)) (fun _ hk => hk.2) (.int .i64 t296)) (fun _ hk => hk.2) (.int .i64 t297)) (fun _ hk => trivial)⟩, ⟨by (with_reducible repeat (first | apply Kd.N_alloc | apply Kd.N_drewN | apply Kd.N_drew)); exact Kd.N_mono (Kd.N_far (p := ⟨gb298, 3, none⟩) (Kd.N_far (p := ⟨gb298, 2, none⟩) (Kd.N_far (p := ⟨gb298, 1, none⟩) (Kd.N_far (p := ⟨gb298, 0, none⟩) (Kd.N_mono HO295.out (fun k_ hk => (⟨hk, hk.2⟩ : _ ∧ k_ ≠ gb298))) (fun _ hk => hk.2) (.slice Ao11 t290.length co11)) (fun _ hk => hk.2) (.slice Ao13 t293.length co13)) (fun _ hk => hk.2) (.int .i64 t296)) (fun _ hk => hk.2) (.int .i64 t297)) (fun _ hk => ⟨hk.1.1, hk.1.2⟩)⟩, ⟨by (with_reducible repeat (first | refine blk_drewN ?_ _ | refine blk_drew ?_ | refine blk_alloc ?_ _)); refine blk_put (cs := #[.slice Ao11 t290.length co11, .slice Ao13 t293.length co13, .int .i64 t296, .int .i64 0]) ?_ 3 _ rfl; (with_reducible repeat (first | refine blk_drewN ?_ _ | refine blk_drew ?_ | refine blk_alloc ?_ _)); refine blk_put (cs := #[.slice Ao11 t290.length co11, .slice Ao13 t293.length co13, .int .i64 0, .int .i64 0]) ?_ 2 _ rfl; (with_reducible repeat (first | refine blk_drewN ?_ _ | refine blk_drew ?_ | refine blk_alloc ?_ _)); refine blk_put (cs := #[.slice Ao11 t290.length co11, .slice none 0 0, .int .i64 0, .int .i64 0]) ?_ 1 _ rfl; (with_reducible repeat (first | refine blk_drewN ?_ _ | refine blk_drew ?_ | refine blk_alloc ?_ _)); refine blk_put (cs := #[.slice none 0 0, .slice none 0 0, .int .i64 0, .int .i64 0]) ?_ 0 _ rfl; (with_reducible repeat (first | refine blk_drewN ?_ _ | refine blk_drew ?_ | refine blk_alloc ?_ _)); exact BK298.out⟩, ⟨by repeat (first | (with_reducible first | exact HB.out | apply below_alloc | apply pw_below_drewN | apply below_drew1 | refine below_set ?_ GE298.out) | exact HB.out)⟩⟩
 case round =>
  clear H'
  try clear c1
  try clear p2
  try clear c3
  try clear c9
  try clear c10
  try clear hcz12_0
  try clear hcz12_1
  try clear hcz12_2
  try clear hcz12_3
  try clear hfz12_0
  try clear hfz12_1
  try clear hfz12_2
  try clear hfz12_3
  obtain ⟨x10_1, xq0_1, xq1_1, xq2_1, xq3_1, u299000, u299001, rfl, HA, HK1, HO_299000, HO_299001, BK298, HB⟩ := hrel
  cases gk with
  | zero => exact absurd HA.out (by simp [sRoom.l0])
  | succ k1 =>
   have H := HA.out
   clear HA
   simp only [sRoom.l0] at H
   have HC14 := Aside0.mk H
   clear H
   go_upto_region 5 with (fail)
   go_cut [35] (fun v35 wc => ∃ (kq : Nat) (x35_13 : Bool), v35 = .bool x35_13 ∧ Aside0 (sRoom.j1 kq l1 a2 t289 ji6 x10_1 x35_13 xq0_1 xq1_1 xq2_1 xq3_1 = some r) ∧ Aside0 (kq ≤ k1) ∧ Aside0 (Kd.R (Kd.int .i64) 3 wc w.heap.size (fun _ => True) u299000 xq0_1) ∧ Aside0 (Kd.N (Kd.slice 72 k72) 31 wc w.heap.size (fun k_ => some k_ ≠ (u299000 : Value).ownBlock ∧ k_ ≠ gb298) u299001 xq1_1) ∧ Aside0 (wc.heap[gb298]? = some (.cells #[u299000, u299001, .int .i64 xq2_1, .int .i64 xq3_1] 28 (0, 0))) ∧ Aside0 (Below w.heap.size w wc))
   case first =>
    have H := HC14.out
    clear HC14
    by_cases c15 : x10_1 < (l1.length : Int)
    ·rw [if_pos c15] at H
     have c15b0 : decide (x10_1 < (l1.length : Int)) = true := decide_eq_true c15
     clear c15
     (first | rw [c15b0] | (simp only [i64_w, i32_w]; rw [c15b0]) | skip)
     have H' := Aside0.mk H
     clear H
     go_wp2
     go_meet
     case rel => exact ⟨_, (decide (x10_1 < 80)), (by first | rfl | (simp; done) | (simp [*]; done)), H', ⟨by have := HK1.out; first | omega | exact Nat.le_refl _⟩, ⟨by (with_reducible repeat (first | apply Kd.R_alloc | apply Kd.R_drewN | apply Kd.R_drew)); exact HO_299000.out⟩, ⟨by (with_reducible repeat (first | apply Kd.N_alloc | apply Kd.N_drewN | apply Kd.N_drew)); exact HO_299001.out⟩, ⟨by (with_reducible repeat (first | refine blk_drewN ?_ _ | refine blk_drew ?_ | refine blk_alloc ?_ _)); exact BK298.out⟩, ⟨by repeat (first | (with_reducible first | exact HB.out | apply below_alloc | apply pw_below_drewN | apply below_drew1 | refine below_set ?_ GE298.out) | exact HB.out)⟩⟩
    ·rw [if_neg c15] at H
     have c15b0 : decide (x10_1 < (l1.length : Int)) = false := decide_eq_false c15
     clear c15
     (first | rw [c15b0] | (simp only [i64_w, i32_w]; rw [c15b0]) | skip)
     have H' := Aside0.mk H
     clear H
     go_wp2
     go_meet
     case rel => exact ⟨_, (false), (by first | rfl | (simp; done) | (simp [*]; done)), H', ⟨by have := HK1.out; first | omega | exact Nat.le_refl _⟩, ⟨by (with_reducible repeat (first | apply Kd.R_alloc | apply Kd.R_drewN | apply Kd.R_drew)); exact HO_299000.out⟩, ⟨by (with_reducible repeat (first | apply Kd.N_alloc | apply Kd.N_drewN | apply Kd.N_drew)); exact HO_299001.out⟩, ⟨by (with_reducible repeat (first | refine blk_drewN ?_ _ | refine blk_drew ?_ | refine blk_alloc ?_ _)); exact BK298.out⟩, ⟨by repeat (first | (with_reducible first | exact HB.out | apply below_alloc | apply pw_below_drewN | apply below_drew1 | refine below_set ?_ GE298.out) | exact HB.out)⟩⟩
   case rest =>
    clear HC14
    try clear c1
    try clear p2
    try clear c3
    try clear c9
    try clear c10
    try clear c15
    try clear c15b0
    try clear hcz12_0
    try clear hcz12_1
    try clear hcz12_2
    try clear hcz12_3
    try clear hfz12_0
    try clear hfz12_1
    try clear hfz12_2
    try clear hfz12_3
    try clear p2
    obtain ⟨kq, x35_13, rfl, HA, HJ13, HO_299000, HO_299001, BK298, HB⟩ := hcut
    cases kq with
    | zero => exact absurd HA.out (by simp [sRoom.j1])
    | succ kj13 =>
     have H := HA.out
     clear HA
     simp only [sRoom.j1] at H
     by_cases c16 : x35_13 = true
     ·subst c16
      have H1 : (if 0 ≤ x10_1 then (if x10_1 < (l1.length : Int) then ((cordwoodref10_Few.f kj13 (rd_L7 l1 x10_1)).bind fun t300 => (if t300 = true then ((snaps_Keep.f xq0_1 xq1_1 xq2_1 xq3_1 (rd_L7 l1 x10_1)).bind fun bt302 => (if x10_1 ≥ ji6 then (if bt302.2.2.2.2.2 = 10 then (sRoom.j2 kj13 l1 a2 t289 ji6 x10_1 (bt302.2.2.2.2.1 != 0) xq0_1 xq1_1 xq2_1 xq3_1) else (sRoom.j2 kj13 l1 a2 t289 ji6 x10_1 true xq0_1 xq1_1 xq2_1 xq3_1)) else ((snaps_Get.f kj13 bt302.1 bt302.2.1 bt302.2.2.1 bt302.2.2.2.1 (wrap64 (x10_1 + 1))).bind fun bt313 => (if bt302.2.2.2.2.2 = 0 then (if bt302.2.2.2.2.1 = (wrap64 (x10_1 + 1)) then (if bt313.2 = 0 then ((cordwoodref10_Same.f kj13 bt313.1 (rd_L7 l1 x10_1)).bind fun t318 => (sRoom.j3 kj13 l1 a2 t289 ji6 x10_1 (!t318) bt302.1 bt302.2.1 bt302.2.2.1 bt302.2.2.2.1)) else (sRoom.j3 kj13 l1 a2 t289 ji6 x10_1 true bt302.1 bt302.2.1 bt302.2.2.1 bt302.2.2.2.1)) else (sRoom.j3 kj13 l1 a2 t289 ji6 x10_1 true bt302.1 bt302.2.1 bt302.2.2.1 bt302.2.2.2.1)) else (sRoom.j3 kj13 l1 a2 t289 ji6 x10_1 true bt302.1 bt302.2.1 bt302.2.2.1 bt302.2.2.2.1))))) else (some t289))) else (none)) else (none)) = some r := by rw [if_pos rfl] at H; exact H
      clear H
      have H := H1
      clear H1
      by_cases c17 : 0 ≤ x10_1
      ·rw [if_pos c17] at H
       have c17b0 : decide (0 ≤ x10_1) = true := decide_eq_true c17
       clear c17
       by_cases c18 : x10_1 < (l1.length : Int)
       ·rw [if_pos c18] at H
        have c18b0 : decide (x10_1 < (l1.length : Int)) = true := decide_eq_true c18
        clear c18
        replace H := Option.bind_eq_some_iff.mp H
        obtain ⟨t300, A190, H⟩ := H
        replace H : (if t300 = true then ((snaps_Keep.f xq0_1 xq1_1 xq2_1 xq3_1 (rd_L7 l1 x10_1)).bind fun bt302 => (if x10_1 ≥ ji6 then (if bt302.2.2.2.2.2 = 10 then (sRoom.j2 kj13 l1 a2 t289 ji6 x10_1 (bt302.2.2.2.2.1 != 0) xq0_1 xq1_1 xq2_1 xq3_1) else (sRoom.j2 kj13 l1 a2 t289 ji6 x10_1 true xq0_1 xq1_1 xq2_1 xq3_1)) else ((snaps_Get.f kj13 bt302.1 bt302.2.1 bt302.2.2.1 bt302.2.2.2.1 (wrap64 (x10_1 + 1))).bind fun bt313 => (if bt302.2.2.2.2.2 = 0 then (if bt302.2.2.2.2.1 = (wrap64 (x10_1 + 1)) then (if bt313.2 = 0 then ((cordwoodref10_Same.f kj13 bt313.1 (rd_L7 l1 x10_1)).bind fun t318 => (sRoom.j3 kj13 l1 a2 t289 ji6 x10_1 (!t318) bt302.1 bt302.2.1 bt302.2.2.1 bt302.2.2.2.1)) else (sRoom.j3 kj13 l1 a2 t289 ji6 x10_1 true bt302.1 bt302.2.1 bt302.2.2.1 bt302.2.2.2.1)) else (sRoom.j3 kj13 l1 a2 t289 ji6 x10_1 true bt302.1 bt302.2.1 bt302.2.2.1 bt302.2.2.2.1)) else (sRoom.j3 kj13 l1 a2 t289 ji6 x10_1 true bt302.1 bt302.2.1 bt302.2.2.1 bt302.2.2.2.1))))) else (some t289)) = some r := H
        have A19 := Aside0.mk A190
        clear A190
        by_cases c20 : t300 = true
        ·subst c20
         have H1 : ((snaps_Keep.f xq0_1 xq1_1 xq2_1 xq3_1 (rd_L7 l1 x10_1)).bind fun bt302 => (if x10_1 ≥ ji6 then (if bt302.2.2.2.2.2 = 10 then (sRoom.j2 kj13 l1 a2 t289 ji6 x10_1 (bt302.2.2.2.2.1 != 0) xq0_1 xq1_1 xq2_1 xq3_1) else (sRoom.j2 kj13 l1 a2 t289 ji6 x10_1 true xq0_1 xq1_1 xq2_1 xq3_1)) else ((snaps_Get.f kj13 bt302.1 bt302.2.1 bt302.2.2.1 bt302.2.2.2.1 (wrap64 (x10_1 + 1))).bind fun bt313 => (if bt302.2.2.2.2.2 = 0 then (if bt302.2.2.2.2.1 = (wrap64 (x10_1 + 1)) then (if bt313.2 = 0 then ((cordwoodref10_Same.f kj13 bt313.1 (rd_L7 l1 x10_1)).bind fun t318 => (sRoom.j3 kj13 l1 a2 t289 ji6 x10_1 (!t318) bt302.1 bt302.2.1 bt302.2.2.1 bt302.2.2.2.1)) else (sRoom.j3 kj13 l1 a2 t289 ji6 x10_1 true bt302.1 bt302.2.1 bt302.2.2.1 bt302.2.2.2.1)) else (sRoom.j3 kj13 l1 a2 t289 ji6 x10_1 true bt302.1 bt302.2.1 bt302.2.2.1 bt302.2.2.2.1)) else (sRoom.j3 kj13 l1 a2 t289 ji6 x10_1 true bt302.1 bt302.2.1 bt302.2.2.1 bt302.2.2.2.1))))) = some r := by rw [if_pos rfl] at H; exact H
         clear H
         have H := H1
         clear H1
         replace H := Option.bind_eq_some_iff.mp H
         obtain ⟨⟨t302, t305, t308, t309, t310, t311⟩, A210, H⟩ := H
         replace H : (if x10_1 ≥ ji6 then (if t311 = 10 then (sRoom.j2 kj13 l1 a2 t289 ji6 x10_1 (t310 != 0) xq0_1 xq1_1 xq2_1 xq3_1) else (sRoom.j2 kj13 l1 a2 t289 ji6 x10_1 true xq0_1 xq1_1 xq2_1 xq3_1)) else ((snaps_Get.f kj13 t302 t305 t308 t309 (wrap64 (x10_1 + 1))).bind fun bt313 => (if t311 = 0 then (if t310 = (wrap64 (x10_1 + 1)) then (if bt313.2 = 0 then ((cordwoodref10_Same.f kj13 bt313.1 (rd_L7 l1 x10_1)).bind fun t318 => (sRoom.j3 kj13 l1 a2 t289 ji6 x10_1 (!t318) t302 t305 t308 t309)) else (sRoom.j3 kj13 l1 a2 t289 ji6 x10_1 true t302 t305 t308 t309)) else (sRoom.j3 kj13 l1 a2 t289 ji6 x10_1 true t302 t305 t308 t309)) else (sRoom.j3 kj13 l1 a2 t289 ji6 x10_1 true t302 t305 t308 t309)))) = some r := H
         have A21 := Aside0.mk A210
         clear A210
         by_cases c22 : x10_1 ≥ ji6
         ·rw [if_pos c22] at H
          have c22b0 : decide (ji6 ≤ x10_1) = true := decide_eq_true c22
          clear c22
          have HC23 := Aside0.mk H
          clear H
          have p299 : 0 ≤ (x10_1 : Int) := of_decide_eq_true (by first | (with_reducible assumption) | assumption)
          have q299 : x10_1 < (l1.length : Int) := of_decide_eq_true (by first | (with_reducible assumption) | assumption)
          obtain ⟨ad299, A299_0, c299_0, e299, hx299_0, hl299_0, hi299_0⟩ := at_L7 HR1.out x10_1 p299 q299
          cases e299
          replace hx299_0 := (HB.out.cell (wlt w _ hx299_0)).trans hx299_0
          have HR299_0 := Aside0.mk hi299_0
          have HC299_0 := Aside0.mk hl299_0
          clear hi299_0 hl299_0
          replace p299 := eq_true p299
          replace q299 := eq_true q299
          try go_wp2_with (first | ((with_reducible refine gate_callee (f := 11) rfl ?_); refine goesL_ (some 42) rfl rfl Try.func11 (by kernel_rfl) rfl #[.slice A299_0 (rd_L7 l1 x10_1).length c299_0] rfl (by (try simp only [List.map_toArray, List.map_cons, List.map_nil]); first | done | rfl | (simp only [List.length_drop, List.length_take]; rfl)) ?_; (with_reducible refine (cordwoodref10_Few.calls kj13 _ _ (rd_L7 l1 x10_1) true _ ?side1 ?side2 A19.out).mono ?_); (case side1 => repeat (first | exact (Kd.C_below HR299_0.out HB.out) | (with_reducible refine Kd.C_alloc ?_ _) | (with_reducible refine Kd.C_drewN ?_ _) | (with_reducible refine Kd.C_drew ?_))); (case side2 => exact HC299_0.out); rintro e w24 ⟨rfl, hb⟩; refine ⟨_, rfl, ?_⟩; have n0_ := Aside0.mk (Kd.R_below (by (with_reducible repeat (first | apply Kd.R_alloc | apply Kd.R_drewN | apply Kd.R_drew)); exact HO_299000.out) hb); have n1_ := Aside0.mk (Kd.N_below (by (with_reducible repeat (first | apply Kd.N_alloc | apply Kd.N_drewN | apply Kd.N_drew)); exact HO_299001.out) hb); have n2_ := Aside0.mk (blk_below (g := gb298) (o := .cells #[u299000, u299001, .int .i64 xq2_1, .int .i64 xq3_1] 28 (0, 0)) (by (with_reducible repeat (first | refine blk_drewN ?_ _ | refine blk_drew ?_ | refine blk_alloc ?_ _)); exact BK298.out) hb); have n3_ := Aside0.mk (below_step (by repeat (first | (with_reducible first | exact HB.out | apply below_alloc | apply pw_below_drewN | apply below_drew1 | refine below_set ?_ GE298.out) | exact HB.out)) hb); clear HO_299000; clear HO_299001; clear BK298; clear HB; have HO_299000 := n0_; have HO_299001 := n1_; have BK298 := n2_; have HB := n3_; clear n0_ n1_ n2_ n3_; (try clear hb); (try clear hb2); (try clear hk); (try clear hi); obtain ⟨Ao25, co25, eo25⟩ := Kd.R_slice HO_299000.out; subst eo25; obtain ⟨Ao26, co26, eo26⟩ := Kd.N_slice HO_299001.out; subst eo26))
          have n0_ := Aside0.mk (Kd.R_drew HO_299000.out)
          have n1_ := Aside0.mk (Kd.N_drew HO_299001.out)
          have n2_ := Aside0.mk (blk_drew BK298.out)
          have n3_ := Aside0.mk (below_drew1 HB.out)
          clear HO_299000
          clear HO_299001
          clear BK298
          clear HB
          have HO_299000 := n0_
          have HO_299001 := n1_
          have BK298 := n2_
          have HB := n3_
          clear n0_ n1_ n2_ n3_
          have p301 : 0 ≤ (x10_1 : Int) := of_decide_eq_true (by first | (with_reducible assumption) | assumption)
          have q301 : x10_1 < (l1.length : Int) := of_decide_eq_true (by first | (with_reducible assumption) | assumption)
          obtain ⟨ad301, A301_0, c301_0, e301, hx301_0, hl301_0, hi301_0⟩ := at_L7 HR1.out x10_1 p301 q301
          have hw301_0 := hx301_0
          obtain rfl : ad299 = ad301 := (by injection e301)
          replace hx301_0 := (HB.out.cell (wlt w _ hx301_0)).trans hx301_0
          have HR301_0 := Aside0.mk hi301_0
          have HC301_0 := Aside0.mk hl301_0
          clear hi301_0 hl301_0
          replace p301 := eq_true p301
          replace q301 := eq_true q301
          refine start_ (n := 14) (S := fun w' => w'.cell? ⟨gb298, 0, none⟩ = some (.slice Ao25 xq0_1.length co25) ∧ w'.cell? ⟨gb298, 1, none⟩ = some (.slice Ao26 xq1_1.length co26) ∧ w'.cell? ⟨gb298, 2, none⟩ = some (.int .i64 xq2_1) ∧ w'.cell? ⟨gb298, 3, none⟩ = some (.int .i64 xq3_1) ∧ w'.cell? (ad299.add (x10_1).toNat) = some (.slice A301_0 (rd_L7 l1 x10_1).length c301_0)) (ds := []) #[false, false, false, false, false, false, false, false, false, false, false, false, false, false] (by kernel_rfl) rfl rfl ⟨(blk_cell BK298.out 0).trans rfl, (blk_cell BK298.out 1).trans rfl, (blk_cell BK298.out 2).trans rfl, (blk_cell BK298.out 3).trans rfl, ((HB.out.cell (wlt w _ hw301_0)).trans hw301_0)⟩ (fun hHeld => ?_); refine with_tabW sRoom.tab9 sRoom.bits9 (fun HT_ HW_ => ?_)
          generalize w24.drew = w27 at HO_299000 HO_299001 BK298 HB HR301_0 hx301_0 hHeld ⊢
          refine pure_ (i := 1) (N := some 47) (v := ?_) (a' := ?_) #[false, true, false, false, false, false, false, false, false, false, false, false, false, false] rfl rfl (any_of HT_.out (by kernel_rfl)) (fun _ _ _ h => h) (Or.inl ⟨by rfl, ?_⟩) ?_ ?_
          rotate_left
          ·intro w'
           go_simp
           with_reducible rfl
          rotate_left
          ·simp only [Act.put, List.setIfInBounds_toArray, List.set_cons_zero, List.set_cons_succ, i64_w, i32_w]
           rfl
          refine pure_ (i := 2) (N := some 48) (v := ?_) (a' := ?_) #[false, true, true, false, false, false, false, false, false, false, false, false, false, false] rfl rfl (any_of HT_.out (by kernel_rfl)) (fun _ _ _ h => h) (Or.inl ⟨by rfl, ?_⟩) ?_ ?_
          rotate_left
          ·intro w'
           go_simp
           with_reducible rfl
          rotate_left
          ·simp only [Act.put, List.setIfInBounds_toArray, List.set_cons_zero, List.set_cons_succ, i64_w, i32_w]
           rfl
          refine pure_ (i := 3) (N := some 49) (v := ?_) (a' := ?_) #[false, true, true, true, false, false, false, false, false, false, false, false, false, false] rfl rfl (any_of HT_.out (by kernel_rfl)) (fun _ _ _ h => h) (Or.inl ⟨by rfl, ?_⟩) ?_ ?_
          rotate_left
          ·intro w'
           go_simp
           with_reducible rfl
          rotate_left
          ·simp only [Act.put, List.setIfInBounds_toArray, List.set_cons_zero, List.set_cons_succ, i64_w, i32_w]
           rfl
          refine take_ (i := 0) (N := some 46) (v := ?_) (a' := ?_) #[true, true, true, true, false, false, false, false, false, false, false, false, false, false] rfl rfl (take_ofW HT_.out HW_.out (by kernel_rfl)) (fun _ _ _ h => h) (Or.inl ⟨by rfl, ?_⟩) hHeld ?_ ?_
          rotate_left
          ·rintro w' ⟨s0, s1, s2, s3, s4⟩
           go_simp
           with_reducible rfl
          rotate_left
          ·simp only [Act.put, List.setIfInBounds_toArray, List.set_cons_zero, List.set_cons_succ, i64_w, i32_w]
           rfl
          refine take_ (i := 4) (N := some 50) (v := ?_) (a' := ?_) #[true, true, true, true, true, false, false, false, false, false, false, false, false, false] rfl rfl (take_ofW HT_.out HW_.out (by kernel_rfl)) (fun _ _ _ h => h) (Or.inl ⟨by rfl, ?_⟩) hHeld ?_ ?_
          rotate_left
          ·rintro w' ⟨s0, s1, s2, s3, s4⟩
           go_simp
           with_reducible rfl
          rotate_left
          ·simp only [Act.put, List.setIfInBounds_toArray, List.set_cons_zero, List.set_cons_succ, i64_w, i32_w]
           rfl
          refine join_ (σ := Value × Value × Nat) 3 #[true, true, true, true, true, true, true, true, true, true, true, false, false, false] (fun s_ => [(51, .tuple #[.agg #[s_.1, s_.2.1, .int .i64 t308, .int .i64 t309], .int .i64 t310, .int .i64 t311]), (11, .pointer (some ⟨s_.2.2, 0, none⟩)), (45, .tuple #[.agg #[s_.1, s_.2.1, .int .i64 t308, .int .i64 t309], .int .i64 t310, .int .i64 t311]), (52, .agg #[s_.1, s_.2.1, .int .i64 t308, .int .i64 t309]), (53, .int .i64 t310), (54, .int .i64 t311)]) (fun s_ w' => (w'.cell? ⟨gb298, 0, none⟩ = some (.slice Ao25 xq0_1.length co25) ∧ w'.cell? ⟨gb298, 1, none⟩ = some (.slice Ao26 xq1_1.length co26) ∧ w'.cell? ⟨gb298, 2, none⟩ = some (.int .i64 xq2_1) ∧ w'.cell? ⟨gb298, 3, none⟩ = some (.int .i64 xq3_1) ∧ w'.cell? (ad299.add (x10_1).toNat) = some (.slice A301_0 (rd_L7 l1 x10_1).length c301_0)) ∧ (Kd.R (Kd.int .i64) 3 w' w.heap.size (fun k_ => some k_ ≠ (.slice Ao25 xq0_1.length co25 : Value).ownBlock) s_.1 t302) ∧ (Kd.N (Kd.slice 72 k72) 31 w' w.heap.size (fun k_ => some k_ ≠ (s_.1 : Value).ownBlock ∧ some k_ ≠ (.slice Ao25 xq0_1.length co25 : Value).ownBlock ∧ k_ ≠ gb298 ∧ k_ ≠ s_.2.2) s_.2.1 t305) ∧ (Kd.R (Kd.int .i64) 3 w' w.heap.size (fun k_ => some k_ ≠ (s_.1 : Value).ownBlock) (.slice Ao25 xq0_1.length co25) xq0_1) ∧ (Kd.N (Kd.slice 72 k72) 31 w' w.heap.size (fun k_ => some k_ ≠ (s_.1 : Value).ownBlock ∧ some k_ ≠ (s_.2.1 : Value).ownBlock ∧ some k_ ≠ (.slice Ao25 xq0_1.length co25 : Value).ownBlock ∧ k_ ≠ gb298 ∧ k_ ≠ s_.2.2) (.slice Ao26 xq1_1.length co26) xq1_1) ∧ (w'.heap[gb298]? = some (.cells #[.slice Ao25 xq0_1.length co25, .slice Ao26 xq1_1.length co26, .int .i64 xq2_1, .int .i64 xq3_1] 28 (0, 0))) ∧ (w'.heap[s_.2.2]? = some (.cells #[.slice none 0 0, .slice none 0 0, .int .i64 0, .int .i64 0] 28 (0, 0))) ∧ (w.heap.size ≤ s_.2.2) ∧ (w.heap.size ≤ s_.2.2) ∧ (gb298 ≠ s_.2.2) ∧ (s_.2.2 ≠ gb298) ∧ (Below w.heap.size w w')) ?_ ?_
          rotate_left
          ·intro hCont
           refine two_ (i := 5) (j := 10) (Ni := some 51) (Nj := some 11) #[true, true, true, true, true, true, false, false, false, false, false, false, false, false] #[true, true, true, true, true, false, false, false, false, false, true, false, false, false] rfl rfl rfl rfl (two_of HT_.out (by kernel_rfl)) (by decide) (by decide) (fun K hK => ?_) (fun K hK => ?_)
           ·skip
            refine goes_ Try.func12 (by kernel_rfl) rfl #[.agg #[.slice Ao25 xq0_1.length co25, .slice Ao26 xq1_1.length co26, .int .i64 xq2_1, .int .i64 xq3_1], .slice A301_0 (rd_L7 l1 x10_1).length c301_0] (by rfl) rfl rfl (by (try simp only [List.map_toArray, List.map_cons, List.map_nil]); first | done | rfl | (simp only [List.length_drop, List.length_take]; rfl)) ?_
            with_reducible refine (snaps_Keep.calls _ _ xq0_1 (fun k_ => (some k_ ≠ (.slice Ao25 xq0_1.length co25 : Value).ownBlock ∧ k_ ≠ gb298)) _ _ xq1_1 xq2_1 xq3_1 (fun k_ => k_ < w.heap.size) _ _ (rd_L7 l1 x10_1) t302 t305 t308 t309 t310 t311 _ ?side1 ?side2 ?side3 ?side4 A21.out).mono ?_
            (case side1 => repeat (first | exact (Kd.R_reads' HO_299000.out).2.2 | (with_reducible refine Kd.C_alloc ?_ _) | (with_reducible refine Kd.C_drewN ?_ _) | (with_reducible refine Kd.C_drew ?_)))
            (case side2 => exact (Kd.R_reads' HO_299000.out).2.1)
            (case side3 => exact Kd.N_V (HO_299001.out))
            (case side4 => exact Kd.V_mk HC301_0.out (Kd.F_below (Kd.C_F k72_heap HR301_0.out) (by repeat (first | (with_reducible first | exact HB.out | apply below_alloc | apply pw_below_drewN | apply below_drew1 | refine below_set ?_ GE298.out) | exact HB.out))))
            rintro e w28 ⟨v303, v306, rfl, ho0, ho1, hb⟩
            refine ⟨_, rfl, ?_⟩
            have n0_ := Aside0.mk (Kd.R_elder' (by (with_reducible repeat (first | apply Kd.R_alloc | apply Kd.R_drewN | apply Kd.R_drew)); exact HO_299000.out) (Kd.R_base ho0) hb)
            have n1_ := Aside0.mk (Kd.N_mono (Kd.N_told (Kd.N_told (Kd.N_old (by (with_reducible repeat (first | apply Kd.N_alloc | apply Kd.N_drewN | apply Kd.N_drew)); exact HO_299001.out) hb) (Kd.R_base ho0)) (Kd.N_base ho1)) (fun _ h_ => h_.1))
            have n2_ := Aside0.mk (Kd.R_lower (Kd.R_new' (Kd.R_mono (ok' := fun k_ => True) ho0 (fun _ hk_ => trivial)) (Kd.R_lt (by (with_reducible repeat (first | apply Kd.R_alloc | apply Kd.R_drewN | apply Kd.R_drew)); exact HO_299000.out))) (below_size (by repeat (first | (with_reducible first | exact HB.out | apply below_alloc | apply pw_below_drewN | apply below_drew1 | refine below_set ?_ GE298.out) | exact HB.out))))
            have n3_ := Aside0.mk (Kd.N_lower (Kd.N_mono (ok' := fun k_ => some k_ ≠ (v303 : Value).ownBlock ∧ some k_ ≠ (.slice Ao25 xq0_1.length co25 : Value).ownBlock ∧ k_ ≠ gb298) ho1 (fun k_ hk_ => ⟨hk_.2, Or.elim hk_.1 (fun hs_ => Or.elim hs_ (fun hs_ => hs_.1) (fun hs_ => fun e_ => Nat.not_le.2 hs_ (Kd.R_base HO_299000.out k_ e_.symm))) (fun hn_ => (Kd.fresh' (Kd.R_lt (by (with_reducible repeat (first | apply Kd.R_alloc | apply Kd.R_drewN | apply Kd.R_drew)); exact HO_299000.out)) k_ hn_)), Or.elim hk_.1 (fun hs_ => Or.elim hs_ (fun hs_ => hs_.2) (fun hs_ => fun e_ => Nat.not_le.2 hs_ (by rw [e_]; exact GW298.out))) (fun hn_ => (Kd.freshB (g := gb298) (o := .cells #[.slice Ao25 xq0_1.length co25, .slice Ao26 xq1_1.length co26, .int .i64 xq2_1, .int .i64 xq3_1] 28 (0, 0)) (by (with_reducible repeat (first | refine blk_drewN ?_ _ | refine blk_drew ?_ | refine blk_alloc ?_ _)); exact BK298.out) k_ hn_))⟩)) (below_size (by repeat (first | (with_reducible first | exact HB.out | apply below_alloc | apply pw_below_drewN | apply below_drew1 | refine below_set ?_ GE298.out) | exact HB.out))))
            have n4_ := Aside0.mk (blk_below (g := gb298) (o := .cells #[.slice Ao25 xq0_1.length co25, .slice Ao26 xq1_1.length co26, .int .i64 xq2_1, .int .i64 xq3_1] 28 (0, 0)) (by (with_reducible repeat (first | refine blk_drewN ?_ _ | refine blk_drew ?_ | refine blk_alloc ?_ _)); exact BK298.out) hb)
            have n5_ := Aside0.mk (below_step (by repeat (first | (with_reducible first | exact HB.out | apply below_alloc | apply pw_below_drewN | apply below_drew1 | refine below_set ?_ GE298.out) | exact HB.out)) hb)
            clear HO_299000
            clear HO_299001
            clear BK298
            clear HB
            have HO_299000 := n0_
            have HO_299001 := n1_
            have HO304 := n2_
            have HO307 := n3_
            have BK298 := n4_
            have HB := n5_
            clear n0_ n1_ n2_ n3_ n4_ n5_
            (try clear hb)
            (try clear hb2)
            (try clear hk)
            (try clear hi)
            (try clear ho0)
            (try clear ho1)
            refine hK.out _ _ ⟨(blk_cell BK298.out 0).trans rfl, (blk_cell BK298.out 1).trans rfl, (blk_cell BK298.out 2).trans rfl, (blk_cell BK298.out 3).trans rfl, ((HB.out.cell (wlt w _ hw301_0)).trans hw301_0)⟩ (fun hHeld => ?_)
            clear hK K
            refine norm_ (a' := ?_) ?_ ?_
            rotate_left
            ·show Act.put _ (some 51) _ = _
             simp only [Act.put, List.setIfInBounds_toArray, List.set_cons_zero, List.set_cons_succ, i64_w, i32_w]
             rfl
            refine pure_ (i := 6) (N := some 45) (v := ?_) (a' := ?_) #[true, true, true, true, true, true, true, false, false, false, false, false, false, false] rfl rfl (any_of HT_.out (by kernel_rfl)) (fun _ _ _ h => h) (Or.inl ⟨by rfl, ?_⟩) ?_ ?_
            rotate_left
            ·intro w'
             go_simp
             with_reducible rfl
            rotate_left
            ·simp only [Act.put, List.setIfInBounds_toArray, List.set_cons_zero, List.set_cons_succ, i64_w, i32_w]
             rfl
            refine pure_ (i := 7) (N := some 52) (v := ?_) (a' := ?_) #[true, true, true, true, true, true, true, true, false, false, false, false, false, false] rfl rfl (any_of HT_.out (by kernel_rfl)) (fun _ _ _ h => h) (Or.inl ⟨by rfl, ?_⟩) ?_ ?_
            rotate_left
            ·intro w'
             go_simp
             with_reducible rfl
            rotate_left
            ·simp only [Act.put, List.setIfInBounds_toArray, List.set_cons_zero, List.set_cons_succ, i64_w, i32_w]
             rfl
            refine pure_ (i := 8) (N := some 53) (v := ?_) (a' := ?_) #[true, true, true, true, true, true, true, true, true, false, false, false, false, false] rfl rfl (any_of HT_.out (by kernel_rfl)) (fun _ _ _ h => h) (Or.inl ⟨by rfl, ?_⟩) ?_ ?_
            rotate_left
            ·intro w'
             go_simp
             with_reducible rfl
            rotate_left
            ·simp only [Act.put, List.setIfInBounds_toArray, List.set_cons_zero, List.set_cons_succ, i64_w, i32_w]
             rfl
            refine pure_ (i := 9) (N := some 54) (v := ?_) (a' := ?_) #[true, true, true, true, true, true, true, true, true, true, false, false, false, false] rfl rfl (any_of HT_.out (by kernel_rfl)) (fun _ _ _ h => h) (Or.inl ⟨by rfl, ?_⟩) ?_ ?_
            rotate_left
            ·intro w'
             go_simp
             with_reducible rfl
            rotate_left
            ·simp only [Act.put, List.setIfInBounds_toArray, List.set_cons_zero, List.set_cons_succ, i64_w, i32_w]
             rfl
            refine one_ (i := 10) (N := some 11) #[true, true, true, true, true, true, true, true, true, true, true, false, false, false] rfl rfl (one_of HT_.out (by kernel_rfl)) (by decide) (fun K hK => ?_)
            refine box_step ?hg (N := 11) ?hd (cs := #[.slice none 0 0, .slice none 0 0, .int .i64 0, .int .i64 0]) (t := 28) ?hr ?_; (case hd => rfl); (case hg => rfl); (case hr => first | (go_simp; done) | (go_simp; rfl))
            intro gb312 hg w29 hbox hb
            have n0_ := Aside0.mk (Kd.R_below (by (with_reducible repeat (first | apply Kd.R_alloc | apply Kd.R_drewN | apply Kd.R_drew)); exact HO_299000.out) hb)
            have n1_ := Aside0.mk (Kd.N_below (Kd.N_elderB (by (with_reducible repeat (first | apply Kd.N_alloc | apply Kd.N_drewN | apply Kd.N_drew)); exact HO_299001.out) gb312 (Nat.le_of_eq hg.symm)) hb)
            have n2_ := Aside0.mk (Kd.R_below (by (with_reducible repeat (first | apply Kd.R_alloc | apply Kd.R_drewN | apply Kd.R_drew)); exact HO304.out) hb)
            have n3_ := Aside0.mk (Kd.N_below (Kd.N_elderB (by (with_reducible repeat (first | apply Kd.N_alloc | apply Kd.N_drewN | apply Kd.N_drew)); exact HO307.out) gb312 (Nat.le_of_eq hg.symm)) hb)
            have n4_ := Aside0.mk (blk_below (g := gb298) (o := .cells #[.slice Ao25 xq0_1.length co25, .slice Ao26 xq1_1.length co26, .int .i64 xq2_1, .int .i64 xq3_1] 28 (0, 0)) (by (with_reducible repeat (first | refine blk_drewN ?_ _ | refine blk_drew ?_ | refine blk_alloc ?_ _)); exact BK298.out) hb)
            have n5_ := Aside0.mk (below_step (by repeat (first | (with_reducible first | exact HB.out | apply below_alloc | apply pw_below_drewN | apply below_drew1 | refine below_set ?_ GE298.out) | exact HB.out)) hb)
            have n6_ := Aside0.mk (hbox)
            have n7_ := Aside0.mk ((by rw [hg]; exact (below_size (by repeat (first | (with_reducible first | exact HB.out | apply below_alloc | apply pw_below_drewN | apply below_drew1 | refine below_set ?_ GE298.out) | exact HB.out))) : w.heap.size ≤ gb312))
            have n8_ := Aside0.mk ((by rw [hg]; exact (below_size (by repeat (first | (with_reducible first | exact HB.out | apply below_alloc | apply pw_below_drewN | apply below_drew1 | refine below_set ?_ GE298.out) | exact HB.out))) : w.heap.size ≤ gb312))
            have n9_ := Aside0.mk ((by rw [hg]; exact Nat.ne_of_lt (blk_lt (g := gb298) (o := .cells #[.slice Ao25 xq0_1.length co25, .slice Ao26 xq1_1.length co26, .int .i64 xq2_1, .int .i64 xq3_1] 28 (0, 0)) (by (with_reducible repeat (first | refine blk_drewN ?_ _ | refine blk_drew ?_ | refine blk_alloc ?_ _)); exact BK298.out)) : gb298 ≠ gb312))
            have n10_ := Aside0.mk ((by rw [hg]; exact Nat.ne_of_gt (blk_lt (g := gb298) (o := .cells #[.slice Ao25 xq0_1.length co25, .slice Ao26 xq1_1.length co26, .int .i64 xq2_1, .int .i64 xq3_1] 28 (0, 0)) (by (with_reducible repeat (first | refine blk_drewN ?_ _ | refine blk_drew ?_ | refine blk_alloc ?_ _)); exact BK298.out)) : gb312 ≠ gb298))
            clear HO_299000
            clear HO_299001
            clear HO304
            clear HO307
            clear BK298
            clear HB
            have HO_299000 := n0_
            have HO_299001 := n1_
            have HO304 := n2_
            have HO307 := n3_
            have BK298 := n4_
            have HB := n5_
            have BK312 := n6_
            have GW312 := n7_
            have GE312 := n8_
            have NB298_312 := n9_
            have NB312_298 := n10_
            clear n0_ n1_ n2_ n3_ n4_ n5_ n6_ n7_ n8_ n9_ n10_
            clear hb hbox hg
            refine hK.out _ _ ⟨(blk_cell BK298.out 0).trans rfl, (blk_cell BK298.out 1).trans rfl, (blk_cell BK298.out 2).trans rfl, (blk_cell BK298.out 3).trans rfl, ((HB.out.cell (wlt w _ hw301_0)).trans hw301_0)⟩ (fun hHeld => ?_)
            clear hK K
            refine norm_ (a' := ?_) ?_ ?_
            rotate_left
            ·show Act.put _ (some 11) _ = _
             simp only [Act.put, List.setIfInBounds_toArray, List.set_cons_zero, List.set_cons_succ, i64_w, i32_w]
             rfl
            exact norm_ (by simp only [putAll, Act.put, List.setIfInBounds_toArray, List.set_cons_zero, List.set_cons_succ]) (hCont (v303, v306, gb312) _ ⟨hHeld, (by (with_reducible repeat (first | apply Kd.R_alloc | apply Kd.R_drewN | apply Kd.R_drew)); exact Kd.R_mono HO304.out (fun _ hk => hk.2)), (by (with_reducible repeat (first | apply Kd.N_alloc | apply Kd.N_drewN | apply Kd.N_drew)); exact Kd.N_mono HO307.out (fun _ hk => ⟨hk.1.1, ⟨hk.1.2.1, ⟨hk.1.2.2, hk.2⟩⟩⟩)), (by (with_reducible repeat (first | apply Kd.R_alloc | apply Kd.R_drewN | apply Kd.R_drew)); exact Kd.R_mono HO_299000.out (fun _ hk => hk.2)), (by (with_reducible repeat (first | apply Kd.N_alloc | apply Kd.N_drewN | apply Kd.N_drew)); exact Kd.N_mono HO_299001.out (fun _ hk => ⟨hk.1.1.2, ⟨hk.1.2, ⟨hk.1.1.1.1, ⟨hk.1.1.1.2, hk.2⟩⟩⟩⟩)), (by (with_reducible repeat (first | refine blk_drewN ?_ _ | refine blk_drew ?_ | refine blk_alloc ?_ _)); exact BK298.out), (by (with_reducible repeat (first | refine blk_drewN ?_ _ | refine blk_drew ?_ | refine blk_alloc ?_ _)); exact BK312.out), GW312.out, GE312.out, NB298_312.out, NB312_298.out, (by repeat (first | (with_reducible first | exact HB.out | apply below_alloc | apply pw_below_drewN | apply below_drew1 | refine below_set ?_ GE298.out | refine below_set ?_ GE312.out) | exact HB.out))⟩)
           ·skip
            refine box_step ?hg (N := 11) ?hd (cs := #[.slice none 0 0, .slice none 0 0, .int .i64 0, .int .i64 0]) (t := 28) ?hr ?_; (case hd => rfl); (case hg => rfl); (case hr => first | (go_simp; done) | (go_simp; rfl))
            intro gb312 hg w28 hbox hb
            have n0_ := Aside0.mk (Kd.R_below (by (with_reducible repeat (first | apply Kd.R_alloc | apply Kd.R_drewN | apply Kd.R_drew)); exact HO_299000.out) hb)
            have n1_ := Aside0.mk (Kd.N_below (Kd.N_elderB (by (with_reducible repeat (first | apply Kd.N_alloc | apply Kd.N_drewN | apply Kd.N_drew)); exact HO_299001.out) gb312 (Nat.le_of_eq hg.symm)) hb)
            have n2_ := Aside0.mk (blk_below (g := gb298) (o := .cells #[.slice Ao25 xq0_1.length co25, .slice Ao26 xq1_1.length co26, .int .i64 xq2_1, .int .i64 xq3_1] 28 (0, 0)) (by (with_reducible repeat (first | refine blk_drewN ?_ _ | refine blk_drew ?_ | refine blk_alloc ?_ _)); exact BK298.out) hb)
            have n3_ := Aside0.mk (below_step (by repeat (first | (with_reducible first | exact HB.out | apply below_alloc | apply pw_below_drewN | apply below_drew1 | refine below_set ?_ GE298.out) | exact HB.out)) hb)
            have n4_ := Aside0.mk (hbox)
            have n5_ := Aside0.mk ((by rw [hg]; exact (below_size (by repeat (first | (with_reducible first | exact HB.out | apply below_alloc | apply pw_below_drewN | apply below_drew1 | refine below_set ?_ GE298.out) | exact HB.out))) : w.heap.size ≤ gb312))
            have n6_ := Aside0.mk ((by rw [hg]; exact (below_size (by repeat (first | (with_reducible first | exact HB.out | apply below_alloc | apply pw_below_drewN | apply below_drew1 | refine below_set ?_ GE298.out) | exact HB.out))) : w.heap.size ≤ gb312))
            have n7_ := Aside0.mk ((by rw [hg]; exact Nat.ne_of_lt (blk_lt (g := gb298) (o := .cells #[.slice Ao25 xq0_1.length co25, .slice Ao26 xq1_1.length co26, .int .i64 xq2_1, .int .i64 xq3_1] 28 (0, 0)) (by (with_reducible repeat (first | refine blk_drewN ?_ _ | refine blk_drew ?_ | refine blk_alloc ?_ _)); exact BK298.out)) : gb298 ≠ gb312))
            have n8_ := Aside0.mk ((by rw [hg]; exact Nat.ne_of_gt (blk_lt (g := gb298) (o := .cells #[.slice Ao25 xq0_1.length co25, .slice Ao26 xq1_1.length co26, .int .i64 xq2_1, .int .i64 xq3_1] 28 (0, 0)) (by (with_reducible repeat (first | refine blk_drewN ?_ _ | refine blk_drew ?_ | refine blk_alloc ?_ _)); exact BK298.out)) : gb312 ≠ gb298))
            clear HO_299000
            clear HO_299001
            clear BK298
            clear HB
            have HO_299000 := n0_
            have HO_299001 := n1_
            have BK298 := n2_
            have HB := n3_
            have BK312 := n4_
            have GW312 := n5_
            have GE312 := n6_
            have NB298_312 := n7_
            have NB312_298 := n8_
            clear n0_ n1_ n2_ n3_ n4_ n5_ n6_ n7_ n8_
            clear hb hbox hg
            refine hK.out _ _ ⟨(blk_cell BK298.out 0).trans rfl, (blk_cell BK298.out 1).trans rfl, (blk_cell BK298.out 2).trans rfl, (blk_cell BK298.out 3).trans rfl, ((HB.out.cell (wlt w _ hw301_0)).trans hw301_0)⟩ (fun hHeld => ?_)
            clear hK K
            refine norm_ (a' := ?_) ?_ ?_
            rotate_left
            ·show Act.put _ (some 11) _ = _
             simp only [Act.put, List.setIfInBounds_toArray, List.set_cons_zero, List.set_cons_succ, i64_w, i32_w]
             rfl
            refine one_ (i := 5) (N := some 51) #[true, true, true, true, true, true, false, false, false, false, true, false, false, false] rfl rfl (one_of HT_.out (by kernel_rfl)) (by decide) (fun K hK => ?_)
            refine goes_ Try.func12 (by kernel_rfl) rfl #[.agg #[.slice Ao25 xq0_1.length co25, .slice Ao26 xq1_1.length co26, .int .i64 xq2_1, .int .i64 xq3_1], .slice A301_0 (rd_L7 l1 x10_1).length c301_0] (by rfl) rfl rfl (by (try simp only [List.map_toArray, List.map_cons, List.map_nil]); first | done | rfl | (simp only [List.length_drop, List.length_take]; rfl)) ?_
            with_reducible refine (snaps_Keep.calls _ _ xq0_1 (fun k_ => ((some k_ ≠ (.slice Ao25 xq0_1.length co25 : Value).ownBlock ∧ k_ ≠ gb298) ∧ k_ ≠ gb312)) _ _ xq1_1 xq2_1 xq3_1 (fun k_ => k_ < w.heap.size) _ _ (rd_L7 l1 x10_1) t302 t305 t308 t309 t310 t311 _ ?side1 ?side2 ?side3 ?side4 A21.out).mono ?_
            (case side1 => repeat (first | exact (Kd.R_reads' HO_299000.out).2.2 | (with_reducible refine Kd.C_alloc ?_ _) | (with_reducible refine Kd.C_drewN ?_ _) | (with_reducible refine Kd.C_drew ?_)))
            (case side2 => exact (Kd.R_reads' HO_299000.out).2.1)
            (case side3 => exact Kd.N_V (HO_299001.out))
            (case side4 => exact Kd.V_mk HC301_0.out (Kd.F_below (Kd.C_F k72_heap HR301_0.out) (by repeat (first | (with_reducible first | exact HB.out | apply below_alloc | apply pw_below_drewN | apply below_drew1 | refine below_set ?_ GE298.out | refine below_set ?_ GE312.out) | exact HB.out))))
            rintro e w29 ⟨v303, v306, rfl, ho0, ho1, hb⟩
            refine ⟨_, rfl, ?_⟩
            have n0_ := Aside0.mk (Kd.R_elder' (by (with_reducible repeat (first | apply Kd.R_alloc | apply Kd.R_drewN | apply Kd.R_drew)); exact HO_299000.out) (Kd.R_base ho0) hb)
            have n1_ := Aside0.mk (Kd.N_mono (Kd.N_told (Kd.N_told (Kd.N_old (by (with_reducible repeat (first | apply Kd.N_alloc | apply Kd.N_drewN | apply Kd.N_drew)); exact HO_299001.out) hb) (Kd.R_base ho0)) (Kd.N_base ho1)) (fun _ h_ => h_.1))
            have n2_ := Aside0.mk (Kd.R_lower (Kd.R_new' (Kd.R_mono (ok' := fun k_ => True) ho0 (fun _ hk_ => trivial)) (Kd.R_lt (by (with_reducible repeat (first | apply Kd.R_alloc | apply Kd.R_drewN | apply Kd.R_drew)); exact HO_299000.out))) (below_size (by repeat (first | (with_reducible first | exact HB.out | apply below_alloc | apply pw_below_drewN | apply below_drew1 | refine below_set ?_ GE298.out | refine below_set ?_ GE312.out) | exact HB.out))))
            have n3_ := Aside0.mk (Kd.N_lower (Kd.N_mono (ok' := fun k_ => some k_ ≠ (v303 : Value).ownBlock ∧ some k_ ≠ (.slice Ao25 xq0_1.length co25 : Value).ownBlock ∧ k_ ≠ gb298 ∧ k_ ≠ gb312) ho1 (fun k_ hk_ => ⟨hk_.2, Or.elim hk_.1 (fun hs_ => Or.elim hs_ (fun hs_ => hs_.1.1) (fun hs_ => fun e_ => Nat.not_le.2 hs_ (Kd.R_base HO_299000.out k_ e_.symm))) (fun hn_ => (Kd.fresh' (Kd.R_lt (by (with_reducible repeat (first | apply Kd.R_alloc | apply Kd.R_drewN | apply Kd.R_drew)); exact HO_299000.out)) k_ hn_)), Or.elim hk_.1 (fun hs_ => Or.elim hs_ (fun hs_ => hs_.1.2) (fun hs_ => fun e_ => Nat.not_le.2 hs_ (by rw [e_]; exact GW298.out))) (fun hn_ => (Kd.freshB (g := gb298) (o := .cells #[.slice Ao25 xq0_1.length co25, .slice Ao26 xq1_1.length co26, .int .i64 xq2_1, .int .i64 xq3_1] 28 (0, 0)) (by (with_reducible repeat (first | refine blk_drewN ?_ _ | refine blk_drew ?_ | refine blk_alloc ?_ _)); exact BK298.out) k_ hn_)), Or.elim hk_.1 (fun hs_ => Or.elim hs_ (fun hs_ => hs_.2) (fun hs_ => fun e_ => Nat.not_le.2 hs_ (by rw [e_]; exact GW312.out))) (fun hn_ => (Kd.freshB (g := gb312) (o := .cells #[.slice none 0 0, .slice none 0 0, .int .i64 0, .int .i64 0] 28 (0, 0)) (by (with_reducible repeat (first | refine blk_drewN ?_ _ | refine blk_drew ?_ | refine blk_alloc ?_ _)); exact BK312.out) k_ hn_))⟩)) (below_size (by repeat (first | (with_reducible first | exact HB.out | apply below_alloc | apply pw_below_drewN | apply below_drew1 | refine below_set ?_ GE298.out | refine below_set ?_ GE312.out) | exact HB.out))))
            have n4_ := Aside0.mk (blk_below (g := gb298) (o := .cells #[.slice Ao25 xq0_1.length co25, .slice Ao26 xq1_1.length co26, .int .i64 xq2_1, .int .i64 xq3_1] 28 (0, 0)) (by (with_reducible repeat (first | refine blk_drewN ?_ _ | refine blk_drew ?_ | refine blk_alloc ?_ _)); exact BK298.out) hb)
            have n5_ := Aside0.mk (blk_below (g := gb312) (o := .cells #[.slice none 0 0, .slice none 0 0, .int .i64 0, .int .i64 0] 28 (0, 0)) (by (with_reducible repeat (first | refine blk_drewN ?_ _ | refine blk_drew ?_ | refine blk_alloc ?_ _)); exact BK312.out) hb)
            have n6_ := Aside0.mk (below_step (by repeat (first | (with_reducible first | exact HB.out | apply below_alloc | apply pw_below_drewN | apply below_drew1 | refine below_set ?_ GE298.out | refine below_set ?_ GE312.out) | exact HB.out)) hb)
            clear HO_299000
            clear HO_299001
            clear BK298
            clear BK312
            clear HB
            have HO_299000 := n0_
            have HO_299001 := n1_
            have HO304 := n2_
            have HO307 := n3_
            have BK298 := n4_
            have BK312 := n5_
            have HB := n6_
            clear n0_ n1_ n2_ n3_ n4_ n5_ n6_
            (try clear hb)
            (try clear hb2)
            (try clear hk)
            (try clear hi)
            (try clear ho0)
            (try clear ho1)
            refine hK.out _ _ ⟨(blk_cell BK298.out 0).trans rfl, (blk_cell BK298.out 1).trans rfl, (blk_cell BK298.out 2).trans rfl, (blk_cell BK298.out 3).trans rfl, ((HB.out.cell (wlt w _ hw301_0)).trans hw301_0)⟩ (fun hHeld => ?_)
            clear hK K
            refine norm_ (a' := ?_) ?_ ?_
            rotate_left
            ·show Act.put _ (some 51) _ = _
             simp only [Act.put, List.setIfInBounds_toArray, List.set_cons_zero, List.set_cons_succ, i64_w, i32_w]
             rfl
            refine pure_ (i := 6) (N := some 45) (v := ?_) (a' := ?_) #[true, true, true, true, true, true, true, false, false, false, true, false, false, false] rfl rfl (any_of HT_.out (by kernel_rfl)) (fun _ _ _ h => h) (Or.inl ⟨by rfl, ?_⟩) ?_ ?_
            rotate_left
            ·intro w'
             go_simp
             with_reducible rfl
            rotate_left
            ·simp only [Act.put, List.setIfInBounds_toArray, List.set_cons_zero, List.set_cons_succ, i64_w, i32_w]
             rfl
            refine pure_ (i := 7) (N := some 52) (v := ?_) (a' := ?_) #[true, true, true, true, true, true, true, true, false, false, true, false, false, false] rfl rfl (any_of HT_.out (by kernel_rfl)) (fun _ _ _ h => h) (Or.inl ⟨by rfl, ?_⟩) ?_ ?_
            rotate_left
            ·intro w'
             go_simp
             with_reducible rfl
            rotate_left
            ·simp only [Act.put, List.setIfInBounds_toArray, List.set_cons_zero, List.set_cons_succ, i64_w, i32_w]
             rfl
            refine pure_ (i := 8) (N := some 53) (v := ?_) (a' := ?_) #[true, true, true, true, true, true, true, true, true, false, true, false, false, false] rfl rfl (any_of HT_.out (by kernel_rfl)) (fun _ _ _ h => h) (Or.inl ⟨by rfl, ?_⟩) ?_ ?_
            rotate_left
            ·intro w'
             go_simp
             with_reducible rfl
            rotate_left
            ·simp only [Act.put, List.setIfInBounds_toArray, List.set_cons_zero, List.set_cons_succ, i64_w, i32_w]
             rfl
            refine pure_ (i := 9) (N := some 54) (v := ?_) (a' := ?_) #[true, true, true, true, true, true, true, true, true, true, true, false, false, false] rfl rfl (any_of HT_.out (by kernel_rfl)) (fun _ _ _ h => h) (Or.inl ⟨by rfl, ?_⟩) ?_ ?_
            rotate_left
            ·intro w'
             go_simp
             with_reducible rfl
            rotate_left
            ·simp only [Act.put, List.setIfInBounds_toArray, List.set_cons_zero, List.set_cons_succ, i64_w, i32_w]
             rfl
            exact norm_ (by simp only [putAll, Act.put, List.setIfInBounds_toArray, List.set_cons_zero, List.set_cons_succ]) (hCont (v303, v306, gb312) _ ⟨hHeld, (by (with_reducible repeat (first | apply Kd.R_alloc | apply Kd.R_drewN | apply Kd.R_drew)); exact Kd.R_mono HO304.out (fun _ hk => hk.2)), (by (with_reducible repeat (first | apply Kd.N_alloc | apply Kd.N_drewN | apply Kd.N_drew)); exact HO307.out), (by (with_reducible repeat (first | apply Kd.R_alloc | apply Kd.R_drewN | apply Kd.R_drew)); exact Kd.R_mono HO_299000.out (fun _ hk => hk.2)), (by (with_reducible repeat (first | apply Kd.N_alloc | apply Kd.N_drewN | apply Kd.N_drew)); exact Kd.N_mono HO_299001.out (fun _ hk => ⟨hk.1.2, ⟨hk.2, ⟨hk.1.1.1.1, ⟨hk.1.1.1.2, hk.1.1.2⟩⟩⟩⟩)), (by (with_reducible repeat (first | refine blk_drewN ?_ _ | refine blk_drew ?_ | refine blk_alloc ?_ _)); exact BK298.out), (by (with_reducible repeat (first | refine blk_drewN ?_ _ | refine blk_drew ?_ | refine blk_alloc ?_ _)); exact BK312.out), GW312.out, GE312.out, NB298_312.out, NB312_298.out, (by repeat (first | (with_reducible first | exact HB.out | apply below_alloc | apply pw_below_drewN | apply below_drew1 | refine below_set ?_ GE298.out | refine below_set ?_ GE312.out) | exact HB.out))⟩)
          rintro ⟨v303, v306, gb312⟩ w30 ⟨hS_, h0_, h1_, h2_, h3_, h4_, h5_, h6_, h7_, h8_, h9_, h10_⟩
          have n0_ : Aside0 (Kd.R (Kd.int .i64) 3 w30 w.heap.size (fun k_ => some k_ ≠ (.slice Ao25 xq0_1.length co25 : Value).ownBlock) v303 t302) := ⟨h0_⟩
          have n1_ : Aside0 (Kd.N (Kd.slice 72 k72) 31 w30 w.heap.size (fun k_ => some k_ ≠ (v303 : Value).ownBlock ∧ some k_ ≠ (.slice Ao25 xq0_1.length co25 : Value).ownBlock ∧ k_ ≠ gb298 ∧ k_ ≠ gb312) v306 t305) := ⟨h1_⟩
          have n2_ : Aside0 (Kd.R (Kd.int .i64) 3 w30 w.heap.size (fun k_ => some k_ ≠ (v303 : Value).ownBlock) (.slice Ao25 xq0_1.length co25) xq0_1) := ⟨h2_⟩
          have n3_ : Aside0 (Kd.N (Kd.slice 72 k72) 31 w30 w.heap.size (fun k_ => some k_ ≠ (v303 : Value).ownBlock ∧ some k_ ≠ (v306 : Value).ownBlock ∧ some k_ ≠ (.slice Ao25 xq0_1.length co25 : Value).ownBlock ∧ k_ ≠ gb298 ∧ k_ ≠ gb312) (.slice Ao26 xq1_1.length co26) xq1_1) := ⟨h3_⟩
          have n4_ : Aside0 (w30.heap[gb298]? = some (.cells #[.slice Ao25 xq0_1.length co25, .slice Ao26 xq1_1.length co26, .int .i64 xq2_1, .int .i64 xq3_1] 28 (0, 0))) := ⟨h4_⟩
          have n5_ : Aside0 (w30.heap[gb312]? = some (.cells #[.slice none 0 0, .slice none 0 0, .int .i64 0, .int .i64 0] 28 (0, 0))) := ⟨h5_⟩
          have n6_ : Aside0 (w.heap.size ≤ gb312) := ⟨h6_⟩
          have n7_ : Aside0 (w.heap.size ≤ gb312) := ⟨h7_⟩
          have n8_ : Aside0 (gb298 ≠ gb312) := ⟨h8_⟩
          have n9_ : Aside0 (gb312 ≠ gb298) := ⟨h9_⟩
          have n10_ : Aside0 (Below w.heap.size w w30) := ⟨h10_⟩
          clear HO_299000
          clear HO_299001
          clear BK298
          clear HB
          clear h0_ h1_ h2_ h3_ h4_ h5_ h6_ h7_ h8_ h9_ h10_
          have HO304 := n0_
          have HO307 := n1_
          have HO_299000 := n2_
          have HO_299001 := n3_
          have BK298 := n4_
          have BK312 := n5_
          have GW312 := n6_
          have GE312 := n7_
          have NB298_312 := n8_
          have NB312_298 := n9_
          have HB := n10_
          clear n0_ n1_ n2_ n3_ n4_ n5_ n6_ n7_ n8_ n9_ n10_
          have hHeld : w30.cell? ⟨gb298, 0, none⟩ = some (.slice Ao25 xq0_1.length co25) ∧ w30.cell? ⟨gb298, 1, none⟩ = some (.slice Ao26 xq1_1.length co26) ∧ w30.cell? ⟨gb298, 2, none⟩ = some (.int .i64 xq2_1) ∧ w30.cell? ⟨gb298, 3, none⟩ = some (.int .i64 xq3_1) ∧ w30.cell? (ad299.add (x10_1).toNat) = some (.slice A301_0 (rd_L7 l1 x10_1).length c301_0) := hS_
          obtain ⟨Ao31, co31, eo31⟩ := Kd.R_slice HO304.out
          (first | subst eo31 | (injection eo31 with f1_ f2_ f3_; have f4_ := f1_.symm; have f5_ := f3_.symm; clear f1_ f2_ f3_; subst f4_; subst f5_))
          obtain ⟨Ao33, co33, eo33⟩ := Kd.N_slice HO307.out
          (first | subst eo33 | (injection eo33 with f1_ f2_ f3_; have f4_ := f1_.symm; have f5_ := f3_.symm; clear f1_ f2_ f3_; subst f4_; subst f5_))
          refine norm_ (a' := ?_) ?_ ?_
          rotate_left
          ·simp only [putAll, Act.put, List.setIfInBounds_toArray, List.set_cons_zero, List.set_cons_succ]
           rfl
          refine one_ (i := 11) (N := none) #[true, true, true, true, true, true, true, true, true, true, true, true, false, false] rfl rfl (one_of HT_.out (by kernel_rfl)) (by decide) (fun K hK => ?_)
          have hs32 : w30.cell? ⟨gb312, 0, none⟩ = some (.slice none 0 0) := (blk_cell BK312.out 0).trans rfl
          have hfs32 := blk_frozen BK312.out 0
          have hns32_0 := NB298_312.out
          have hms32_0 := NB312_298.out
          have hs34 : w30.cell? ⟨gb312, 1, none⟩ = some (.slice none 0 0) := (blk_cell BK312.out 1).trans rfl
          have hfs34 := blk_frozen BK312.out 1
          have hns34_0 := NB298_312.out
          have hms34_0 := NB312_298.out
          have hs35 : w30.cell? ⟨gb312, 2, none⟩ = some (.int .i64 0) := (blk_cell BK312.out 2).trans rfl
          have hfs35 := blk_frozen BK312.out 2
          have hns35_0 := NB298_312.out
          have hms35_0 := NB312_298.out
          have hs36 : w30.cell? ⟨gb312, 3, none⟩ = some (.int .i64 0) := (blk_cell BK312.out 3).trans rfl
          have hfs36 := blk_frozen BK312.out 3
          have hns36_0 := NB298_312.out
          have hms36_0 := NB312_298.out
          refine skip_ (w1 := ?_) (by rfl) rfl ?_ ?_
          rotate_left
          ·go_simp
           rfl
          refine hK.out _ _ ⟨((cell_far (p := ⟨gb312, _, none⟩) NB298_312.out _).trans (((cell_far (p := ⟨gb312, _, none⟩) NB298_312.out _).trans (((cell_far (p := ⟨gb312, _, none⟩) NB298_312.out _).trans (((cell_far (p := ⟨gb312, _, none⟩) NB298_312.out _).trans (hHeld.1)))))))), ((cell_far (p := ⟨gb312, _, none⟩) NB298_312.out _).trans (((cell_far (p := ⟨gb312, _, none⟩) NB298_312.out _).trans (((cell_far (p := ⟨gb312, _, none⟩) NB298_312.out _).trans (((cell_far (p := ⟨gb312, _, none⟩) NB298_312.out _).trans (hHeld.2.1)))))))), ((cell_far (p := ⟨gb312, _, none⟩) NB298_312.out _).trans (((cell_far (p := ⟨gb312, _, none⟩) NB298_312.out _).trans (((cell_far (p := ⟨gb312, _, none⟩) NB298_312.out _).trans (((cell_far (p := ⟨gb312, _, none⟩) NB298_312.out _).trans (hHeld.2.2.1)))))))), ((cell_far (p := ⟨gb312, _, none⟩) NB298_312.out _).trans (((cell_far (p := ⟨gb312, _, none⟩) NB298_312.out _).trans (((cell_far (p := ⟨gb312, _, none⟩) NB298_312.out _).trans (((cell_far (p := ⟨gb312, _, none⟩) NB298_312.out _).trans (hHeld.2.2.2.1)))))))), ((cell_far (p := ⟨gb312, _, none⟩) (by first | exact Nat.ne_of_lt (Nat.lt_of_lt_of_le (by have := wlt _ _ hw301_0; first | rwa [add_block] at this | exact this) GW312.out) | (rw [add_block]; exact Nat.ne_of_lt (Nat.lt_of_lt_of_le (by have := wlt _ _ hw301_0; first | rwa [add_block] at this | exact this) GW312.out)) | (show (Addr.add _ _).block ≠ _; rw [add_block]; exact Nat.ne_of_lt (Nat.lt_of_lt_of_le (by have := wlt _ _ hw301_0; first | rwa [add_block] at this | exact this) GW312.out)) | (dsimp only; exact Nat.ne_of_lt (Nat.lt_of_lt_of_le (by have := wlt _ _ hw301_0; first | rwa [add_block] at this | exact this) GW312.out))) _).trans (((cell_far (p := ⟨gb312, _, none⟩) (by first | exact Nat.ne_of_lt (Nat.lt_of_lt_of_le (by have := wlt _ _ hw301_0; first | rwa [add_block] at this | exact this) GW312.out) | (rw [add_block]; exact Nat.ne_of_lt (Nat.lt_of_lt_of_le (by have := wlt _ _ hw301_0; first | rwa [add_block] at this | exact this) GW312.out)) | (show (Addr.add _ _).block ≠ _; rw [add_block]; exact Nat.ne_of_lt (Nat.lt_of_lt_of_le (by have := wlt _ _ hw301_0; first | rwa [add_block] at this | exact this) GW312.out)) | (dsimp only; exact Nat.ne_of_lt (Nat.lt_of_lt_of_le (by have := wlt _ _ hw301_0; first | rwa [add_block] at this | exact this) GW312.out))) _).trans (((cell_far (p := ⟨gb312, _, none⟩) (by first | exact Nat.ne_of_lt (Nat.lt_of_lt_of_le (by have := wlt _ _ hw301_0; first | rwa [add_block] at this | exact this) GW312.out) | (rw [add_block]; exact Nat.ne_of_lt (Nat.lt_of_lt_of_le (by have := wlt _ _ hw301_0; first | rwa [add_block] at this | exact this) GW312.out)) | (show (Addr.add _ _).block ≠ _; rw [add_block]; exact Nat.ne_of_lt (Nat.lt_of_lt_of_le (by have := wlt _ _ hw301_0; first | rwa [add_block] at this | exact this) GW312.out)) | (dsimp only; exact Nat.ne_of_lt (Nat.lt_of_lt_of_le (by have := wlt _ _ hw301_0; first | rwa [add_block] at this | exact this) GW312.out))) _).trans (((cell_far (p := ⟨gb312, _, none⟩) (by first | exact Nat.ne_of_lt (Nat.lt_of_lt_of_le (by have := wlt _ _ hw301_0; first | rwa [add_block] at this | exact this) GW312.out) | (rw [add_block]; exact Nat.ne_of_lt (Nat.lt_of_lt_of_le (by have := wlt _ _ hw301_0; first | rwa [add_block] at this | exact this) GW312.out)) | (show (Addr.add _ _).block ≠ _; rw [add_block]; exact Nat.ne_of_lt (Nat.lt_of_lt_of_le (by have := wlt _ _ hw301_0; first | rwa [add_block] at this | exact this) GW312.out)) | (dsimp only; exact Nat.ne_of_lt (Nat.lt_of_lt_of_le (by have := wlt _ _ hw301_0; first | rwa [add_block] at this | exact this) GW312.out))) _).trans (hHeld.2.2.2.2))))))))⟩ (fun hHeld => ?_)
          clear hK K
          refine pure_ (i := 12) (N := some 12) (v := ?_) (a' := ?_) #[true, true, true, true, true, true, true, true, true, true, true, true, true, false] rfl rfl (any_of HT_.out (by kernel_rfl)) (fun _ _ _ h => h) (Or.inl ⟨by rfl, ?_⟩) ?_ ?_
          rotate_left
          ·intro w'
           go_simp
           with_reducible rfl
          rotate_left
          ·simp only [Act.put, List.setIfInBounds_toArray, List.set_cons_zero, List.set_cons_succ, i64_w, i32_w]
           rfl
          refine pure_ (i := 13) (N := some 13) (v := ?_) (a' := ?_) #[true, true, true, true, true, true, true, true, true, true, true, true, true, true] rfl rfl (any_of HT_.out (by kernel_rfl)) (fun _ _ _ h => h) (Or.inl ⟨by rfl, ?_⟩) ?_ ?_
          rotate_left
          ·intro w'
           go_simp
           with_reducible rfl
          rotate_left
          ·simp only [Act.put, List.setIfInBounds_toArray, List.set_cons_zero, List.set_cons_succ, i64_w, i32_w]
           rfl
          refine done_ (done_of HT_.out (by kernel_rfl)) ?_
          go_upto_region 11 with (fail)
          go_cut [63] (fun v63 wc => ∃ (kq : Nat) (x63_22 : Bool), v63 = .bool x63_22 ∧ Aside0 (sRoom.j2 kq l1 a2 t289 ji6 x10_1 x63_22 xq0_1 xq1_1 xq2_1 xq3_1 = some r) ∧ Aside0 (kq ≤ kj13) ∧ Aside0 (Kd.R (Kd.int .i64) 3 wc w.heap.size (fun k_ => some k_ ≠ ((.slice Ao31 t302.length co31) : Value).ownBlock) (.slice Ao25 xq0_1.length co25) xq0_1) ∧ Aside0 (Kd.N (Kd.slice 72 k72) 31 wc w.heap.size (fun k_ => some k_ ≠ ((.slice Ao25 xq0_1.length co25) : Value).ownBlock ∧ some k_ ≠ ((.slice Ao31 t302.length co31) : Value).ownBlock ∧ some k_ ≠ ((.slice Ao33 t305.length co33) : Value).ownBlock ∧ k_ ≠ gb298 ∧ k_ ≠ gb312) (.slice Ao26 xq1_1.length co26) xq1_1) ∧ Aside0 (Kd.R (Kd.int .i64) 3 wc w.heap.size (fun k_ => some k_ ≠ ((.slice Ao25 xq0_1.length co25) : Value).ownBlock) (.slice Ao31 t302.length co31) t302) ∧ Aside0 (Kd.N (Kd.slice 72 k72) 31 wc w.heap.size (fun k_ => some k_ ≠ ((.slice Ao25 xq0_1.length co25) : Value).ownBlock ∧ some k_ ≠ ((.slice Ao31 t302.length co31) : Value).ownBlock ∧ k_ ≠ gb298 ∧ k_ ≠ gb312) (.slice Ao33 t305.length co33) t305) ∧ Aside0 (wc.heap[gb298]? = some (.cells #[(.slice Ao25 xq0_1.length co25), (.slice Ao26 xq1_1.length co26), .int .i64 xq2_1, .int .i64 xq3_1] 28 (0, 0))) ∧ Aside0 (wc.heap[gb312]? = some (.cells #[(.slice Ao31 t302.length co31), (.slice Ao33 t305.length co33), .int .i64 t308, .int .i64 t309] 28 (0, 0))) ∧ Aside0 (Below w.heap.size w wc))
          case first =>
           have H := HC23.out
           clear HC23
           by_cases c37 : t311 = 10
           ·rw [if_pos c37] at H
            have c37b0 : (t311 == 10) = true := beq_iff_eq.mpr c37
            have c37b1 : (t311 != 10) = false := bne_eq_false_iff_eq.mpr c37
            clear c37
            (first | rw [c37b0] | (simp only [i64_w, i32_w]; rw [c37b0]) | skip)
            have H' := Aside0.mk H
            clear H
            go_wp2
            go_meet
            case rel => exact ⟨_, ((t310 != 0)), (by first | rfl | (simp; done) | (simp [*]; done)), H', ⟨by have := HK1.out; have := HJ13.out; first | omega | exact Nat.le_refl _⟩, ⟨by (with_reducible repeat (first | apply Kd.R_alloc | apply Kd.R_drewN | apply Kd.R_drew)); exact Kd.R_mono (Kd.R_far (p := ⟨gb312, 3, none⟩) (Kd.R_far (p := ⟨gb312, 2, none⟩) (Kd.R_far (p := ⟨gb312, 1, none⟩) (Kd.R_far (p := ⟨gb312, 0, none⟩) (Kd.R_types HO_299000.out BK312.out (by decide)) (fun _ hk => hk.2) (.slice Ao31 t302.length co31)) (fun _ hk => hk.2) (.slice Ao33 t305.length co33)) (fun _ hk => hk.2) (.int .i64 t308)) (fun _ hk => hk.2) (.int .i64 t309)) (fun _ hk => hk.1)⟩, ⟨by (with_reducible repeat (first | apply Kd.N_alloc | apply Kd.N_drewN | apply Kd.N_drew)); exact Kd.N_mono (Kd.N_far (p := ⟨gb312, 3, none⟩) (Kd.N_far (p := ⟨gb312, 2, none⟩) (Kd.N_far (p := ⟨gb312, 1, none⟩) (Kd.N_far (p := ⟨gb312, 0, none⟩) (Kd.N_mono HO_299001.out (fun k_ hk => (⟨hk, hk.2.2.2.2⟩ : _ ∧ k_ ≠ gb312))) (fun _ hk => hk.2) (.slice Ao31 t302.length co31)) (fun _ hk => hk.2) (.slice Ao33 t305.length co33)) (fun _ hk => hk.2) (.int .i64 t308)) (fun _ hk => hk.2) (.int .i64 t309)) (fun _ hk => ⟨hk.1.2.2.1, ⟨hk.1.1, ⟨hk.1.2.1, ⟨hk.1.2.2.2.1, hk.1.2.2.2.2⟩⟩⟩⟩)⟩, ⟨by (with_reducible repeat (first | apply Kd.R_alloc | apply Kd.R_drewN | apply Kd.R_drew)); exact Kd.R_mono (Kd.R_far (p := ⟨gb312, 3, none⟩) (Kd.R_far (p := ⟨gb312, 2, none⟩) (Kd.R_far (p := ⟨gb312, 1, none⟩) (Kd.R_far (p := ⟨gb312, 0, none⟩) (Kd.R_types HO304.out BK312.out (by decide)) (fun _ hk => hk.2) (.slice Ao31 t302.length co31)) (fun _ hk => hk.2) (.slice Ao33 t305.length co33)) (fun _ hk => hk.2) (.int .i64 t308)) (fun _ hk => hk.2) (.int .i64 t309)) (fun _ hk => hk.1)⟩, ⟨by (with_reducible repeat (first | apply Kd.N_alloc | apply Kd.N_drewN | apply Kd.N_drew)); exact Kd.N_mono (Kd.N_far (p := ⟨gb312, 3, none⟩) (Kd.N_far (p := ⟨gb312, 2, none⟩) (Kd.N_far (p := ⟨gb312, 1, none⟩) (Kd.N_far (p := ⟨gb312, 0, none⟩) (Kd.N_mono HO307.out (fun k_ hk => (⟨hk, hk.2.2.2⟩ : _ ∧ k_ ≠ gb312))) (fun _ hk => hk.2) (.slice Ao31 t302.length co31)) (fun _ hk => hk.2) (.slice Ao33 t305.length co33)) (fun _ hk => hk.2) (.int .i64 t308)) (fun _ hk => hk.2) (.int .i64 t309)) (fun _ hk => ⟨hk.1.2.1, ⟨hk.1.1, ⟨hk.1.2.2.1, hk.1.2.2.2⟩⟩⟩)⟩, ⟨by (with_reducible repeat (first | refine blk_drewN ?_ _ | refine blk_drew ?_ | refine blk_alloc ?_ _)); refine blk_far ?_ NB298_312.out _; (with_reducible repeat (first | refine blk_drewN ?_ _ | refine blk_drew ?_ | refine blk_alloc ?_ _)); refine blk_far ?_ NB298_312.out _; (with_reducible repeat (first | refine blk_drewN ?_ _ | refine blk_drew ?_ | refine blk_alloc ?_ _)); refine blk_far ?_ NB298_312.out _; (with_reducible repeat (first | refine blk_drewN ?_ _ | refine blk_drew ?_ | refine blk_alloc ?_ _)); refine blk_far ?_ NB298_312.out _; (with_reducible repeat (first | refine blk_drewN ?_ _ | refine blk_drew ?_ | refine blk_alloc ?_ _)); exact BK298.out⟩, ⟨by (with_reducible repeat (first | refine blk_drewN ?_ _ | refine blk_drew ?_ | refine blk_alloc ?_ _)); refine blk_put (cs := #[.slice Ao31 t302.length co31, .slice Ao33 t305.length co33, .int .i64 t308, .int .i64 0]) ?_ 3 _ rfl; (with_reducible repeat (first | refine blk_drewN ?_ _ | refine blk_drew ?_ | refine blk_alloc ?_ _)); refine blk_put (cs := #[.slice Ao31 t302.length co31, .slice Ao33 t305.length co33, .int .i64 0, .int .i64 0]) ?_ 2 _ rfl; (with_reducible repeat (first | refine blk_drewN ?_ _ | refine blk_drew ?_ | refine blk_alloc ?_ _)); refine blk_put (cs := #[.slice Ao31 t302.length co31, .slice none 0 0, .int .i64 0, .int .i64 0]) ?_ 1 _ rfl; (with_reducible repeat (first | refine blk_drewN ?_ _ | refine blk_drew ?_ | refine blk_alloc ?_ _)); refine blk_put (cs := #[.slice none 0 0, .slice none 0 0, .int .i64 0, .int .i64 0]) ?_ 0 _ rfl; (with_reducible repeat (first | refine blk_drewN ?_ _ | refine blk_drew ?_ | refine blk_alloc ?_ _)); exact BK312.out⟩, ⟨by repeat (first | (with_reducible first | exact HB.out | apply below_alloc | apply pw_below_drewN | apply below_drew1 | refine below_set ?_ GE298.out | refine below_set ?_ GE312.out) | exact HB.out)⟩⟩
           ·rw [if_neg c37] at H
            have c37b0 : (t311 == 10) = false := beq_eq_false_iff_ne.mpr c37
            have c37b1 : (t311 != 10) = true := bne_iff_ne.mpr c37
            (first | rw [c37b0] | (simp only [i64_w, i32_w]; rw [c37b0]) | skip)
            have H' := Aside0.mk H
            clear H
            go_wp2
            go_meet
            case rel => exact ⟨_, (true), (by first | rfl | (simp; done) | (simp [*]; done)), H', ⟨by have := HK1.out; have := HJ13.out; first | omega | exact Nat.le_refl _⟩, ⟨by (with_reducible repeat (first | apply Kd.R_alloc | apply Kd.R_drewN | apply Kd.R_drew)); exact Kd.R_mono (Kd.R_far (p := ⟨gb312, 3, none⟩) (Kd.R_far (p := ⟨gb312, 2, none⟩) (Kd.R_far (p := ⟨gb312, 1, none⟩) (Kd.R_far (p := ⟨gb312, 0, none⟩) (Kd.R_types HO_299000.out BK312.out (by decide)) (fun _ hk => hk.2) (.slice Ao31 t302.length co31)) (fun _ hk => hk.2) (.slice Ao33 t305.length co33)) (fun _ hk => hk.2) (.int .i64 t308)) (fun _ hk => hk.2) (.int .i64 t309)) (fun _ hk => hk.1)⟩, ⟨by (with_reducible repeat (first | apply Kd.N_alloc | apply Kd.N_drewN | apply Kd.N_drew)); exact Kd.N_mono (Kd.N_far (p := ⟨gb312, 3, none⟩) (Kd.N_far (p := ⟨gb312, 2, none⟩) (Kd.N_far (p := ⟨gb312, 1, none⟩) (Kd.N_far (p := ⟨gb312, 0, none⟩) (Kd.N_mono HO_299001.out (fun k_ hk => (⟨hk, hk.2.2.2.2⟩ : _ ∧ k_ ≠ gb312))) (fun _ hk => hk.2) (.slice Ao31 t302.length co31)) (fun _ hk => hk.2) (.slice Ao33 t305.length co33)) (fun _ hk => hk.2) (.int .i64 t308)) (fun _ hk => hk.2) (.int .i64 t309)) (fun _ hk => ⟨hk.1.2.2.1, ⟨hk.1.1, ⟨hk.1.2.1, ⟨hk.1.2.2.2.1, hk.1.2.2.2.2⟩⟩⟩⟩)⟩, ⟨by (with_reducible repeat (first | apply Kd.R_alloc | apply Kd.R_drewN | apply Kd.R_drew)); exact Kd.R_mono (Kd.R_far (p := ⟨gb312, 3, none⟩) (Kd.R_far (p := ⟨gb312, 2, none⟩) (Kd.R_far (p := ⟨gb312, 1, none⟩) (Kd.R_far (p := ⟨gb312, 0, none⟩) (Kd.R_types HO304.out BK312.out (by decide)) (fun _ hk => hk.2) (.slice Ao31 t302.length co31)) (fun _ hk => hk.2) (.slice Ao33 t305.length co33)) (fun _ hk => hk.2) (.int .i64 t308)) (fun _ hk => hk.2) (.int .i64 t309)) (fun _ hk => hk.1)⟩, ⟨by (with_reducible repeat (first | apply Kd.N_alloc | apply Kd.N_drewN | apply Kd.N_drew)); exact Kd.N_mono (Kd.N_far (p := ⟨gb312, 3, none⟩) (Kd.N_far (p := ⟨gb312, 2, none⟩) (Kd.N_far (p := ⟨gb312, 1, none⟩) (Kd.N_far (p := ⟨gb312, 0, none⟩) (Kd.N_mono HO307.out (fun k_ hk => (⟨hk, hk.2.2.2⟩ : _ ∧ k_ ≠ gb312))) (fun _ hk => hk.2) (.slice Ao31 t302.length co31)) (fun _ hk => hk.2) (.slice Ao33 t305.length co33)) (fun _ hk => hk.2) (.int .i64 t308)) (fun _ hk => hk.2) (.int .i64 t309)) (fun _ hk => ⟨hk.1.2.1, ⟨hk.1.1, ⟨hk.1.2.2.1, hk.1.2.2.2⟩⟩⟩)⟩, ⟨by (with_reducible repeat (first | refine blk_drewN ?_ _ | refine blk_drew ?_ | refine blk_alloc ?_ _)); refine blk_far ?_ NB298_312.out _; (with_reducible repeat (first | refine blk_drewN ?_ _ | refine blk_drew ?_ | refine blk_alloc ?_ _)); refine blk_far ?_ NB298_312.out _; (with_reducible repeat (first | refine blk_drewN ?_ _ | refine blk_drew ?_ | refine blk_alloc ?_ _)); refine blk_far ?_ NB298_312.out _; (with_reducible repeat (first | refine blk_drewN ?_ _ | refine blk_drew ?_ | refine blk_alloc ?_ _)); refine blk_far ?_ NB298_312.out _; (with_reducible repeat (first | refine blk_drewN ?_ _ | refine blk_drew ?_ | refine blk_alloc ?_ _)); exact BK298.out⟩, ⟨by (with_reducible repeat (first | refine blk_drewN ?_ _ | refine blk_drew ?_ | refine blk_alloc ?_ _)); refine blk_put (cs := #[.slice Ao31 t302.length co31, .slice Ao33 t305.length co33, .int .i64 t308, .int .i64 0]) ?_ 3 _ rfl; (with_reducible repeat (first | refine blk_drewN ?_ _ | refine blk_drew ?_ | refine blk_alloc ?_ _)); refine blk_put (cs := #[.slice Ao31 t302.length co31, .slice Ao33 t305.length co33, .int .i64 0, .int .i64 0]) ?_ 2 _ rfl; (with_reducible repeat (first | refine blk_drewN ?_ _ | refine blk_drew ?_ | refine blk_alloc ?_ _)); refine blk_put (cs := #[.slice Ao31 t302.length co31, .slice none 0 0, .int .i64 0, .int .i64 0]) ?_ 1 _ rfl; (with_reducible repeat (first | refine blk_drewN ?_ _ | refine blk_drew ?_ | refine blk_alloc ?_ _)); refine blk_put (cs := #[.slice none 0 0, .slice none 0 0, .int .i64 0, .int .i64 0]) ?_ 0 _ rfl; (with_reducible repeat (first | refine blk_drewN ?_ _ | refine blk_drew ?_ | refine blk_alloc ?_ _)); exact BK312.out⟩, ⟨by repeat (first | (with_reducible first | exact HB.out | apply below_alloc | apply pw_below_drewN | apply below_drew1 | refine below_set ?_ GE298.out | refine below_set ?_ GE312.out) | exact HB.out)⟩⟩
          case rest =>
           clear HC23
           try clear c1
           try clear c2
           try clear p2
           try clear q2
           try clear hx2
           try clear c3
           try clear p3
           try clear q3
           try clear hx3
           try clear p6
           try clear c9
           try clear c10
           try clear c11
           try clear c12
           try clear c15
           try clear c15b0
           try clear c16
           try clear c17
           try clear c17b0
           try clear c18
           try clear c18b0
           try clear c20
           try clear c22
           try clear c22b0
           try clear c29
           try clear p29
           try clear q29
           try clear hx29
           try clear c30
           try clear p30
           try clear q30
           try clear hx30
           try clear c37
           try clear c37b0
           try clear c37b1
           try clear hcz12_0
           try clear hcz12_1
           try clear hcz12_2
           try clear hcz12_3
           try clear hfz12_0
           try clear hfz12_1
           try clear hfz12_2
           try clear hfz12_3
           try clear hx299_0
           try clear hx301_0
           try clear p2
           try clear p299
           try clear p301
           try clear q299
           try clear q301
           obtain ⟨kq, x63_22, rfl, HA, HJ22, HO_299000, HO_299001, HO_313000, HO_313001, BK298, BK312, HB⟩ := hcut
           cases kq with
           | zero => exact absurd HA.out (by simp [sRoom.j2])
           | succ kj22 =>
            have H := HA.out
            clear HA
            simp only [sRoom.j2] at H
            by_cases c38 : x63_22 = true
            ·subst c38
             have H1 : (some false) = some r := by rw [if_pos rfl] at H; exact H
             clear H
             have H := H1
             clear H1
             exact absurd (Option.some.inj H) (by rw [hr.out]; decide)
            ·replace c38 := Bool.eq_false_iff.mpr c38
             subst c38
             have H1 : (sRoom.l0 kj22 l1 a2 t289 ji6 (wrap64 (x10_1 + 1)) xq0_1 xq1_1 xq2_1 xq3_1) = some r := by rw [if_neg (show ¬ (false = true) by decide)] at H; exact H
             clear H
             have H := H1
             clear H1
             have H' := Aside0.mk H
             clear H
             go_wp2
             go_roundg kj22
             case measure => have := HK1.out; have := HJ13.out; have := HJ22.out; omega
             case rel => exact ⟨(wrap64 (x10_1 + 1)), (xq0_1), (xq1_1), (xq2_1), (xq3_1), (.slice Ao25 xq0_1.length co25), (.slice Ao26 xq1_1.length co26), (by first | rfl | (simp; done) | (simp [*]; done)), H', ⟨by have := HK1.out; have := HJ13.out; have := HJ22.out; omega⟩, ⟨by (with_reducible repeat (first | apply Kd.R_alloc | apply Kd.R_drewN | apply Kd.R_drew)); exact Kd.R_mono HO_299000.out (fun _ hk => trivial)⟩, ⟨by (with_reducible repeat (first | apply Kd.N_alloc | apply Kd.N_drewN | apply Kd.N_drew)); exact Kd.N_mono HO_299001.out (fun _ hk => ⟨hk.1, hk.2.2.2.1⟩)⟩, ⟨by (with_reducible repeat (first | refine blk_drewN ?_ _ | refine blk_drew ?_ | refine blk_alloc ?_ _)); exact BK298.out⟩, ⟨by repeat (first | (with_reducible first | exact HB.out | apply below_alloc | apply pw_below_drewN | apply below_drew1 | refine below_set ?_ GE298.out | refine below_set ?_ GE312.out) | exact HB.out)⟩⟩
         ·rw [if_neg c22] at H
          have c22b0 : decide (ji6 ≤ x10_1) = false := decide_eq_false c22
          clear c22
          replace H := Option.bind_eq_some_iff.mp H
          obtain ⟨⟨t313, t316⟩, A390, H⟩ := H
          replace H : (if t311 = 0 then (if t310 = (wrap64 (x10_1 + 1)) then (if t316 = 0 then ((cordwoodref10_Same.f kj13 t313 (rd_L7 l1 x10_1)).bind fun t318 => (sRoom.j3 kj13 l1 a2 t289 ji6 x10_1 (!t318) t302 t305 t308 t309)) else (sRoom.j3 kj13 l1 a2 t289 ji6 x10_1 true t302 t305 t308 t309)) else (sRoom.j3 kj13 l1 a2 t289 ji6 x10_1 true t302 t305 t308 t309)) else (sRoom.j3 kj13 l1 a2 t289 ji6 x10_1 true t302 t305 t308 t309)) = some r := H
          have A39 := Aside0.mk A390
          clear A390
          have HC40 := Aside0.mk H
          clear H
          have p299 : 0 ≤ (x10_1 : Int) := of_decide_eq_true (by first | (with_reducible assumption) | assumption)
          have q299 : x10_1 < (l1.length : Int) := of_decide_eq_true (by first | (with_reducible assumption) | assumption)
          obtain ⟨ad299, A299_0, c299_0, e299, hx299_0, hl299_0, hi299_0⟩ := at_L7 HR1.out x10_1 p299 q299
          cases e299
          replace hx299_0 := (HB.out.cell (wlt w _ hx299_0)).trans hx299_0
          have HR299_0 := Aside0.mk hi299_0
          have HC299_0 := Aside0.mk hl299_0
          clear hi299_0 hl299_0
          replace p299 := eq_true p299
          replace q299 := eq_true q299
          try go_wp2_with (first | ((with_reducible refine gate_callee (f := 11) rfl ?_); refine goesL_ (some 42) rfl rfl Try.func11 (by kernel_rfl) rfl #[.slice A299_0 (rd_L7 l1 x10_1).length c299_0] rfl (by (try simp only [List.map_toArray, List.map_cons, List.map_nil]); first | done | rfl | (simp only [List.length_drop, List.length_take]; rfl)) ?_; (with_reducible refine (cordwoodref10_Few.calls kj13 _ _ (rd_L7 l1 x10_1) true _ ?side1 ?side2 A19.out).mono ?_); (case side1 => repeat (first | exact (Kd.C_below HR299_0.out HB.out) | (with_reducible refine Kd.C_alloc ?_ _) | (with_reducible refine Kd.C_drewN ?_ _) | (with_reducible refine Kd.C_drew ?_))); (case side2 => exact HC299_0.out); rintro e w41 ⟨rfl, hb⟩; refine ⟨_, rfl, ?_⟩; have n0_ := Aside0.mk (Kd.R_below (by (with_reducible repeat (first | apply Kd.R_alloc | apply Kd.R_drewN | apply Kd.R_drew)); exact HO_299000.out) hb); have n1_ := Aside0.mk (Kd.N_below (by (with_reducible repeat (first | apply Kd.N_alloc | apply Kd.N_drewN | apply Kd.N_drew)); exact HO_299001.out) hb); have n2_ := Aside0.mk (blk_below (g := gb298) (o := .cells #[u299000, u299001, .int .i64 xq2_1, .int .i64 xq3_1] 28 (0, 0)) (by (with_reducible repeat (first | refine blk_drewN ?_ _ | refine blk_drew ?_ | refine blk_alloc ?_ _)); exact BK298.out) hb); have n3_ := Aside0.mk (below_step (by repeat (first | (with_reducible first | exact HB.out | apply below_alloc | apply pw_below_drewN | apply below_drew1 | refine below_set ?_ GE298.out) | exact HB.out)) hb); clear HO_299000; clear HO_299001; clear BK298; clear HB; have HO_299000 := n0_; have HO_299001 := n1_; have BK298 := n2_; have HB := n3_; clear n0_ n1_ n2_ n3_; (try clear hb); (try clear hb2); (try clear hk); (try clear hi); obtain ⟨Ao42, co42, eo42⟩ := Kd.R_slice HO_299000.out; subst eo42; obtain ⟨Ao43, co43, eo43⟩ := Kd.N_slice HO_299001.out; subst eo43))
          have n0_ := Aside0.mk (Kd.R_drew HO_299000.out)
          have n1_ := Aside0.mk (Kd.N_drew HO_299001.out)
          have n2_ := Aside0.mk (blk_drew BK298.out)
          have n3_ := Aside0.mk (below_drew1 HB.out)
          clear HO_299000
          clear HO_299001
          clear BK298
          clear HB
          have HO_299000 := n0_
          have HO_299001 := n1_
          have BK298 := n2_
          have HB := n3_
          clear n0_ n1_ n2_ n3_
          have p301 : 0 ≤ (x10_1 : Int) := of_decide_eq_true (by first | (with_reducible assumption) | assumption)
          have q301 : x10_1 < (l1.length : Int) := of_decide_eq_true (by first | (with_reducible assumption) | assumption)
          obtain ⟨ad301, A301_0, c301_0, e301, hx301_0, hl301_0, hi301_0⟩ := at_L7 HR1.out x10_1 p301 q301
          have hw301_0 := hx301_0
          obtain rfl : ad299 = ad301 := (by injection e301)
          replace hx301_0 := (HB.out.cell (wlt w _ hx301_0)).trans hx301_0
          have HR301_0 := Aside0.mk hi301_0
          have HC301_0 := Aside0.mk hl301_0
          clear hi301_0 hl301_0
          replace p301 := eq_true p301
          replace q301 := eq_true q301
          refine start_ (n := 14) (S := fun w' => w'.cell? ⟨gb298, 0, none⟩ = some (.slice Ao42 xq0_1.length co42) ∧ w'.cell? ⟨gb298, 1, none⟩ = some (.slice Ao43 xq1_1.length co43) ∧ w'.cell? ⟨gb298, 2, none⟩ = some (.int .i64 xq2_1) ∧ w'.cell? ⟨gb298, 3, none⟩ = some (.int .i64 xq3_1) ∧ w'.cell? (ad299.add (x10_1).toNat) = some (.slice A301_0 (rd_L7 l1 x10_1).length c301_0)) (ds := []) #[false, false, false, false, false, false, false, false, false, false, false, false, false, false] (by kernel_rfl) rfl rfl ⟨(blk_cell BK298.out 0).trans rfl, (blk_cell BK298.out 1).trans rfl, (blk_cell BK298.out 2).trans rfl, (blk_cell BK298.out 3).trans rfl, ((HB.out.cell (wlt w _ hw301_0)).trans hw301_0)⟩ (fun hHeld => ?_); refine with_tabW sRoom.tab9 sRoom.bits9 (fun HT_ HW_ => ?_)
          generalize w41.drew = w44 at HO_299000 HO_299001 BK298 HB HR301_0 hx301_0 hHeld ⊢
          refine pure_ (i := 1) (N := some 47) (v := ?_) (a' := ?_) #[false, true, false, false, false, false, false, false, false, false, false, false, false, false] rfl rfl (any_of HT_.out (by kernel_rfl)) (fun _ _ _ h => h) (Or.inl ⟨by rfl, ?_⟩) ?_ ?_
          rotate_left
          ·intro w'
           go_simp
           with_reducible rfl
          rotate_left
          ·simp only [Act.put, List.setIfInBounds_toArray, List.set_cons_zero, List.set_cons_succ, i64_w, i32_w]
           rfl
          refine pure_ (i := 2) (N := some 48) (v := ?_) (a' := ?_) #[false, true, true, false, false, false, false, false, false, false, false, false, false, false] rfl rfl (any_of HT_.out (by kernel_rfl)) (fun _ _ _ h => h) (Or.inl ⟨by rfl, ?_⟩) ?_ ?_
          rotate_left
          ·intro w'
           go_simp
           with_reducible rfl
          rotate_left
          ·simp only [Act.put, List.setIfInBounds_toArray, List.set_cons_zero, List.set_cons_succ, i64_w, i32_w]
           rfl
          refine pure_ (i := 3) (N := some 49) (v := ?_) (a' := ?_) #[false, true, true, true, false, false, false, false, false, false, false, false, false, false] rfl rfl (any_of HT_.out (by kernel_rfl)) (fun _ _ _ h => h) (Or.inl ⟨by rfl, ?_⟩) ?_ ?_
          rotate_left
          ·intro w'
           go_simp
           with_reducible rfl
          rotate_left
          ·simp only [Act.put, List.setIfInBounds_toArray, List.set_cons_zero, List.set_cons_succ, i64_w, i32_w]
           rfl
          refine take_ (i := 0) (N := some 46) (v := ?_) (a' := ?_) #[true, true, true, true, false, false, false, false, false, false, false, false, false, false] rfl rfl (take_ofW HT_.out HW_.out (by kernel_rfl)) (fun _ _ _ h => h) (Or.inl ⟨by rfl, ?_⟩) hHeld ?_ ?_
          rotate_left
          ·rintro w' ⟨s0, s1, s2, s3, s4⟩
           go_simp
           with_reducible rfl
          rotate_left
          ·simp only [Act.put, List.setIfInBounds_toArray, List.set_cons_zero, List.set_cons_succ, i64_w, i32_w]
           rfl
          refine take_ (i := 4) (N := some 50) (v := ?_) (a' := ?_) #[true, true, true, true, true, false, false, false, false, false, false, false, false, false] rfl rfl (take_ofW HT_.out HW_.out (by kernel_rfl)) (fun _ _ _ h => h) (Or.inl ⟨by rfl, ?_⟩) hHeld ?_ ?_
          rotate_left
          ·rintro w' ⟨s0, s1, s2, s3, s4⟩
           go_simp
           with_reducible rfl
          rotate_left
          ·simp only [Act.put, List.setIfInBounds_toArray, List.set_cons_zero, List.set_cons_succ, i64_w, i32_w]
           rfl
          refine join_ (σ := Value × Value × Nat) 3 #[true, true, true, true, true, true, true, true, true, true, true, false, false, false] (fun s_ => [(51, .tuple #[.agg #[s_.1, s_.2.1, .int .i64 t308, .int .i64 t309], .int .i64 t310, .int .i64 t311]), (11, .pointer (some ⟨s_.2.2, 0, none⟩)), (45, .tuple #[.agg #[s_.1, s_.2.1, .int .i64 t308, .int .i64 t309], .int .i64 t310, .int .i64 t311]), (52, .agg #[s_.1, s_.2.1, .int .i64 t308, .int .i64 t309]), (53, .int .i64 t310), (54, .int .i64 t311)]) (fun s_ w' => (w'.cell? ⟨gb298, 0, none⟩ = some (.slice Ao42 xq0_1.length co42) ∧ w'.cell? ⟨gb298, 1, none⟩ = some (.slice Ao43 xq1_1.length co43) ∧ w'.cell? ⟨gb298, 2, none⟩ = some (.int .i64 xq2_1) ∧ w'.cell? ⟨gb298, 3, none⟩ = some (.int .i64 xq3_1) ∧ w'.cell? (ad299.add (x10_1).toNat) = some (.slice A301_0 (rd_L7 l1 x10_1).length c301_0)) ∧ (Kd.R (Kd.int .i64) 3 w' w.heap.size (fun k_ => some k_ ≠ (.slice Ao42 xq0_1.length co42 : Value).ownBlock) s_.1 t302) ∧ (Kd.N (Kd.slice 72 k72) 31 w' w.heap.size (fun k_ => some k_ ≠ (s_.1 : Value).ownBlock ∧ some k_ ≠ (.slice Ao42 xq0_1.length co42 : Value).ownBlock ∧ k_ ≠ gb298 ∧ k_ ≠ s_.2.2) s_.2.1 t305) ∧ (Kd.R (Kd.int .i64) 3 w' w.heap.size (fun k_ => some k_ ≠ (s_.1 : Value).ownBlock) (.slice Ao42 xq0_1.length co42) xq0_1) ∧ (Kd.N (Kd.slice 72 k72) 31 w' w.heap.size (fun k_ => some k_ ≠ (s_.1 : Value).ownBlock ∧ some k_ ≠ (s_.2.1 : Value).ownBlock ∧ some k_ ≠ (.slice Ao42 xq0_1.length co42 : Value).ownBlock ∧ k_ ≠ gb298 ∧ k_ ≠ s_.2.2) (.slice Ao43 xq1_1.length co43) xq1_1) ∧ (w'.heap[gb298]? = some (.cells #[.slice Ao42 xq0_1.length co42, .slice Ao43 xq1_1.length co43, .int .i64 xq2_1, .int .i64 xq3_1] 28 (0, 0))) ∧ (w'.heap[s_.2.2]? = some (.cells #[.slice none 0 0, .slice none 0 0, .int .i64 0, .int .i64 0] 28 (0, 0))) ∧ (w.heap.size ≤ s_.2.2) ∧ (w.heap.size ≤ s_.2.2) ∧ (gb298 ≠ s_.2.2) ∧ (s_.2.2 ≠ gb298) ∧ (Below w.heap.size w w')) ?_ ?_
          rotate_left
          ·intro hCont
           refine two_ (i := 5) (j := 10) (Ni := some 51) (Nj := some 11) #[true, true, true, true, true, true, false, false, false, false, false, false, false, false] #[true, true, true, true, true, false, false, false, false, false, true, false, false, false] rfl rfl rfl rfl (two_of HT_.out (by kernel_rfl)) (by decide) (by decide) (fun K hK => ?_) (fun K hK => ?_)
           ·skip
            refine goes_ Try.func12 (by kernel_rfl) rfl #[.agg #[.slice Ao42 xq0_1.length co42, .slice Ao43 xq1_1.length co43, .int .i64 xq2_1, .int .i64 xq3_1], .slice A301_0 (rd_L7 l1 x10_1).length c301_0] (by rfl) rfl rfl (by (try simp only [List.map_toArray, List.map_cons, List.map_nil]); first | done | rfl | (simp only [List.length_drop, List.length_take]; rfl)) ?_
            with_reducible refine (snaps_Keep.calls _ _ xq0_1 (fun k_ => (some k_ ≠ (.slice Ao42 xq0_1.length co42 : Value).ownBlock ∧ k_ ≠ gb298)) _ _ xq1_1 xq2_1 xq3_1 (fun k_ => k_ < w.heap.size) _ _ (rd_L7 l1 x10_1) t302 t305 t308 t309 t310 t311 _ ?side1 ?side2 ?side3 ?side4 A21.out).mono ?_
            (case side1 => repeat (first | exact (Kd.R_reads' HO_299000.out).2.2 | (with_reducible refine Kd.C_alloc ?_ _) | (with_reducible refine Kd.C_drewN ?_ _) | (with_reducible refine Kd.C_drew ?_)))
            (case side2 => exact (Kd.R_reads' HO_299000.out).2.1)
            (case side3 => exact Kd.N_V (HO_299001.out))
            (case side4 => exact Kd.V_mk HC301_0.out (Kd.F_below (Kd.C_F k72_heap HR301_0.out) (by repeat (first | (with_reducible first | exact HB.out | apply below_alloc | apply pw_below_drewN | apply below_drew1 | refine below_set ?_ GE298.out) | exact HB.out))))
            rintro e w45 ⟨v303, v306, rfl, ho0, ho1, hb⟩
            refine ⟨_, rfl, ?_⟩
            have n0_ := Aside0.mk (Kd.R_elder' (by (with_reducible repeat (first | apply Kd.R_alloc | apply Kd.R_drewN | apply Kd.R_drew)); exact HO_299000.out) (Kd.R_base ho0) hb)
            have n1_ := Aside0.mk (Kd.N_mono (Kd.N_told (Kd.N_told (Kd.N_old (by (with_reducible repeat (first | apply Kd.N_alloc | apply Kd.N_drewN | apply Kd.N_drew)); exact HO_299001.out) hb) (Kd.R_base ho0)) (Kd.N_base ho1)) (fun _ h_ => h_.1))
            have n2_ := Aside0.mk (Kd.R_lower (Kd.R_new' (Kd.R_mono (ok' := fun k_ => True) ho0 (fun _ hk_ => trivial)) (Kd.R_lt (by (with_reducible repeat (first | apply Kd.R_alloc | apply Kd.R_drewN | apply Kd.R_drew)); exact HO_299000.out))) (below_size (by repeat (first | (with_reducible first | exact HB.out | apply below_alloc | apply pw_below_drewN | apply below_drew1 | refine below_set ?_ GE298.out) | exact HB.out))))
            have n3_ := Aside0.mk (Kd.N_lower (Kd.N_mono (ok' := fun k_ => some k_ ≠ (v303 : Value).ownBlock ∧ some k_ ≠ (.slice Ao42 xq0_1.length co42 : Value).ownBlock ∧ k_ ≠ gb298) ho1 (fun k_ hk_ => ⟨hk_.2, Or.elim hk_.1 (fun hs_ => Or.elim hs_ (fun hs_ => hs_.1) (fun hs_ => fun e_ => Nat.not_le.2 hs_ (Kd.R_base HO_299000.out k_ e_.symm))) (fun hn_ => (Kd.fresh' (Kd.R_lt (by (with_reducible repeat (first | apply Kd.R_alloc | apply Kd.R_drewN | apply Kd.R_drew)); exact HO_299000.out)) k_ hn_)), Or.elim hk_.1 (fun hs_ => Or.elim hs_ (fun hs_ => hs_.2) (fun hs_ => fun e_ => Nat.not_le.2 hs_ (by rw [e_]; exact GW298.out))) (fun hn_ => (Kd.freshB (g := gb298) (o := .cells #[.slice Ao42 xq0_1.length co42, .slice Ao43 xq1_1.length co43, .int .i64 xq2_1, .int .i64 xq3_1] 28 (0, 0)) (by (with_reducible repeat (first | refine blk_drewN ?_ _ | refine blk_drew ?_ | refine blk_alloc ?_ _)); exact BK298.out) k_ hn_))⟩)) (below_size (by repeat (first | (with_reducible first | exact HB.out | apply below_alloc | apply pw_below_drewN | apply below_drew1 | refine below_set ?_ GE298.out) | exact HB.out))))
            have n4_ := Aside0.mk (blk_below (g := gb298) (o := .cells #[.slice Ao42 xq0_1.length co42, .slice Ao43 xq1_1.length co43, .int .i64 xq2_1, .int .i64 xq3_1] 28 (0, 0)) (by (with_reducible repeat (first | refine blk_drewN ?_ _ | refine blk_drew ?_ | refine blk_alloc ?_ _)); exact BK298.out) hb)
            have n5_ := Aside0.mk (below_step (by repeat (first | (with_reducible first | exact HB.out | apply below_alloc | apply pw_below_drewN | apply below_drew1 | refine below_set ?_ GE298.out) | exact HB.out)) hb)
            clear HO_299000
            clear HO_299001
            clear BK298
            clear HB
            have HO_299000 := n0_
            have HO_299001 := n1_
            have HO304 := n2_
            have HO307 := n3_
            have BK298 := n4_
            have HB := n5_
            clear n0_ n1_ n2_ n3_ n4_ n5_
            (try clear hb)
            (try clear hb2)
            (try clear hk)
            (try clear hi)
            (try clear ho0)
            (try clear ho1)
            refine hK.out _ _ ⟨(blk_cell BK298.out 0).trans rfl, (blk_cell BK298.out 1).trans rfl, (blk_cell BK298.out 2).trans rfl, (blk_cell BK298.out 3).trans rfl, ((HB.out.cell (wlt w _ hw301_0)).trans hw301_0)⟩ (fun hHeld => ?_)
            clear hK K
            refine norm_ (a' := ?_) ?_ ?_
            rotate_left
            ·show Act.put _ (some 51) _ = _
             simp only [Act.put, List.setIfInBounds_toArray, List.set_cons_zero, List.set_cons_succ, i64_w, i32_w]
             rfl
            refine pure_ (i := 6) (N := some 45) (v := ?_) (a' := ?_) #[true, true, true, true, true, true, true, false, false, false, false, false, false, false] rfl rfl (any_of HT_.out (by kernel_rfl)) (fun _ _ _ h => h) (Or.inl ⟨by rfl, ?_⟩) ?_ ?_
            rotate_left
            ·intro w'
             go_simp
             with_reducible rfl
            rotate_left
            ·simp only [Act.put, List.setIfInBounds_toArray, List.set_cons_zero, List.set_cons_succ, i64_w, i32_w]
             rfl
            refine pure_ (i := 7) (N := some 52) (v := ?_) (a' := ?_) #[true, true, true, true, true, true, true, true, false, false, false, false, false, false] rfl rfl (any_of HT_.out (by kernel_rfl)) (fun _ _ _ h => h) (Or.inl ⟨by rfl, ?_⟩) ?_ ?_
            rotate_left
            ·intro w'
             go_simp
             with_reducible rfl
            rotate_left
            ·simp only [Act.put, List.setIfInBounds_toArray, List.set_cons_zero, List.set_cons_succ, i64_w, i32_w]
             rfl
            refine pure_ (i := 8) (N := some 53) (v := ?_) (a' := ?_) #[true, true, true, true, true, true, true, true, true, false, false, false, false, false] rfl rfl (any_of HT_.out (by kernel_rfl)) (fun _ _ _ h => h) (Or.inl ⟨by rfl, ?_⟩) ?_ ?_
            rotate_left
            ·intro w'
             go_simp
             with_reducible rfl
            rotate_left
            ·simp only [Act.put, List.setIfInBounds_toArray, List.set_cons_zero, List.set_cons_succ, i64_w, i32_w]
             rfl
            refine pure_ (i := 9) (N := some 54) (v := ?_) (a' := ?_) #[true, true, true, true, true, true, true, true, true, true, false, false, false, false] rfl rfl (any_of HT_.out (by kernel_rfl)) (fun _ _ _ h => h) (Or.inl ⟨by rfl, ?_⟩) ?_ ?_
            rotate_left
            ·intro w'
             go_simp
             with_reducible rfl
            rotate_left
            ·simp only [Act.put, List.setIfInBounds_toArray, List.set_cons_zero, List.set_cons_succ, i64_w, i32_w]
             rfl
            refine one_ (i := 10) (N := some 11) #[true, true, true, true, true, true, true, true, true, true, true, false, false, false] rfl rfl (one_of HT_.out (by kernel_rfl)) (by decide) (fun K hK => ?_)
            refine box_step ?hg (N := 11) ?hd (cs := #[.slice none 0 0, .slice none 0 0, .int .i64 0, .int .i64 0]) (t := 28) ?hr ?_; (case hd => rfl); (case hg => rfl); (case hr => first | (go_simp; done) | (go_simp; rfl))
            intro gb312 hg w46 hbox hb
            have n0_ := Aside0.mk (Kd.R_below (by (with_reducible repeat (first | apply Kd.R_alloc | apply Kd.R_drewN | apply Kd.R_drew)); exact HO_299000.out) hb)
            have n1_ := Aside0.mk (Kd.N_below (Kd.N_elderB (by (with_reducible repeat (first | apply Kd.N_alloc | apply Kd.N_drewN | apply Kd.N_drew)); exact HO_299001.out) gb312 (Nat.le_of_eq hg.symm)) hb)
            have n2_ := Aside0.mk (Kd.R_below (by (with_reducible repeat (first | apply Kd.R_alloc | apply Kd.R_drewN | apply Kd.R_drew)); exact HO304.out) hb)
            have n3_ := Aside0.mk (Kd.N_below (Kd.N_elderB (by (with_reducible repeat (first | apply Kd.N_alloc | apply Kd.N_drewN | apply Kd.N_drew)); exact HO307.out) gb312 (Nat.le_of_eq hg.symm)) hb)
            have n4_ := Aside0.mk (blk_below (g := gb298) (o := .cells #[.slice Ao42 xq0_1.length co42, .slice Ao43 xq1_1.length co43, .int .i64 xq2_1, .int .i64 xq3_1] 28 (0, 0)) (by (with_reducible repeat (first | refine blk_drewN ?_ _ | refine blk_drew ?_ | refine blk_alloc ?_ _)); exact BK298.out) hb)
            have n5_ := Aside0.mk (below_step (by repeat (first | (with_reducible first | exact HB.out | apply below_alloc | apply pw_below_drewN | apply below_drew1 | refine below_set ?_ GE298.out) | exact HB.out)) hb)
            have n6_ := Aside0.mk (hbox)
            have n7_ := Aside0.mk ((by rw [hg]; exact (below_size (by repeat (first | (with_reducible first | exact HB.out | apply below_alloc | apply pw_below_drewN | apply below_drew1 | refine below_set ?_ GE298.out) | exact HB.out))) : w.heap.size ≤ gb312))
            have n8_ := Aside0.mk ((by rw [hg]; exact (below_size (by repeat (first | (with_reducible first | exact HB.out | apply below_alloc | apply pw_below_drewN | apply below_drew1 | refine below_set ?_ GE298.out) | exact HB.out))) : w.heap.size ≤ gb312))
            have n9_ := Aside0.mk ((by rw [hg]; exact Nat.ne_of_lt (blk_lt (g := gb298) (o := .cells #[.slice Ao42 xq0_1.length co42, .slice Ao43 xq1_1.length co43, .int .i64 xq2_1, .int .i64 xq3_1] 28 (0, 0)) (by (with_reducible repeat (first | refine blk_drewN ?_ _ | refine blk_drew ?_ | refine blk_alloc ?_ _)); exact BK298.out)) : gb298 ≠ gb312))
            have n10_ := Aside0.mk ((by rw [hg]; exact Nat.ne_of_gt (blk_lt (g := gb298) (o := .cells #[.slice Ao42 xq0_1.length co42, .slice Ao43 xq1_1.length co43, .int .i64 xq2_1, .int .i64 xq3_1] 28 (0, 0)) (by (with_reducible repeat (first | refine blk_drewN ?_ _ | refine blk_drew ?_ | refine blk_alloc ?_ _)); exact BK298.out)) : gb312 ≠ gb298))
            clear HO_299000
            clear HO_299001
            clear HO304
            clear HO307
            clear BK298
            clear HB
            have HO_299000 := n0_
            have HO_299001 := n1_
            have HO304 := n2_
            have HO307 := n3_
            have BK298 := n4_
            have HB := n5_
            have BK312 := n6_
            have GW312 := n7_
            have GE312 := n8_
            have NB298_312 := n9_
            have NB312_298 := n10_
            clear n0_ n1_ n2_ n3_ n4_ n5_ n6_ n7_ n8_ n9_ n10_
            clear hb hbox hg
            refine hK.out _ _ ⟨(blk_cell BK298.out 0).trans rfl, (blk_cell BK298.out 1).trans rfl, (blk_cell BK298.out 2).trans rfl, (blk_cell BK298.out 3).trans rfl, ((HB.out.cell (wlt w _ hw301_0)).trans hw301_0)⟩ (fun hHeld => ?_)
            clear hK K
            refine norm_ (a' := ?_) ?_ ?_
            rotate_left
            ·show Act.put _ (some 11) _ = _
             simp only [Act.put, List.setIfInBounds_toArray, List.set_cons_zero, List.set_cons_succ, i64_w, i32_w]
             rfl
            exact norm_ (by simp only [putAll, Act.put, List.setIfInBounds_toArray, List.set_cons_zero, List.set_cons_succ]) (hCont (v303, v306, gb312) _ ⟨hHeld, (by (with_reducible repeat (first | apply Kd.R_alloc | apply Kd.R_drewN | apply Kd.R_drew)); exact Kd.R_mono HO304.out (fun _ hk => hk.2)), (by (with_reducible repeat (first | apply Kd.N_alloc | apply Kd.N_drewN | apply Kd.N_drew)); exact Kd.N_mono HO307.out (fun _ hk => ⟨hk.1.1, ⟨hk.1.2.1, ⟨hk.1.2.2, hk.2⟩⟩⟩)), (by (with_reducible repeat (first | apply Kd.R_alloc | apply Kd.R_drewN | apply Kd.R_drew)); exact Kd.R_mono HO_299000.out (fun _ hk => hk.2)), (by (with_reducible repeat (first | apply Kd.N_alloc | apply Kd.N_drewN | apply Kd.N_drew)); exact Kd.N_mono HO_299001.out (fun _ hk => ⟨hk.1.1.2, ⟨hk.1.2, ⟨hk.1.1.1.1, ⟨hk.1.1.1.2, hk.2⟩⟩⟩⟩)), (by (with_reducible repeat (first | refine blk_drewN ?_ _ | refine blk_drew ?_ | refine blk_alloc ?_ _)); exact BK298.out), (by (with_reducible repeat (first | refine blk_drewN ?_ _ | refine blk_drew ?_ | refine blk_alloc ?_ _)); exact BK312.out), GW312.out, GE312.out, NB298_312.out, NB312_298.out, (by repeat (first | (with_reducible first | exact HB.out | apply below_alloc | apply pw_below_drewN | apply below_drew1 | refine below_set ?_ GE298.out | refine below_set ?_ GE312.out) | exact HB.out))⟩)
           ·skip
            refine box_step ?hg (N := 11) ?hd (cs := #[.slice none 0 0, .slice none 0 0, .int .i64 0, .int .i64 0]) (t := 28) ?hr ?_; (case hd => rfl); (case hg => rfl); (case hr => first | (go_simp; done) | (go_simp; rfl))
            intro gb312 hg w45 hbox hb
            have n0_ := Aside0.mk (Kd.R_below (by (with_reducible repeat (first | apply Kd.R_alloc | apply Kd.R_drewN | apply Kd.R_drew)); exact HO_299000.out) hb)
            have n1_ := Aside0.mk (Kd.N_below (Kd.N_elderB (by (with_reducible repeat (first | apply Kd.N_alloc | apply Kd.N_drewN | apply Kd.N_drew)); exact HO_299001.out) gb312 (Nat.le_of_eq hg.symm)) hb)
            have n2_ := Aside0.mk (blk_below (g := gb298) (o := .cells #[.slice Ao42 xq0_1.length co42, .slice Ao43 xq1_1.length co43, .int .i64 xq2_1, .int .i64 xq3_1] 28 (0, 0)) (by (with_reducible repeat (first | refine blk_drewN ?_ _ | refine blk_drew ?_ | refine blk_alloc ?_ _)); exact BK298.out) hb)
            have n3_ := Aside0.mk (below_step (by repeat (first | (with_reducible first | exact HB.out | apply below_alloc | apply pw_below_drewN | apply below_drew1 | refine below_set ?_ GE298.out) | exact HB.out)) hb)
            have n4_ := Aside0.mk (hbox)
            have n5_ := Aside0.mk ((by rw [hg]; exact (below_size (by repeat (first | (with_reducible first | exact HB.out | apply below_alloc | apply pw_below_drewN | apply below_drew1 | refine below_set ?_ GE298.out) | exact HB.out))) : w.heap.size ≤ gb312))
            have n6_ := Aside0.mk ((by rw [hg]; exact (below_size (by repeat (first | (with_reducible first | exact HB.out | apply below_alloc | apply pw_below_drewN | apply below_drew1 | refine below_set ?_ GE298.out) | exact HB.out))) : w.heap.size ≤ gb312))
            have n7_ := Aside0.mk ((by rw [hg]; exact Nat.ne_of_lt (blk_lt (g := gb298) (o := .cells #[.slice Ao42 xq0_1.length co42, .slice Ao43 xq1_1.length co43, .int .i64 xq2_1, .int .i64 xq3_1] 28 (0, 0)) (by (with_reducible repeat (first | refine blk_drewN ?_ _ | refine blk_drew ?_ | refine blk_alloc ?_ _)); exact BK298.out)) : gb298 ≠ gb312))
            have n8_ := Aside0.mk ((by rw [hg]; exact Nat.ne_of_gt (blk_lt (g := gb298) (o := .cells #[.slice Ao42 xq0_1.length co42, .slice Ao43 xq1_1.length co43, .int .i64 xq2_1, .int .i64 xq3_1] 28 (0, 0)) (by (with_reducible repeat (first | refine blk_drewN ?_ _ | refine blk_drew ?_ | refine blk_alloc ?_ _)); exact BK298.out)) : gb312 ≠ gb298))
            clear HO_299000
            clear HO_299001
            clear BK298
            clear HB
            have HO_299000 := n0_
            have HO_299001 := n1_
            have BK298 := n2_
            have HB := n3_
            have BK312 := n4_
            have GW312 := n5_
            have GE312 := n6_
            have NB298_312 := n7_
            have NB312_298 := n8_
            clear n0_ n1_ n2_ n3_ n4_ n5_ n6_ n7_ n8_
            clear hb hbox hg
            refine hK.out _ _ ⟨(blk_cell BK298.out 0).trans rfl, (blk_cell BK298.out 1).trans rfl, (blk_cell BK298.out 2).trans rfl, (blk_cell BK298.out 3).trans rfl, ((HB.out.cell (wlt w _ hw301_0)).trans hw301_0)⟩ (fun hHeld => ?_)
            clear hK K
            refine norm_ (a' := ?_) ?_ ?_
            rotate_left
            ·show Act.put _ (some 11) _ = _
             simp only [Act.put, List.setIfInBounds_toArray, List.set_cons_zero, List.set_cons_succ, i64_w, i32_w]
             rfl
            refine one_ (i := 5) (N := some 51) #[true, true, true, true, true, true, false, false, false, false, true, false, false, false] rfl rfl (one_of HT_.out (by kernel_rfl)) (by decide) (fun K hK => ?_)
            refine goes_ Try.func12 (by kernel_rfl) rfl #[.agg #[.slice Ao42 xq0_1.length co42, .slice Ao43 xq1_1.length co43, .int .i64 xq2_1, .int .i64 xq3_1], .slice A301_0 (rd_L7 l1 x10_1).length c301_0] (by rfl) rfl rfl (by (try simp only [List.map_toArray, List.map_cons, List.map_nil]); first | done | rfl | (simp only [List.length_drop, List.length_take]; rfl)) ?_
            with_reducible refine (snaps_Keep.calls _ _ xq0_1 (fun k_ => ((some k_ ≠ (.slice Ao42 xq0_1.length co42 : Value).ownBlock ∧ k_ ≠ gb298) ∧ k_ ≠ gb312)) _ _ xq1_1 xq2_1 xq3_1 (fun k_ => k_ < w.heap.size) _ _ (rd_L7 l1 x10_1) t302 t305 t308 t309 t310 t311 _ ?side1 ?side2 ?side3 ?side4 A21.out).mono ?_
            (case side1 => repeat (first | exact (Kd.R_reads' HO_299000.out).2.2 | (with_reducible refine Kd.C_alloc ?_ _) | (with_reducible refine Kd.C_drewN ?_ _) | (with_reducible refine Kd.C_drew ?_)))
            (case side2 => exact (Kd.R_reads' HO_299000.out).2.1)
            (case side3 => exact Kd.N_V (HO_299001.out))
            (case side4 => exact Kd.V_mk HC301_0.out (Kd.F_below (Kd.C_F k72_heap HR301_0.out) (by repeat (first | (with_reducible first | exact HB.out | apply below_alloc | apply pw_below_drewN | apply below_drew1 | refine below_set ?_ GE298.out | refine below_set ?_ GE312.out) | exact HB.out))))
            rintro e w46 ⟨v303, v306, rfl, ho0, ho1, hb⟩
            refine ⟨_, rfl, ?_⟩
            have n0_ := Aside0.mk (Kd.R_elder' (by (with_reducible repeat (first | apply Kd.R_alloc | apply Kd.R_drewN | apply Kd.R_drew)); exact HO_299000.out) (Kd.R_base ho0) hb)
            have n1_ := Aside0.mk (Kd.N_mono (Kd.N_told (Kd.N_told (Kd.N_old (by (with_reducible repeat (first | apply Kd.N_alloc | apply Kd.N_drewN | apply Kd.N_drew)); exact HO_299001.out) hb) (Kd.R_base ho0)) (Kd.N_base ho1)) (fun _ h_ => h_.1))
            have n2_ := Aside0.mk (Kd.R_lower (Kd.R_new' (Kd.R_mono (ok' := fun k_ => True) ho0 (fun _ hk_ => trivial)) (Kd.R_lt (by (with_reducible repeat (first | apply Kd.R_alloc | apply Kd.R_drewN | apply Kd.R_drew)); exact HO_299000.out))) (below_size (by repeat (first | (with_reducible first | exact HB.out | apply below_alloc | apply pw_below_drewN | apply below_drew1 | refine below_set ?_ GE298.out | refine below_set ?_ GE312.out) | exact HB.out))))
            have n3_ := Aside0.mk (Kd.N_lower (Kd.N_mono (ok' := fun k_ => some k_ ≠ (v303 : Value).ownBlock ∧ some k_ ≠ (.slice Ao42 xq0_1.length co42 : Value).ownBlock ∧ k_ ≠ gb298 ∧ k_ ≠ gb312) ho1 (fun k_ hk_ => ⟨hk_.2, Or.elim hk_.1 (fun hs_ => Or.elim hs_ (fun hs_ => hs_.1.1) (fun hs_ => fun e_ => Nat.not_le.2 hs_ (Kd.R_base HO_299000.out k_ e_.symm))) (fun hn_ => (Kd.fresh' (Kd.R_lt (by (with_reducible repeat (first | apply Kd.R_alloc | apply Kd.R_drewN | apply Kd.R_drew)); exact HO_299000.out)) k_ hn_)), Or.elim hk_.1 (fun hs_ => Or.elim hs_ (fun hs_ => hs_.1.2) (fun hs_ => fun e_ => Nat.not_le.2 hs_ (by rw [e_]; exact GW298.out))) (fun hn_ => (Kd.freshB (g := gb298) (o := .cells #[.slice Ao42 xq0_1.length co42, .slice Ao43 xq1_1.length co43, .int .i64 xq2_1, .int .i64 xq3_1] 28 (0, 0)) (by (with_reducible repeat (first | refine blk_drewN ?_ _ | refine blk_drew ?_ | refine blk_alloc ?_ _)); exact BK298.out) k_ hn_)), Or.elim hk_.1 (fun hs_ => Or.elim hs_ (fun hs_ => hs_.2) (fun hs_ => fun e_ => Nat.not_le.2 hs_ (by rw [e_]; exact GW312.out))) (fun hn_ => (Kd.freshB (g := gb312) (o := .cells #[.slice none 0 0, .slice none 0 0, .int .i64 0, .int .i64 0] 28 (0, 0)) (by (with_reducible repeat (first | refine blk_drewN ?_ _ | refine blk_drew ?_ | refine blk_alloc ?_ _)); exact BK312.out) k_ hn_))⟩)) (below_size (by repeat (first | (with_reducible first | exact HB.out | apply below_alloc | apply pw_below_drewN | apply below_drew1 | refine below_set ?_ GE298.out | refine below_set ?_ GE312.out) | exact HB.out))))
            have n4_ := Aside0.mk (blk_below (g := gb298) (o := .cells #[.slice Ao42 xq0_1.length co42, .slice Ao43 xq1_1.length co43, .int .i64 xq2_1, .int .i64 xq3_1] 28 (0, 0)) (by (with_reducible repeat (first | refine blk_drewN ?_ _ | refine blk_drew ?_ | refine blk_alloc ?_ _)); exact BK298.out) hb)
            have n5_ := Aside0.mk (blk_below (g := gb312) (o := .cells #[.slice none 0 0, .slice none 0 0, .int .i64 0, .int .i64 0] 28 (0, 0)) (by (with_reducible repeat (first | refine blk_drewN ?_ _ | refine blk_drew ?_ | refine blk_alloc ?_ _)); exact BK312.out) hb)
            have n6_ := Aside0.mk (below_step (by repeat (first | (with_reducible first | exact HB.out | apply below_alloc | apply pw_below_drewN | apply below_drew1 | refine below_set ?_ GE298.out | refine below_set ?_ GE312.out) | exact HB.out)) hb)
            clear HO_299000
            clear HO_299001
            clear BK298
            clear BK312
            clear HB
            have HO_299000 := n0_
            have HO_299001 := n1_
            have HO304 := n2_
            have HO307 := n3_
            have BK298 := n4_
            have BK312 := n5_
            have HB := n6_
            clear n0_ n1_ n2_ n3_ n4_ n5_ n6_
            (try clear hb)
            (try clear hb2)
            (try clear hk)
            (try clear hi)
            (try clear ho0)
            (try clear ho1)
            refine hK.out _ _ ⟨(blk_cell BK298.out 0).trans rfl, (blk_cell BK298.out 1).trans rfl, (blk_cell BK298.out 2).trans rfl, (blk_cell BK298.out 3).trans rfl, ((HB.out.cell (wlt w _ hw301_0)).trans hw301_0)⟩ (fun hHeld => ?_)
            clear hK K
            refine norm_ (a' := ?_) ?_ ?_
            rotate_left
            ·show Act.put _ (some 51) _ = _
             simp only [Act.put, List.setIfInBounds_toArray, List.set_cons_zero, List.set_cons_succ, i64_w, i32_w]
             rfl
            refine pure_ (i := 6) (N := some 45) (v := ?_) (a' := ?_) #[true, true, true, true, true, true, true, false, false, false, true, false, false, false] rfl rfl (any_of HT_.out (by kernel_rfl)) (fun _ _ _ h => h) (Or.inl ⟨by rfl, ?_⟩) ?_ ?_
            rotate_left
            ·intro w'
             go_simp
             with_reducible rfl
            rotate_left
            ·simp only [Act.put, List.setIfInBounds_toArray, List.set_cons_zero, List.set_cons_succ, i64_w, i32_w]
             rfl
            refine pure_ (i := 7) (N := some 52) (v := ?_) (a' := ?_) #[true, true, true, true, true, true, true, true, false, false, true, false, false, false] rfl rfl (any_of HT_.out (by kernel_rfl)) (fun _ _ _ h => h) (Or.inl ⟨by rfl, ?_⟩) ?_ ?_
            rotate_left
            ·intro w'
             go_simp
             with_reducible rfl
            rotate_left
            ·simp only [Act.put, List.setIfInBounds_toArray, List.set_cons_zero, List.set_cons_succ, i64_w, i32_w]
             rfl
            refine pure_ (i := 8) (N := some 53) (v := ?_) (a' := ?_) #[true, true, true, true, true, true, true, true, true, false, true, false, false, false] rfl rfl (any_of HT_.out (by kernel_rfl)) (fun _ _ _ h => h) (Or.inl ⟨by rfl, ?_⟩) ?_ ?_
            rotate_left
            ·intro w'
             go_simp
             with_reducible rfl
            rotate_left
            ·simp only [Act.put, List.setIfInBounds_toArray, List.set_cons_zero, List.set_cons_succ, i64_w, i32_w]
             rfl
            refine pure_ (i := 9) (N := some 54) (v := ?_) (a' := ?_) #[true, true, true, true, true, true, true, true, true, true, true, false, false, false] rfl rfl (any_of HT_.out (by kernel_rfl)) (fun _ _ _ h => h) (Or.inl ⟨by rfl, ?_⟩) ?_ ?_
            rotate_left
            ·intro w'
             go_simp
             with_reducible rfl
            rotate_left
            ·simp only [Act.put, List.setIfInBounds_toArray, List.set_cons_zero, List.set_cons_succ, i64_w, i32_w]
             rfl
            exact norm_ (by simp only [putAll, Act.put, List.setIfInBounds_toArray, List.set_cons_zero, List.set_cons_succ]) (hCont (v303, v306, gb312) _ ⟨hHeld, (by (with_reducible repeat (first | apply Kd.R_alloc | apply Kd.R_drewN | apply Kd.R_drew)); exact Kd.R_mono HO304.out (fun _ hk => hk.2)), (by (with_reducible repeat (first | apply Kd.N_alloc | apply Kd.N_drewN | apply Kd.N_drew)); exact HO307.out), (by (with_reducible repeat (first | apply Kd.R_alloc | apply Kd.R_drewN | apply Kd.R_drew)); exact Kd.R_mono HO_299000.out (fun _ hk => hk.2)), (by (with_reducible repeat (first | apply Kd.N_alloc | apply Kd.N_drewN | apply Kd.N_drew)); exact Kd.N_mono HO_299001.out (fun _ hk => ⟨hk.1.2, ⟨hk.2, ⟨hk.1.1.1.1, ⟨hk.1.1.1.2, hk.1.1.2⟩⟩⟩⟩)), (by (with_reducible repeat (first | refine blk_drewN ?_ _ | refine blk_drew ?_ | refine blk_alloc ?_ _)); exact BK298.out), (by (with_reducible repeat (first | refine blk_drewN ?_ _ | refine blk_drew ?_ | refine blk_alloc ?_ _)); exact BK312.out), GW312.out, GE312.out, NB298_312.out, NB312_298.out, (by repeat (first | (with_reducible first | exact HB.out | apply below_alloc | apply pw_below_drewN | apply below_drew1 | refine below_set ?_ GE298.out | refine below_set ?_ GE312.out) | exact HB.out))⟩)
          rintro ⟨v303, v306, gb312⟩ w47 ⟨hS_, h0_, h1_, h2_, h3_, h4_, h5_, h6_, h7_, h8_, h9_, h10_⟩
          have n0_ : Aside0 (Kd.R (Kd.int .i64) 3 w47 w.heap.size (fun k_ => some k_ ≠ (.slice Ao42 xq0_1.length co42 : Value).ownBlock) v303 t302) := ⟨h0_⟩
          have n1_ : Aside0 (Kd.N (Kd.slice 72 k72) 31 w47 w.heap.size (fun k_ => some k_ ≠ (v303 : Value).ownBlock ∧ some k_ ≠ (.slice Ao42 xq0_1.length co42 : Value).ownBlock ∧ k_ ≠ gb298 ∧ k_ ≠ gb312) v306 t305) := ⟨h1_⟩
          have n2_ : Aside0 (Kd.R (Kd.int .i64) 3 w47 w.heap.size (fun k_ => some k_ ≠ (v303 : Value).ownBlock) (.slice Ao42 xq0_1.length co42) xq0_1) := ⟨h2_⟩
          have n3_ : Aside0 (Kd.N (Kd.slice 72 k72) 31 w47 w.heap.size (fun k_ => some k_ ≠ (v303 : Value).ownBlock ∧ some k_ ≠ (v306 : Value).ownBlock ∧ some k_ ≠ (.slice Ao42 xq0_1.length co42 : Value).ownBlock ∧ k_ ≠ gb298 ∧ k_ ≠ gb312) (.slice Ao43 xq1_1.length co43) xq1_1) := ⟨h3_⟩
          have n4_ : Aside0 (w47.heap[gb298]? = some (.cells #[.slice Ao42 xq0_1.length co42, .slice Ao43 xq1_1.length co43, .int .i64 xq2_1, .int .i64 xq3_1] 28 (0, 0))) := ⟨h4_⟩
          have n5_ : Aside0 (w47.heap[gb312]? = some (.cells #[.slice none 0 0, .slice none 0 0, .int .i64 0, .int .i64 0] 28 (0, 0))) := ⟨h5_⟩
          have n6_ : Aside0 (w.heap.size ≤ gb312) := ⟨h6_⟩
          have n7_ : Aside0 (w.heap.size ≤ gb312) := ⟨h7_⟩
          have n8_ : Aside0 (gb298 ≠ gb312) := ⟨h8_⟩
          have n9_ : Aside0 (gb312 ≠ gb298) := ⟨h9_⟩
          have n10_ : Aside0 (Below w.heap.size w w47) := ⟨h10_⟩
          clear HO_299000
          clear HO_299001
          clear BK298
          clear HB
          clear h0_ h1_ h2_ h3_ h4_ h5_ h6_ h7_ h8_ h9_ h10_
          have HO304 := n0_
          have HO307 := n1_
          have HO_299000 := n2_
          have HO_299001 := n3_
          have BK298 := n4_
          have BK312 := n5_
          have GW312 := n6_
          have GE312 := n7_
          have NB298_312 := n8_
          have NB312_298 := n9_
          have HB := n10_
          clear n0_ n1_ n2_ n3_ n4_ n5_ n6_ n7_ n8_ n9_ n10_
          have hHeld : w47.cell? ⟨gb298, 0, none⟩ = some (.slice Ao42 xq0_1.length co42) ∧ w47.cell? ⟨gb298, 1, none⟩ = some (.slice Ao43 xq1_1.length co43) ∧ w47.cell? ⟨gb298, 2, none⟩ = some (.int .i64 xq2_1) ∧ w47.cell? ⟨gb298, 3, none⟩ = some (.int .i64 xq3_1) ∧ w47.cell? (ad299.add (x10_1).toNat) = some (.slice A301_0 (rd_L7 l1 x10_1).length c301_0) := hS_
          obtain ⟨Ao48, co48, eo48⟩ := Kd.R_slice HO304.out
          (first | subst eo48 | (injection eo48 with f1_ f2_ f3_; have f4_ := f1_.symm; have f5_ := f3_.symm; clear f1_ f2_ f3_; subst f4_; subst f5_))
          obtain ⟨Ao50, co50, eo50⟩ := Kd.N_slice HO307.out
          (first | subst eo50 | (injection eo50 with f1_ f2_ f3_; have f4_ := f1_.symm; have f5_ := f3_.symm; clear f1_ f2_ f3_; subst f4_; subst f5_))
          refine norm_ (a' := ?_) ?_ ?_
          rotate_left
          ·simp only [putAll, Act.put, List.setIfInBounds_toArray, List.set_cons_zero, List.set_cons_succ]
           rfl
          refine one_ (i := 11) (N := none) #[true, true, true, true, true, true, true, true, true, true, true, true, false, false] rfl rfl (one_of HT_.out (by kernel_rfl)) (by decide) (fun K hK => ?_)
          have hs49 : w47.cell? ⟨gb312, 0, none⟩ = some (.slice none 0 0) := (blk_cell BK312.out 0).trans rfl
          have hfs49 := blk_frozen BK312.out 0
          have hns49_0 := NB298_312.out
          have hms49_0 := NB312_298.out
          have hs51 : w47.cell? ⟨gb312, 1, none⟩ = some (.slice none 0 0) := (blk_cell BK312.out 1).trans rfl
          have hfs51 := blk_frozen BK312.out 1
          have hns51_0 := NB298_312.out
          have hms51_0 := NB312_298.out
          have hs52 : w47.cell? ⟨gb312, 2, none⟩ = some (.int .i64 0) := (blk_cell BK312.out 2).trans rfl
          have hfs52 := blk_frozen BK312.out 2
          have hns52_0 := NB298_312.out
          have hms52_0 := NB312_298.out
          have hs53 : w47.cell? ⟨gb312, 3, none⟩ = some (.int .i64 0) := (blk_cell BK312.out 3).trans rfl
          have hfs53 := blk_frozen BK312.out 3
          have hns53_0 := NB298_312.out
          have hms53_0 := NB312_298.out
          refine skip_ (w1 := ?_) (by rfl) rfl ?_ ?_
          rotate_left
          ·go_simp
           rfl
          refine hK.out _ _ ⟨((cell_far (p := ⟨gb312, _, none⟩) NB298_312.out _).trans (((cell_far (p := ⟨gb312, _, none⟩) NB298_312.out _).trans (((cell_far (p := ⟨gb312, _, none⟩) NB298_312.out _).trans (((cell_far (p := ⟨gb312, _, none⟩) NB298_312.out _).trans (hHeld.1)))))))), ((cell_far (p := ⟨gb312, _, none⟩) NB298_312.out _).trans (((cell_far (p := ⟨gb312, _, none⟩) NB298_312.out _).trans (((cell_far (p := ⟨gb312, _, none⟩) NB298_312.out _).trans (((cell_far (p := ⟨gb312, _, none⟩) NB298_312.out _).trans (hHeld.2.1)))))))), ((cell_far (p := ⟨gb312, _, none⟩) NB298_312.out _).trans (((cell_far (p := ⟨gb312, _, none⟩) NB298_312.out _).trans (((cell_far (p := ⟨gb312, _, none⟩) NB298_312.out _).trans (((cell_far (p := ⟨gb312, _, none⟩) NB298_312.out _).trans (hHeld.2.2.1)))))))), ((cell_far (p := ⟨gb312, _, none⟩) NB298_312.out _).trans (((cell_far (p := ⟨gb312, _, none⟩) NB298_312.out _).trans (((cell_far (p := ⟨gb312, _, none⟩) NB298_312.out _).trans (((cell_far (p := ⟨gb312, _, none⟩) NB298_312.out _).trans (hHeld.2.2.2.1)))))))), ((cell_far (p := ⟨gb312, _, none⟩) (by first | exact Nat.ne_of_lt (Nat.lt_of_lt_of_le (by have := wlt _ _ hw301_0; first | rwa [add_block] at this | exact this) GW312.out) | (rw [add_block]; exact Nat.ne_of_lt (Nat.lt_of_lt_of_le (by have := wlt _ _ hw301_0; first | rwa [add_block] at this | exact this) GW312.out)) | (show (Addr.add _ _).block ≠ _; rw [add_block]; exact Nat.ne_of_lt (Nat.lt_of_lt_of_le (by have := wlt _ _ hw301_0; first | rwa [add_block] at this | exact this) GW312.out)) | (dsimp only; exact Nat.ne_of_lt (Nat.lt_of_lt_of_le (by have := wlt _ _ hw301_0; first | rwa [add_block] at this | exact this) GW312.out))) _).trans (((cell_far (p := ⟨gb312, _, none⟩) (by first | exact Nat.ne_of_lt (Nat.lt_of_lt_of_le (by have := wlt _ _ hw301_0; first | rwa [add_block] at this | exact this) GW312.out) | (rw [add_block]; exact Nat.ne_of_lt (Nat.lt_of_lt_of_le (by have := wlt _ _ hw301_0; first | rwa [add_block] at this | exact this) GW312.out)) | (show (Addr.add _ _).block ≠ _; rw [add_block]; exact Nat.ne_of_lt (Nat.lt_of_lt_of_le (by have := wlt _ _ hw301_0; first | rwa [add_block] at this | exact this) GW312.out)) | (dsimp only; exact Nat.ne_of_lt (Nat.lt_of_lt_of_le (by have := wlt _ _ hw301_0; first | rwa [add_block] at this | exact this) GW312.out))) _).trans (((cell_far (p := ⟨gb312, _, none⟩) (by first | exact Nat.ne_of_lt (Nat.lt_of_lt_of_le (by have := wlt _ _ hw301_0; first | rwa [add_block] at this | exact this) GW312.out) | (rw [add_block]; exact Nat.ne_of_lt (Nat.lt_of_lt_of_le (by have := wlt _ _ hw301_0; first | rwa [add_block] at this | exact this) GW312.out)) | (show (Addr.add _ _).block ≠ _; rw [add_block]; exact Nat.ne_of_lt (Nat.lt_of_lt_of_le (by have := wlt _ _ hw301_0; first | rwa [add_block] at this | exact this) GW312.out)) | (dsimp only; exact Nat.ne_of_lt (Nat.lt_of_lt_of_le (by have := wlt _ _ hw301_0; first | rwa [add_block] at this | exact this) GW312.out))) _).trans (((cell_far (p := ⟨gb312, _, none⟩) (by first | exact Nat.ne_of_lt (Nat.lt_of_lt_of_le (by have := wlt _ _ hw301_0; first | rwa [add_block] at this | exact this) GW312.out) | (rw [add_block]; exact Nat.ne_of_lt (Nat.lt_of_lt_of_le (by have := wlt _ _ hw301_0; first | rwa [add_block] at this | exact this) GW312.out)) | (show (Addr.add _ _).block ≠ _; rw [add_block]; exact Nat.ne_of_lt (Nat.lt_of_lt_of_le (by have := wlt _ _ hw301_0; first | rwa [add_block] at this | exact this) GW312.out)) | (dsimp only; exact Nat.ne_of_lt (Nat.lt_of_lt_of_le (by have := wlt _ _ hw301_0; first | rwa [add_block] at this | exact this) GW312.out))) _).trans (hHeld.2.2.2.2))))))))⟩ (fun hHeld => ?_)
          clear hK K
          refine pure_ (i := 12) (N := some 12) (v := ?_) (a' := ?_) #[true, true, true, true, true, true, true, true, true, true, true, true, true, false] rfl rfl (any_of HT_.out (by kernel_rfl)) (fun _ _ _ h => h) (Or.inl ⟨by rfl, ?_⟩) ?_ ?_
          rotate_left
          ·intro w'
           go_simp
           with_reducible rfl
          rotate_left
          ·simp only [Act.put, List.setIfInBounds_toArray, List.set_cons_zero, List.set_cons_succ, i64_w, i32_w]
           rfl
          refine pure_ (i := 13) (N := some 13) (v := ?_) (a' := ?_) #[true, true, true, true, true, true, true, true, true, true, true, true, true, true] rfl rfl (any_of HT_.out (by kernel_rfl)) (fun _ _ _ h => h) (Or.inl ⟨by rfl, ?_⟩) ?_ ?_
          rotate_left
          ·intro w'
           go_simp
           with_reducible rfl
          rotate_left
          ·simp only [Act.put, List.setIfInBounds_toArray, List.set_cons_zero, List.set_cons_succ, i64_w, i32_w]
           rfl
          refine done_ (done_of HT_.out (by kernel_rfl)) ?_
          have n0_ : Aside0 (Kd.R (Kd.int .i64) 3 ((((w47.setCell ⟨gb312, 0, none⟩ (.slice Ao48 t302.length co48)).setCell ⟨gb312, 1, none⟩ (.slice Ao50 t305.length co50)).setCell ⟨gb312, 2, none⟩ (.int .i64 t308)).setCell ⟨gb312, 3, none⟩ (.int .i64 t309)) w.heap.size (fun k_ => some k_ ≠ (.slice Ao48 t302.length co48 : Value).ownBlock) (.slice Ao42 xq0_1.length co42) xq0_1) := ⟨by (with_reducible repeat (first | apply Kd.R_alloc | apply Kd.R_drewN | apply Kd.R_drew)); exact Kd.R_mono (Kd.R_far (p := ⟨gb312, 3, none⟩) (Kd.R_far (p := ⟨gb312, 2, none⟩) (Kd.R_far (p := ⟨gb312, 1, none⟩) (Kd.R_far (p := ⟨gb312, 0, none⟩) (Kd.R_types HO_299000.out BK312.out (by decide)) (fun _ hk => hk.2) (.slice Ao48 t302.length co48)) (fun _ hk => hk.2) (.slice Ao50 t305.length co50)) (fun _ hk => hk.2) (.int .i64 t308)) (fun _ hk => hk.2) (.int .i64 t309)) (fun _ hk => hk.1)⟩
          have n1_ : Aside0 (Kd.N (Kd.slice 72 k72) 31 ((((w47.setCell ⟨gb312, 0, none⟩ (.slice Ao48 t302.length co48)).setCell ⟨gb312, 1, none⟩ (.slice Ao50 t305.length co50)).setCell ⟨gb312, 2, none⟩ (.int .i64 t308)).setCell ⟨gb312, 3, none⟩ (.int .i64 t309)) w.heap.size (fun k_ => some k_ ≠ (.slice Ao42 xq0_1.length co42 : Value).ownBlock ∧ some k_ ≠ (.slice Ao48 t302.length co48 : Value).ownBlock ∧ some k_ ≠ (.slice Ao50 t305.length co50 : Value).ownBlock ∧ k_ ≠ gb298 ∧ k_ ≠ gb312) (.slice Ao43 xq1_1.length co43) xq1_1) := ⟨by (with_reducible repeat (first | apply Kd.N_alloc | apply Kd.N_drewN | apply Kd.N_drew)); exact Kd.N_mono (Kd.N_far (p := ⟨gb312, 3, none⟩) (Kd.N_far (p := ⟨gb312, 2, none⟩) (Kd.N_far (p := ⟨gb312, 1, none⟩) (Kd.N_far (p := ⟨gb312, 0, none⟩) (Kd.N_mono HO_299001.out (fun k_ hk => (⟨hk, hk.2.2.2.2⟩ : _ ∧ k_ ≠ gb312))) (fun _ hk => hk.2) (.slice Ao48 t302.length co48)) (fun _ hk => hk.2) (.slice Ao50 t305.length co50)) (fun _ hk => hk.2) (.int .i64 t308)) (fun _ hk => hk.2) (.int .i64 t309)) (fun _ hk => ⟨hk.1.2.2.1, ⟨hk.1.1, ⟨hk.1.2.1, ⟨hk.1.2.2.2.1, hk.1.2.2.2.2⟩⟩⟩⟩)⟩
          have n2_ : Aside0 (Kd.R (Kd.int .i64) 3 ((((w47.setCell ⟨gb312, 0, none⟩ (.slice Ao48 t302.length co48)).setCell ⟨gb312, 1, none⟩ (.slice Ao50 t305.length co50)).setCell ⟨gb312, 2, none⟩ (.int .i64 t308)).setCell ⟨gb312, 3, none⟩ (.int .i64 t309)) w.heap.size (fun k_ => some k_ ≠ (.slice Ao42 xq0_1.length co42 : Value).ownBlock) (.slice Ao48 t302.length co48) t302) := ⟨by (with_reducible repeat (first | apply Kd.R_alloc | apply Kd.R_drewN | apply Kd.R_drew)); exact Kd.R_mono (Kd.R_far (p := ⟨gb312, 3, none⟩) (Kd.R_far (p := ⟨gb312, 2, none⟩) (Kd.R_far (p := ⟨gb312, 1, none⟩) (Kd.R_far (p := ⟨gb312, 0, none⟩) (Kd.R_types HO304.out BK312.out (by decide)) (fun _ hk => hk.2) (.slice Ao48 t302.length co48)) (fun _ hk => hk.2) (.slice Ao50 t305.length co50)) (fun _ hk => hk.2) (.int .i64 t308)) (fun _ hk => hk.2) (.int .i64 t309)) (fun _ hk => hk.1)⟩
          have n3_ : Aside0 (Kd.N (Kd.slice 72 k72) 31 ((((w47.setCell ⟨gb312, 0, none⟩ (.slice Ao48 t302.length co48)).setCell ⟨gb312, 1, none⟩ (.slice Ao50 t305.length co50)).setCell ⟨gb312, 2, none⟩ (.int .i64 t308)).setCell ⟨gb312, 3, none⟩ (.int .i64 t309)) w.heap.size (fun k_ => some k_ ≠ (.slice Ao42 xq0_1.length co42 : Value).ownBlock ∧ some k_ ≠ (.slice Ao48 t302.length co48 : Value).ownBlock ∧ k_ ≠ gb298 ∧ k_ ≠ gb312) (.slice Ao50 t305.length co50) t305) := ⟨by (with_reducible repeat (first | apply Kd.N_alloc | apply Kd.N_drewN | apply Kd.N_drew)); exact Kd.N_mono (Kd.N_far (p := ⟨gb312, 3, none⟩) (Kd.N_far (p := ⟨gb312, 2, none⟩) (Kd.N_far (p := ⟨gb312, 1, none⟩) (Kd.N_far (p := ⟨gb312, 0, none⟩) (Kd.N_mono HO307.out (fun k_ hk => (⟨hk, hk.2.2.2⟩ : _ ∧ k_ ≠ gb312))) (fun _ hk => hk.2) (.slice Ao48 t302.length co48)) (fun _ hk => hk.2) (.slice Ao50 t305.length co50)) (fun _ hk => hk.2) (.int .i64 t308)) (fun _ hk => hk.2) (.int .i64 t309)) (fun _ hk => ⟨hk.1.2.1, ⟨hk.1.1, ⟨hk.1.2.2.1, hk.1.2.2.2⟩⟩⟩)⟩
          have n4_ : Aside0 (((((w47.setCell ⟨gb312, 0, none⟩ (.slice Ao48 t302.length co48)).setCell ⟨gb312, 1, none⟩ (.slice Ao50 t305.length co50)).setCell ⟨gb312, 2, none⟩ (.int .i64 t308)).setCell ⟨gb312, 3, none⟩ (.int .i64 t309)).heap[gb298]? = some (.cells #[.slice Ao42 xq0_1.length co42, .slice Ao43 xq1_1.length co43, .int .i64 xq2_1, .int .i64 xq3_1] 28 (0, 0))) := ⟨by (with_reducible repeat (first | refine blk_drewN ?_ _ | refine blk_drew ?_ | refine blk_alloc ?_ _)); refine blk_far ?_ NB298_312.out _; (with_reducible repeat (first | refine blk_drewN ?_ _ | refine blk_drew ?_ | refine blk_alloc ?_ _)); refine blk_far ?_ NB298_312.out _; (with_reducible repeat (first | refine blk_drewN ?_ _ | refine blk_drew ?_ | refine blk_alloc ?_ _)); refine blk_far ?_ NB298_312.out _; (with_reducible repeat (first | refine blk_drewN ?_ _ | refine blk_drew ?_ | refine blk_alloc ?_ _)); refine blk_far ?_ NB298_312.out _; (with_reducible repeat (first | refine blk_drewN ?_ _ | refine blk_drew ?_ | refine blk_alloc ?_ _)); exact BK298.out⟩
          have n5_ : Aside0 (((((w47.setCell ⟨gb312, 0, none⟩ (.slice Ao48 t302.length co48)).setCell ⟨gb312, 1, none⟩ (.slice Ao50 t305.length co50)).setCell ⟨gb312, 2, none⟩ (.int .i64 t308)).setCell ⟨gb312, 3, none⟩ (.int .i64 t309)).heap[gb312]? = some (.cells #[.slice Ao48 t302.length co48, .slice Ao50 t305.length co50, .int .i64 t308, .int .i64 t309] 28 (0, 0))) := ⟨by (with_reducible repeat (first | refine blk_drewN ?_ _ | refine blk_drew ?_ | refine blk_alloc ?_ _)); refine blk_put (cs := #[.slice Ao48 t302.length co48, .slice Ao50 t305.length co50, .int .i64 t308, .int .i64 0]) ?_ 3 _ rfl; (with_reducible repeat (first | refine blk_drewN ?_ _ | refine blk_drew ?_ | refine blk_alloc ?_ _)); refine blk_put (cs := #[.slice Ao48 t302.length co48, .slice Ao50 t305.length co50, .int .i64 0, .int .i64 0]) ?_ 2 _ rfl; (with_reducible repeat (first | refine blk_drewN ?_ _ | refine blk_drew ?_ | refine blk_alloc ?_ _)); refine blk_put (cs := #[.slice Ao48 t302.length co48, .slice none 0 0, .int .i64 0, .int .i64 0]) ?_ 1 _ rfl; (with_reducible repeat (first | refine blk_drewN ?_ _ | refine blk_drew ?_ | refine blk_alloc ?_ _)); refine blk_put (cs := #[.slice none 0 0, .slice none 0 0, .int .i64 0, .int .i64 0]) ?_ 0 _ rfl; (with_reducible repeat (first | refine blk_drewN ?_ _ | refine blk_drew ?_ | refine blk_alloc ?_ _)); exact BK312.out⟩
          have n6_ : Aside0 (Below w.heap.size w ((((w47.setCell ⟨gb312, 0, none⟩ (.slice Ao48 t302.length co48)).setCell ⟨gb312, 1, none⟩ (.slice Ao50 t305.length co50)).setCell ⟨gb312, 2, none⟩ (.int .i64 t308)).setCell ⟨gb312, 3, none⟩ (.int .i64 t309))) := ⟨by repeat (first | (with_reducible first | exact HB.out | apply below_alloc | apply pw_below_drewN | apply below_drew1 | refine below_set ?_ GE298.out | refine below_set ?_ GE312.out) | exact HB.out)⟩
          (try clear HO_299000)
          (try clear HO_299001)
          (try clear HO304)
          (try clear HO307)
          (try clear BK298)
          (try clear BK312)
          (try clear HB)
          generalize ((((w47.setCell ⟨gb312, 0, none⟩ (.slice Ao48 t302.length co48)).setCell ⟨gb312, 1, none⟩ (.slice Ao50 t305.length co50)).setCell ⟨gb312, 2, none⟩ (.int .i64 t308)).setCell ⟨gb312, 3, none⟩ (.int .i64 t309)) = w54 at n0_ n1_ n2_ n3_ n4_ n5_ n6_ ⊢
          have HO_299000 := n0_
          have HO_299001 := n1_
          have HO304 := n2_
          have HO307 := n3_
          have BK298 := n4_
          have BK312 := n5_
          have HB := n6_
          clear n0_ n1_ n2_ n3_ n4_ n5_ n6_
          have hnb55 := NB312_298.out
          have hnc55 := NB298_312.out
          have hcz56_0 : w54.cell? ⟨gb312, 0, none⟩ = some (.slice Ao48 t302.length co48) := (blk_cell BK312.out 0).trans rfl
          have hcz56_1 : w54.cell? ⟨gb312, 1, none⟩ = some (.slice Ao50 t305.length co50) := (blk_cell BK312.out 1).trans rfl
          have hcz56_2 : w54.cell? ⟨gb312, 2, none⟩ = some (.int .i64 t308) := (blk_cell BK312.out 2).trans rfl
          have hcz56_3 : w54.cell? ⟨gb312, 3, none⟩ = some (.int .i64 t309) := (blk_cell BK312.out 3).trans rfl
          have hfz56_0 := blk_frozen BK312.out 0
          have hfz56_1 := blk_frozen BK312.out 1
          have hfz56_2 := blk_frozen BK312.out 2
          have hfz56_3 := blk_frozen BK312.out 3
          go_upto_region 14 with (first | ((with_reducible refine gate_callee (f := 13) rfl ?_); refine goesL_ (some 68) rfl rfl Try.func13 (by kernel_rfl) rfl #[.agg #[.slice Ao48 t302.length co48, .slice Ao50 t305.length co50, .int .i64 t308, .int .i64 t309], .int .i64 (wrap64 (x10_1 + 1))] rfl (by (try simp only [List.map_toArray, List.map_cons, List.map_nil]); first | done | rfl | (simp only [List.length_drop, List.length_take]; rfl)) ?_; (with_reducible refine (snaps_Get.calls kj13 _ _ t302 (fun k_ => (some k_ ≠ (.slice Ao42 xq0_1.length co42 : Value).ownBlock ∧ (some k_ ≠ (.slice Ao48 t302.length co48 : Value).ownBlock ∧ (k_ ≠ gb298 ∧ k_ ≠ gb312)))) _ _ t305 t308 t309 (wrap64 (x10_1 + 1)) t313 t316 _ ?side1 ?side2 ?side3 A39.out).mono ?_); (case side1 => repeat (first | exact (Kd.R_reads' HO304.out).2.2 | (with_reducible refine Kd.C_alloc ?_ _) | (with_reducible refine Kd.C_drewN ?_ _) | (with_reducible refine Kd.C_drew ?_))); (case side2 => exact (Kd.R_reads' HO304.out).2.1); (case side3 => exact Kd.N_V (HO307.out)); rintro e w57 ⟨v314, rfl, ho0, hb⟩; refine ⟨_, rfl, ?_⟩; have n0_ := Aside0.mk (Kd.R_below (by (with_reducible repeat (first | apply Kd.R_alloc | apply Kd.R_drewN | apply Kd.R_drew)); exact HO_299000.out) hb); have n1_ := Aside0.mk (Kd.N_below (by (with_reducible repeat (first | apply Kd.N_alloc | apply Kd.N_drewN | apply Kd.N_drew)); exact HO_299001.out) hb); have n2_ := Aside0.mk (Kd.R_below (by (with_reducible repeat (first | apply Kd.R_alloc | apply Kd.R_drewN | apply Kd.R_drew)); exact HO304.out) hb); have n3_ := Aside0.mk (Kd.N_below (by (with_reducible repeat (first | apply Kd.N_alloc | apply Kd.N_drewN | apply Kd.N_drew)); exact HO307.out) hb); have n4_ := Aside0.mk (Kd.V_lower (Kd.V_mono (ok' := fun k_ => some k_ ≠ (.slice Ao42 xq0_1.length co42 : Value).ownBlock ∧ some k_ ≠ (.slice Ao48 t302.length co48 : Value).ownBlock ∧ k_ ≠ gb298 ∧ k_ ≠ gb312) ho0 (fun k_ hk_ => ⟨Or.elim hk_ (fun hs_ => hs_.1) (fun hn_ => (Kd.fresh' (Kd.R_lt (by (with_reducible repeat (first | apply Kd.R_alloc | apply Kd.R_drewN | apply Kd.R_drew)); exact HO_299000.out)) k_ hn_)), Or.elim hk_ (fun hs_ => hs_.2.1) (fun hn_ => (Kd.fresh' (Kd.R_lt (by (with_reducible repeat (first | apply Kd.R_alloc | apply Kd.R_drewN | apply Kd.R_drew)); exact HO304.out)) k_ hn_)), Or.elim hk_ (fun hs_ => hs_.2.2.1) (fun hn_ => (Kd.freshB (g := gb298) (o := .cells #[.slice Ao42 xq0_1.length co42, .slice Ao43 xq1_1.length co43, .int .i64 xq2_1, .int .i64 xq3_1] 28 (0, 0)) (by (with_reducible repeat (first | refine blk_drewN ?_ _ | refine blk_drew ?_ | refine blk_alloc ?_ _)); exact BK298.out) k_ hn_)), Or.elim hk_ (fun hs_ => hs_.2.2.2) (fun hn_ => (Kd.freshB (g := gb312) (o := .cells #[.slice Ao48 t302.length co48, .slice Ao50 t305.length co50, .int .i64 t308, .int .i64 t309] 28 (0, 0)) (by (with_reducible repeat (first | refine blk_drewN ?_ _ | refine blk_drew ?_ | refine blk_alloc ?_ _)); exact BK312.out) k_ hn_))⟩)) (below_size (by repeat (first | (with_reducible first | exact HB.out | apply below_alloc | apply pw_below_drewN | apply below_drew1 | refine below_set ?_ GE298.out | refine below_set ?_ GE312.out) | exact HB.out)))); have n5_ := Aside0.mk (blk_below (g := gb298) (o := .cells #[.slice Ao42 xq0_1.length co42, .slice Ao43 xq1_1.length co43, .int .i64 xq2_1, .int .i64 xq3_1] 28 (0, 0)) (by (with_reducible repeat (first | refine blk_drewN ?_ _ | refine blk_drew ?_ | refine blk_alloc ?_ _)); exact BK298.out) hb); have n6_ := Aside0.mk (blk_below (g := gb312) (o := .cells #[.slice Ao48 t302.length co48, .slice Ao50 t305.length co50, .int .i64 t308, .int .i64 t309] 28 (0, 0)) (by (with_reducible repeat (first | refine blk_drewN ?_ _ | refine blk_drew ?_ | refine blk_alloc ?_ _)); exact BK312.out) hb); have n7_ := Aside0.mk (below_step (by repeat (first | (with_reducible first | exact HB.out | apply below_alloc | apply pw_below_drewN | apply below_drew1 | refine below_set ?_ GE298.out | refine below_set ?_ GE312.out) | exact HB.out)) hb); clear HO_299000; clear HO_299001; clear HO304; clear HO307; clear BK298; clear BK312; clear HB; have HO_299000 := n0_; have HO_299001 := n1_; have HO304 := n2_; have HO307 := n3_; have HO315 := n4_; have BK298 := n5_; have BK312 := n6_; have HB := n7_; clear n0_ n1_ n2_ n3_ n4_ n5_ n6_ n7_; (try clear hb); (try clear hb2); (try clear hk); (try clear hi); (try clear ho0)))
          (try simp only [Act.put, List.setIfInBounds_toArray, List.set_cons_zero, List.set_cons_succ])
          go_cut [91] (fun v91 wc => ∃ (kq : Nat) (x91_39 : Bool), v91 = .bool x91_39 ∧ Aside0 (sRoom.j3 kq l1 a2 t289 ji6 x10_1 x91_39 t302 t305 t308 t309 = some r) ∧ Aside0 (kq ≤ kj13) ∧ Aside0 (Kd.R (Kd.int .i64) 3 wc w.heap.size (fun k_ => some k_ ≠ ((.slice Ao48 t302.length co48) : Value).ownBlock) (.slice Ao42 xq0_1.length co42) xq0_1) ∧ Aside0 (Kd.N (Kd.slice 72 k72) 31 wc w.heap.size (fun k_ => some k_ ≠ ((.slice Ao42 xq0_1.length co42) : Value).ownBlock ∧ some k_ ≠ ((.slice Ao48 t302.length co48) : Value).ownBlock ∧ some k_ ≠ ((.slice Ao50 t305.length co50) : Value).ownBlock ∧ k_ ≠ gb298 ∧ k_ ≠ gb312) (.slice Ao43 xq1_1.length co43) xq1_1) ∧ Aside0 (Kd.R (Kd.int .i64) 3 wc w.heap.size (fun k_ => some k_ ≠ ((.slice Ao42 xq0_1.length co42) : Value).ownBlock) (.slice Ao48 t302.length co48) t302) ∧ Aside0 (Kd.N (Kd.slice 72 k72) 31 wc w.heap.size (fun k_ => some k_ ≠ ((.slice Ao42 xq0_1.length co42) : Value).ownBlock ∧ some k_ ≠ ((.slice Ao48 t302.length co48) : Value).ownBlock ∧ k_ ≠ gb298 ∧ k_ ≠ gb312) (.slice Ao50 t305.length co50) t305) ∧ Aside0 (wc.heap[gb298]? = some (.cells #[(.slice Ao42 xq0_1.length co42), (.slice Ao43 xq1_1.length co43), .int .i64 xq2_1, .int .i64 xq3_1] 28 (0, 0))) ∧ Aside0 (wc.heap[gb312]? = some (.cells #[(.slice Ao48 t302.length co48), (.slice Ao50 t305.length co50), .int .i64 t308, .int .i64 t309] 28 (0, 0))) ∧ Aside0 (Below w.heap.size w wc))
          case first =>
           have H := HC40.out
           clear HC40
           by_cases c58 : t311 = 0
           ·rw [if_pos c58] at H
            have c58b0 : (t311 == 0) = true := beq_iff_eq.mpr c58
            have c58b1 : (t311 != 0) = false := bne_eq_false_iff_eq.mpr c58
            clear c58
            (first | rw [c58b0] | (simp only [i64_w, i32_w]; rw [c58b0]) | skip)
            by_cases c59 : t310 = (wrap64 (x10_1 + 1))
            ·rw [if_pos c59] at H
             have c59b0 : (t310 == (wrap64 (x10_1 + 1))) = true := beq_iff_eq.mpr c59
             have c59b1 : (t310 != (wrap64 (x10_1 + 1))) = false := bne_eq_false_iff_eq.mpr c59
             clear c59
             by_cases c60 : t316 = 0
             ·rw [if_pos c60] at H
              have c60b0 : (t316 == 0) = true := beq_iff_eq.mpr c60
              have c60b1 : (t316 != 0) = false := bne_eq_false_iff_eq.mpr c60
              clear c60
              replace H := Option.bind_eq_some_iff.mp H
              obtain ⟨t318, A610, H⟩ := H
              replace H : (sRoom.j3 kj13 l1 a2 t289 ji6 x10_1 (!t318) t302 t305 t308 t309) = some r := H
              have A61 := Aside0.mk A610
              clear A610
              have H' := Aside0.mk H
              clear H
              have p317 : 0 ≤ (x10_1 : Int) := of_decide_eq_true (by first | (with_reducible assumption) | assumption)
              have q317 : x10_1 < (l1.length : Int) := of_decide_eq_true (by first | (with_reducible assumption) | assumption)
              obtain ⟨ad317, A317_0, c317_0, e317, hx317_0, hl317_0, hi317_0⟩ := at_L7 HR1.out x10_1 p317 q317
              obtain rfl : ad299 = ad317 := (by injection e317)
              replace hx317_0 := (HB.out.cell (wlt w _ hx317_0)).trans hx317_0
              have HR317_0 := Aside0.mk hi317_0
              have HC317_0 := Aside0.mk hl317_0
              clear hi317_0 hl317_0
              replace p317 := eq_true p317
              replace q317 := eq_true q317
              obtain ⟨Ao62, co62, eo62⟩ := Kd.V_slice HO315.out
              subst eo62
              go_wp2_with (first | (go_at_call 14; (with_reducible refine (cordwoodref10_Same.calls kj13 _ _ t313 _ _ (rd_L7 l1 x10_1) t318 _ ?side1 ?side2 ?side3 ?side4 A61.out).mono ?_); (case side1 => repeat (first | exact (Kd.V_reads' HO315.out).2.2 | (with_reducible refine Kd.C_alloc ?_ _) | (with_reducible refine Kd.C_drewN ?_ _) | (with_reducible refine Kd.C_drew ?_))); (case side2 => exact (Kd.V_reads' HO315.out).2.1); (case side3 => repeat (first | exact (Kd.C_below HR317_0.out HB.out) | (with_reducible refine Kd.C_alloc ?_ _) | (with_reducible refine Kd.C_drewN ?_ _) | (with_reducible refine Kd.C_drew ?_))); (case side4 => exact HC317_0.out); rintro e w63 ⟨rfl, hb⟩; have n0_ := Aside0.mk (Kd.R_below (by (with_reducible repeat (first | apply Kd.R_alloc | apply Kd.R_drewN | apply Kd.R_drew)); exact HO_299000.out) hb); have n1_ := Aside0.mk (Kd.N_below (by (with_reducible repeat (first | apply Kd.N_alloc | apply Kd.N_drewN | apply Kd.N_drew)); exact HO_299001.out) hb); have n2_ := Aside0.mk (Kd.R_below (by (with_reducible repeat (first | apply Kd.R_alloc | apply Kd.R_drewN | apply Kd.R_drew)); exact HO304.out) hb); have n3_ := Aside0.mk (Kd.N_below (by (with_reducible repeat (first | apply Kd.N_alloc | apply Kd.N_drewN | apply Kd.N_drew)); exact HO307.out) hb); have n4_ := Aside0.mk (Kd.V_below (by (with_reducible repeat (first | apply Kd.V_alloc | apply Kd.V_drewN | apply Kd.V_drew)); exact HO315.out) hb); have n5_ := Aside0.mk (blk_below (g := gb298) (o := .cells #[.slice Ao42 xq0_1.length co42, .slice Ao43 xq1_1.length co43, .int .i64 xq2_1, .int .i64 xq3_1] 28 (0, 0)) (by (with_reducible repeat (first | refine blk_drewN ?_ _ | refine blk_drew ?_ | refine blk_alloc ?_ _)); exact BK298.out) hb); have n6_ := Aside0.mk (blk_below (g := gb312) (o := .cells #[.slice Ao48 t302.length co48, .slice Ao50 t305.length co50, .int .i64 t308, .int .i64 t309] 28 (0, 0)) (by (with_reducible repeat (first | refine blk_drewN ?_ _ | refine blk_drew ?_ | refine blk_alloc ?_ _)); exact BK312.out) hb); have n7_ := Aside0.mk (below_step (by repeat (first | (with_reducible first | exact HB.out | apply below_alloc | apply pw_below_drewN | apply below_drew1 | refine below_set ?_ GE298.out | refine below_set ?_ GE312.out) | exact HB.out)) hb); clear HO_299000; clear HO_299001; clear HO304; clear HO307; clear HO315; clear BK298; clear BK312; clear HB; have HO_299000 := n0_; have HO_299001 := n1_; have HO304 := n2_; have HO307 := n3_; have HO315 := n4_; have BK298 := n5_; have BK312 := n6_; have HB := n7_; clear n0_ n1_ n2_ n3_ n4_ n5_ n6_ n7_; (try clear hb); (try clear hb2); (try clear hk); (try clear hi)))
              go_meet
              case rel => exact ⟨_, (!t318), (by first | rfl | (simp; done) | (simp [*]; done)), H', ⟨by have := HK1.out; have := HJ13.out; first | omega | exact Nat.le_refl _⟩, ⟨by (with_reducible repeat (first | apply Kd.R_alloc | apply Kd.R_drewN | apply Kd.R_drew)); exact HO_299000.out⟩, ⟨by (with_reducible repeat (first | apply Kd.N_alloc | apply Kd.N_drewN | apply Kd.N_drew)); exact HO_299001.out⟩, ⟨by (with_reducible repeat (first | apply Kd.R_alloc | apply Kd.R_drewN | apply Kd.R_drew)); exact HO304.out⟩, ⟨by (with_reducible repeat (first | apply Kd.N_alloc | apply Kd.N_drewN | apply Kd.N_drew)); exact HO307.out⟩, ⟨by (with_reducible repeat (first | refine blk_drewN ?_ _ | refine blk_drew ?_ | refine blk_alloc ?_ _)); exact BK298.out⟩, ⟨by (with_reducible repeat (first | refine blk_drewN ?_ _ | refine blk_drew ?_ | refine blk_alloc ?_ _)); exact BK312.out⟩, ⟨by repeat (first | (with_reducible first | exact HB.out | apply below_alloc | apply pw_below_drewN | apply below_drew1 | refine below_set ?_ GE298.out | refine below_set ?_ GE312.out) | exact HB.out)⟩⟩
             ·rw [if_neg c60] at H
              have c60b0 : (t316 == 0) = false := beq_eq_false_iff_ne.mpr c60
              have c60b1 : (t316 != 0) = true := bne_iff_ne.mpr c60
              have H' := Aside0.mk H
              clear H
              go_wp2
              go_meet
              case rel => exact ⟨_, (true), (by first | rfl | (simp; done) | (simp [*]; done)), H', ⟨by have := HK1.out; have := HJ13.out; first | omega | exact Nat.le_refl _⟩, ⟨by (with_reducible repeat (first | apply Kd.R_alloc | apply Kd.R_drewN | apply Kd.R_drew)); exact HO_299000.out⟩, ⟨by (with_reducible repeat (first | apply Kd.N_alloc | apply Kd.N_drewN | apply Kd.N_drew)); exact HO_299001.out⟩, ⟨by (with_reducible repeat (first | apply Kd.R_alloc | apply Kd.R_drewN | apply Kd.R_drew)); exact HO304.out⟩, ⟨by (with_reducible repeat (first | apply Kd.N_alloc | apply Kd.N_drewN | apply Kd.N_drew)); exact HO307.out⟩, ⟨by (with_reducible repeat (first | refine blk_drewN ?_ _ | refine blk_drew ?_ | refine blk_alloc ?_ _)); exact BK298.out⟩, ⟨by (with_reducible repeat (first | refine blk_drewN ?_ _ | refine blk_drew ?_ | refine blk_alloc ?_ _)); exact BK312.out⟩, ⟨by repeat (first | (with_reducible first | exact HB.out | apply below_alloc | apply pw_below_drewN | apply below_drew1 | refine below_set ?_ GE298.out | refine below_set ?_ GE312.out) | exact HB.out)⟩⟩
            ·rw [if_neg c59] at H
             have c59b0 : (t310 == (wrap64 (x10_1 + 1))) = false := beq_eq_false_iff_ne.mpr c59
             have c59b1 : (t310 != (wrap64 (x10_1 + 1))) = true := bne_iff_ne.mpr c59
             have H' := Aside0.mk H
             clear H
             go_wp2
             go_meet
             case rel => exact ⟨_, (true), (by first | rfl | (simp; done) | (simp [*]; done)), H', ⟨by have := HK1.out; have := HJ13.out; first | omega | exact Nat.le_refl _⟩, ⟨by (with_reducible repeat (first | apply Kd.R_alloc | apply Kd.R_drewN | apply Kd.R_drew)); exact HO_299000.out⟩, ⟨by (with_reducible repeat (first | apply Kd.N_alloc | apply Kd.N_drewN | apply Kd.N_drew)); exact HO_299001.out⟩, ⟨by (with_reducible repeat (first | apply Kd.R_alloc | apply Kd.R_drewN | apply Kd.R_drew)); exact HO304.out⟩, ⟨by (with_reducible repeat (first | apply Kd.N_alloc | apply Kd.N_drewN | apply Kd.N_drew)); exact HO307.out⟩, ⟨by (with_reducible repeat (first | refine blk_drewN ?_ _ | refine blk_drew ?_ | refine blk_alloc ?_ _)); exact BK298.out⟩, ⟨by (with_reducible repeat (first | refine blk_drewN ?_ _ | refine blk_drew ?_ | refine blk_alloc ?_ _)); exact BK312.out⟩, ⟨by repeat (first | (with_reducible first | exact HB.out | apply below_alloc | apply pw_below_drewN | apply below_drew1 | refine below_set ?_ GE298.out | refine below_set ?_ GE312.out) | exact HB.out)⟩⟩
           ·rw [if_neg c58] at H
            have c58b0 : (t311 == 0) = false := beq_eq_false_iff_ne.mpr c58
            have c58b1 : (t311 != 0) = true := bne_iff_ne.mpr c58
            (first | rw [c58b0] | (simp only [i64_w, i32_w]; rw [c58b0]) | skip)
            have H' := Aside0.mk H
            clear H
            go_wp2
            go_meet
            case rel => exact ⟨_, (true), (by first | rfl | (simp; done) | (simp [*]; done)), H', ⟨by have := HK1.out; have := HJ13.out; first | omega | exact Nat.le_refl _⟩, ⟨by (with_reducible repeat (first | apply Kd.R_alloc | apply Kd.R_drewN | apply Kd.R_drew)); exact HO_299000.out⟩, ⟨by (with_reducible repeat (first | apply Kd.N_alloc | apply Kd.N_drewN | apply Kd.N_drew)); exact HO_299001.out⟩, ⟨by (with_reducible repeat (first | apply Kd.R_alloc | apply Kd.R_drewN | apply Kd.R_drew)); exact HO304.out⟩, ⟨by (with_reducible repeat (first | apply Kd.N_alloc | apply Kd.N_drewN | apply Kd.N_drew)); exact HO307.out⟩, ⟨by (with_reducible repeat (first | refine blk_drewN ?_ _ | refine blk_drew ?_ | refine blk_alloc ?_ _)); exact BK298.out⟩, ⟨by (with_reducible repeat (first | refine blk_drewN ?_ _ | refine blk_drew ?_ | refine blk_alloc ?_ _)); exact BK312.out⟩, ⟨by repeat (first | (with_reducible first | exact HB.out | apply below_alloc | apply pw_below_drewN | apply below_drew1 | refine below_set ?_ GE298.out | refine below_set ?_ GE312.out) | exact HB.out)⟩⟩
          case rest =>
           clear HC40
           try clear c1
           try clear c2
           try clear p2
           try clear q2
           try clear hx2
           try clear c3
           try clear p3
           try clear q3
           try clear hx3
           try clear c5
           try clear c6
           try clear p6
           try clear c9
           try clear c10
           try clear c11
           try clear c12
           try clear c13
           try clear c15
           try clear c15b0
           try clear c16
           try clear c17
           try clear c17b0
           try clear c18
           try clear c18b0
           try clear c20
           try clear c22
           try clear c22b0
           try clear c29
           try clear p29
           try clear q29
           try clear hx29
           try clear c30
           try clear p30
           try clear q30
           try clear hx30
           try clear c31
           try clear p31
           try clear q31
           try clear hx31
           try clear c37
           try clear c37b0
           try clear c37b1
           try clear c38
           try clear c55
           try clear c58
           try clear c58b0
           try clear c58b1
           try clear c59
           try clear c59b0
           try clear c59b1
           try clear c60
           try clear c60b0
           try clear c60b1
           try clear hcz12_0
           try clear hcz12_1
           try clear hcz12_2
           try clear hcz12_3
           try clear hcz56_0
           try clear hcz56_1
           try clear hcz56_2
           try clear hcz56_3
           try clear hfz12_0
           try clear hfz12_1
           try clear hfz12_2
           try clear hfz12_3
           try clear hfz56_0
           try clear hfz56_1
           try clear hfz56_2
           try clear hfz56_3
           try clear hx299_0
           try clear hx301_0
           try clear hx317_0
           try clear p2
           try clear p29
           try clear p299
           try clear p3
           try clear p30
           try clear p301
           try clear p317
           try clear p6
           try clear q2
           try clear q29
           try clear q299
           try clear q3
           try clear q30
           try clear q301
           try clear q317
           obtain ⟨kq, x91_39, rfl, HA, HJ39, HO_299000, HO_299001, HO_313000, HO_313001, BK298, BK312, HB⟩ := hcut
           cases kq with
           | zero => exact absurd HA.out (by simp [sRoom.j3])
           | succ kj39 =>
            have H := HA.out
            clear HA
            simp only [sRoom.j3] at H
            by_cases c64 : x91_39 = true
            ·subst c64
             have H1 : (some false) = some r := by rw [if_pos rfl] at H; exact H
             clear H
             have H := H1
             clear H1
             exact absurd (Option.some.inj H) (by rw [hr.out]; decide)
            ·replace c64 := Bool.eq_false_iff.mpr c64
             subst c64
             have H1 : (sRoom.l0 kj39 l1 a2 t289 ji6 (wrap64 (x10_1 + 1)) t302 t305 t308 t309) = some r := by rw [if_neg (show ¬ (false = true) by decide)] at H; exact H
             clear H
             have H := H1
             clear H1
             have H' := Aside0.mk H
             clear H
             have hnb65 := NB312_298.out
             have hnc65 := NB298_312.out
             have hcz66_0 : wc.cell? ⟨gb312, 0, none⟩ = some (.slice Ao48 t302.length co48) := (blk_cell BK312.out 0).trans rfl
             have hcz66_1 : wc.cell? ⟨gb312, 1, none⟩ = some (.slice Ao50 t305.length co50) := (blk_cell BK312.out 1).trans rfl
             have hcz66_2 : wc.cell? ⟨gb312, 2, none⟩ = some (.int .i64 t308) := (blk_cell BK312.out 2).trans rfl
             have hcz66_3 : wc.cell? ⟨gb312, 3, none⟩ = some (.int .i64 t309) := (blk_cell BK312.out 3).trans rfl
             have hfz66_0 := blk_frozen BK312.out 0
             have hfz66_1 := blk_frozen BK312.out 1
             have hfz66_2 := blk_frozen BK312.out 2
             have hfz66_3 := blk_frozen BK312.out 3
             have hcz67_0 : wc.cell? ⟨gb298, 0, none⟩ = some (.slice Ao42 xq0_1.length co42) := (blk_cell BK298.out 0).trans rfl
             have hcz67_1 : wc.cell? ⟨gb298, 1, none⟩ = some (.slice Ao43 xq1_1.length co43) := (blk_cell BK298.out 1).trans rfl
             have hcz67_2 : wc.cell? ⟨gb298, 2, none⟩ = some (.int .i64 xq2_1) := (blk_cell BK298.out 2).trans rfl
             have hcz67_3 : wc.cell? ⟨gb298, 3, none⟩ = some (.int .i64 xq3_1) := (blk_cell BK298.out 3).trans rfl
             have hfz67_0 := blk_frozen BK298.out 0
             have hfz67_1 := blk_frozen BK298.out 1
             have hfz67_2 := blk_frozen BK298.out 2
             have hfz67_3 := blk_frozen BK298.out 3
             go_wp2
             go_roundg kj39
             case measure => have := HK1.out; have := HJ13.out; have := HJ39.out; omega
             case rel => exact ⟨(wrap64 (x10_1 + 1)), (t302), (t305), (t308), (t309), (.slice Ao48 t302.length co48), (.slice Ao50 t305.length co50), (by first | rfl | (simp; done) | (simp [*]; done)), H', ⟨by have := HK1.out; have := HJ13.out; have := HJ39.out; omega⟩, ⟨by (with_reducible repeat (first | apply Kd.R_alloc | apply Kd.R_drewN | apply Kd.R_drew)); exact Kd.R_mono (Kd.R_far (p := ⟨gb298, 3, none⟩) (Kd.R_far (p := ⟨gb298, 2, none⟩) (Kd.R_far (p := ⟨gb298, 1, none⟩) (Kd.R_far (p := ⟨gb298, 0, none⟩) (Kd.R_types HO_313000.out BK298.out (by decide)) (fun _ hk => hk.2) (.slice Ao48 t302.length co48)) (fun _ hk => hk.2) (.slice Ao50 t305.length co50)) (fun _ hk => hk.2) (.int .i64 t308)) (fun _ hk => hk.2) (.int .i64 t309)) (fun _ hk => trivial)⟩, ⟨by (with_reducible repeat (first | apply Kd.N_alloc | apply Kd.N_drewN | apply Kd.N_drew)); exact Kd.N_mono (Kd.N_far (p := ⟨gb298, 3, none⟩) (Kd.N_far (p := ⟨gb298, 2, none⟩) (Kd.N_far (p := ⟨gb298, 1, none⟩) (Kd.N_far (p := ⟨gb298, 0, none⟩) (Kd.N_mono HO_313001.out (fun k_ hk => (⟨hk, hk.2.2.1⟩ : _ ∧ k_ ≠ gb298))) (fun _ hk => hk.2) (.slice Ao48 t302.length co48)) (fun _ hk => hk.2) (.slice Ao50 t305.length co50)) (fun _ hk => hk.2) (.int .i64 t308)) (fun _ hk => hk.2) (.int .i64 t309)) (fun _ hk => ⟨hk.1.2.1, hk.1.2.2.1⟩)⟩, ⟨by (with_reducible repeat (first | refine blk_drewN ?_ _ | refine blk_drew ?_ | refine blk_alloc ?_ _)); refine blk_put (cs := #[.slice Ao48 t302.length co48, .slice Ao50 t305.length co50, .int .i64 t308, .int .i64 xq3_1]) ?_ 3 _ rfl; (with_reducible repeat (first | refine blk_drewN ?_ _ | refine blk_drew ?_ | refine blk_alloc ?_ _)); refine blk_put (cs := #[.slice Ao48 t302.length co48, .slice Ao50 t305.length co50, .int .i64 xq2_1, .int .i64 xq3_1]) ?_ 2 _ rfl; (with_reducible repeat (first | refine blk_drewN ?_ _ | refine blk_drew ?_ | refine blk_alloc ?_ _)); refine blk_put (cs := #[.slice Ao48 t302.length co48, .slice Ao43 xq1_1.length co43, .int .i64 xq2_1, .int .i64 xq3_1]) ?_ 1 _ rfl; (with_reducible repeat (first | refine blk_drewN ?_ _ | refine blk_drew ?_ | refine blk_alloc ?_ _)); refine blk_put (cs := #[.slice Ao42 xq0_1.length co42, .slice Ao43 xq1_1.length co43, .int .i64 xq2_1, .int .i64 xq3_1]) ?_ 0 _ rfl; (with_reducible repeat (first | refine blk_drewN ?_ _ | refine blk_drew ?_ | refine blk_alloc ?_ _)); exact BK298.out⟩, ⟨by repeat (first | (with_reducible first | exact HB.out | apply below_alloc | apply pw_below_drewN | apply below_drew1 | refine below_set ?_ GE298.out | refine below_set ?_ GE312.out) | exact HB.out)⟩⟩
        ·replace c20 := Bool.eq_false_iff.mpr c20
         subst c20
         have H1 : (some t289) = some r := by rw [if_neg (show ¬ (false = true) by decide)] at H; exact H
         clear H
         have H := H1
         clear H1
         obtain rfl := Option.some.inj H
         have p299 : 0 ≤ (x10_1 : Int) := of_decide_eq_true (by first | (with_reducible assumption) | assumption)
         have q299 : x10_1 < (l1.length : Int) := of_decide_eq_true (by first | (with_reducible assumption) | assumption)
         obtain ⟨ad299, A299_0, c299_0, e299, hx299_0, hl299_0, hi299_0⟩ := at_L7 HR1.out x10_1 p299 q299
         cases e299
         replace hx299_0 := (HB.out.cell (wlt w _ hx299_0)).trans hx299_0
         have HR299_0 := Aside0.mk hi299_0
         have HC299_0 := Aside0.mk hl299_0
         clear hi299_0 hl299_0
         replace p299 := eq_true p299
         replace q299 := eq_true q299
         go_wp2_with (first | ((with_reducible refine gate_callee (f := 11) rfl ?_); refine goesL_ (some 42) rfl rfl Try.func11 (by kernel_rfl) rfl #[.slice A299_0 (rd_L7 l1 x10_1).length c299_0] rfl (by (try simp only [List.map_toArray, List.map_cons, List.map_nil]); first | done | rfl | (simp only [List.length_drop, List.length_take]; rfl)) ?_; (with_reducible refine (cordwoodref10_Few.calls kj13 _ _ (rd_L7 l1 x10_1) false _ ?side1 ?side2 A19.out).mono ?_); (case side1 => repeat (first | exact (Kd.C_below HR299_0.out HB.out) | (with_reducible refine Kd.C_alloc ?_ _) | (with_reducible refine Kd.C_drewN ?_ _) | (with_reducible refine Kd.C_drew ?_))); (case side2 => exact HC299_0.out); rintro e w68 ⟨rfl, hb⟩; refine ⟨_, rfl, ?_⟩; have n0_ := Aside0.mk (Kd.R_below (by (with_reducible repeat (first | apply Kd.R_alloc | apply Kd.R_drewN | apply Kd.R_drew)); exact HO_299000.out) hb); have n1_ := Aside0.mk (Kd.N_below (by (with_reducible repeat (first | apply Kd.N_alloc | apply Kd.N_drewN | apply Kd.N_drew)); exact HO_299001.out) hb); have n2_ := Aside0.mk (blk_below (g := gb298) (o := .cells #[u299000, u299001, .int .i64 xq2_1, .int .i64 xq3_1] 28 (0, 0)) (by (with_reducible repeat (first | refine blk_drewN ?_ _ | refine blk_drew ?_ | refine blk_alloc ?_ _)); exact BK298.out) hb); have n3_ := Aside0.mk (below_step (by repeat (first | (with_reducible first | exact HB.out | apply below_alloc | apply pw_below_drewN | apply below_drew1 | refine below_set ?_ GE298.out) | exact HB.out)) hb); clear HO_299000; clear HO_299001; clear BK298; clear HB; have HO_299000 := n0_; have HO_299001 := n1_; have BK298 := n2_; have HB := n3_; clear n0_ n1_ n2_ n3_; (try clear hb); (try clear hb2); (try clear hk); (try clear hi)))
         go_ret
         exact ⟨by first | rfl | (simp [errW_none, errW_some] <;> rfl) | (simp only [← hji5, ← hji6]; first | rfl | (simp [errW_none, errW_some] <;> rfl)) | (simp [*, errW_none, errW_some] <;> rfl), by repeat (first | (with_reducible first | exact HB.out | apply below_alloc | apply pw_below_drewN | apply below_drew1 | refine below_set ?_ GE298.out) | exact HB.out)⟩
       ·rw [if_neg c18] at H
        exact absurd H (by simp)
      ·rw [if_neg c17] at H
       exact absurd H (by simp)
     ·replace c16 := Bool.eq_false_iff.mpr c16
      subst c16
      have H1 : ((snaps_IDs.f xq0_1 xq1_1 xq2_1 xq3_1).bind fun t319 => (if (t319.length : Int) = 0 then (if t289 = true then (if ji6 = 0 then (some true) else (some ((l1.length : Int) == 0))) else (some false)) else ((snaps_Forget.f kj13 xq0_1 xq1_1 xq2_1 xq3_1 (wrap64 (1 + (Int.tmod (Go.bits .and .i64 a2 65535) (t319.length : Int))))).bind fun bt322 => ((snaps_Keep.f bt322.1 bt322.2.1 bt322.2.2.1 bt322.2.2.2.1 ([] : List (S72))).bind fun bt332 => (if t289 = true then (if (t319.length : Int) = (mn (mn ji6 (l1.length : Int)) 80) then (if bt322.2.2.2.2 = 0 then (if bt332.2.2.2.2.2 = 0 then (some (bt332.2.2.2.2.1 == (wrap64 ((t319.length : Int) + 1)))) else (some false)) else (some false)) else (some false)) else (some false)))))) = some r := by rw [if_neg (show ¬ (false = true) by decide)] at H; exact H
      clear H
      have H := H1
      clear H1
      replace H := Option.bind_eq_some_iff.mp H
      obtain ⟨t319, A690, H⟩ := H
      replace H : (if (t319.length : Int) = 0 then (if t289 = true then (if ji6 = 0 then (some true) else (some ((l1.length : Int) == 0))) else (some false)) else ((snaps_Forget.f kj13 xq0_1 xq1_1 xq2_1 xq3_1 (wrap64 (1 + (Int.tmod (Go.bits .and .i64 a2 65535) (t319.length : Int))))).bind fun bt322 => ((snaps_Keep.f bt322.1 bt322.2.1 bt322.2.2.1 bt322.2.2.2.1 ([] : List (S72))).bind fun bt332 => (if t289 = true then (if (t319.length : Int) = (mn (mn ji6 (l1.length : Int)) 80) then (if bt322.2.2.2.2 = 0 then (if bt332.2.2.2.2.2 = 0 then (some (bt332.2.2.2.2.1 == (wrap64 ((t319.length : Int) + 1)))) else (some false)) else (some false)) else (some false)) else (some false))))) = some r := H
      have A69 := Aside0.mk A690
      clear A690
      by_cases c70 : (t319.length : Int) = 0
      ·rw [if_pos c70] at H
       have c70b0 : ((t319.length : Int) == 0) = true := beq_iff_eq.mpr c70
       have c70b1 : ((t319.length : Int) != 0) = false := bne_eq_false_iff_eq.mpr c70
       clear c70
       by_cases c71 : t289 = true
       ·subst c71
        have H1 : (if ji6 = 0 then (some true) else (some ((l1.length : Int) == 0))) = some r := by rw [if_pos rfl] at H; exact H
        clear H
        have H := H1
        clear H1
        by_cases c72 : ji6 = 0
        ·rw [if_pos c72] at H
         have c72b0 : (ji6 == 0) = true := beq_iff_eq.mpr c72
         have c72b1 : (ji6 != 0) = false := bne_eq_false_iff_eq.mpr c72
         clear c72
         obtain rfl := Option.some.inj H
         have hcz73_0 : wc.cell? ⟨gb298, 0, none⟩ = some (u299000) := (blk_cell BK298.out 0).trans rfl
         have hcz73_1 : wc.cell? ⟨gb298, 1, none⟩ = some (u299001) := (blk_cell BK298.out 1).trans rfl
         have hcz73_2 : wc.cell? ⟨gb298, 2, none⟩ = some (.int .i64 xq2_1) := (blk_cell BK298.out 2).trans rfl
         have hcz73_3 : wc.cell? ⟨gb298, 3, none⟩ = some (.int .i64 xq3_1) := (blk_cell BK298.out 3).trans rfl
         have hfz73_0 := blk_frozen BK298.out 0
         have hfz73_1 := blk_frozen BK298.out 1
         have hfz73_2 := blk_frozen BK298.out 2
         have hfz73_3 := blk_frozen BK298.out 3
         obtain ⟨Ao74, co74, eo74⟩ := Kd.R_slice HO_299000.out
         subst eo74
         obtain ⟨Ao75, co75, eo75⟩ := Kd.N_slice HO_299001.out
         subst eo75
         go_wp2_with (first | ((with_reducible refine gate_callee (f := 15) rfl ?_); refine goesL_ (some 94) rfl rfl Try.func15 (by kernel_rfl) rfl #[.agg #[.slice Ao74 xq0_1.length co74, .slice Ao75 xq1_1.length co75, .int .i64 xq2_1, .int .i64 xq3_1]] rfl (by (try simp only [List.map_toArray, List.map_cons, List.map_nil]); first | done | rfl | (simp only [List.length_drop, List.length_take]; rfl)) ?_; (with_reducible refine (snaps_IDs.calls _ _ xq0_1 _ _ xq1_1 xq2_1 xq3_1 t319 _ ?side1 ?side2 ?side3 ?side4 A69.out).mono ?_); (case side1 => repeat (first | exact (Kd.R_reads' HO_299000.out).2.2 | (with_reducible refine Kd.C_alloc ?_ _) | (with_reducible refine Kd.C_drewN ?_ _) | (with_reducible refine Kd.C_drew ?_))); (case side2 => exact (Kd.R_reads' HO_299000.out).2.1); (case side3 => repeat (first | exact (Kd.N_reads' HO_299001.out).2.2 | (with_reducible refine Kd.C_alloc ?_ _) | (with_reducible refine Kd.C_drewN ?_ _) | (with_reducible refine Kd.C_drew ?_))); (case side4 => exact (Kd.N_reads' HO_299001.out).2.1); rintro e w76 ⟨v320, rfl, ho0, hb⟩; refine ⟨_, rfl, ?_⟩; have n0_ := Aside0.mk (Kd.R_elder' (by (with_reducible repeat (first | apply Kd.R_alloc | apply Kd.R_drewN | apply Kd.R_drew)); exact HO_299000.out) (Kd.R_base ho0) hb); have n1_ := Aside0.mk (Kd.N_elder' (by (with_reducible repeat (first | apply Kd.N_alloc | apply Kd.N_drewN | apply Kd.N_drew)); exact HO_299001.out) (Kd.R_base ho0) hb); have n2_ := Aside0.mk (Kd.R_lower (Kd.R_new' ho0 (Kd.R_lt (by (with_reducible repeat (first | apply Kd.R_alloc | apply Kd.R_drewN | apply Kd.R_drew)); exact HO_299000.out))) (below_size (by repeat (first | (with_reducible first | exact HB.out | apply below_alloc | apply pw_below_drewN | apply below_drew1 | refine below_set ?_ GE298.out) | exact HB.out)))); have n3_ := Aside0.mk (blk_below (g := gb298) (o := .cells #[.slice Ao74 xq0_1.length co74, .slice Ao75 xq1_1.length co75, .int .i64 xq2_1, .int .i64 xq3_1] 28 (0, 0)) (by (with_reducible repeat (first | refine blk_drewN ?_ _ | refine blk_drew ?_ | refine blk_alloc ?_ _)); exact BK298.out) hb); have n4_ := Aside0.mk (below_step (by repeat (first | (with_reducible first | exact HB.out | apply below_alloc | apply pw_below_drewN | apply below_drew1 | refine below_set ?_ GE298.out) | exact HB.out)) hb); clear HO_299000; clear HO_299001; clear BK298; clear HB; have HO_299000 := n0_; have HO_299001 := n1_; have HO321 := n2_; have BK298 := n3_; have HB := n4_; clear n0_ n1_ n2_ n3_ n4_; (try clear hb); (try clear hb2); (try clear hk); (try clear hi); (try clear ho0); obtain ⟨Ao77, co77, eo77⟩ := Kd.R_slice HO321.out; subst eo77))
         go_ret
         exact ⟨by first | rfl | (simp [errW_none, errW_some] <;> rfl) | (simp only [← hji5, ← hji6]; first | rfl | (simp [errW_none, errW_some] <;> rfl)) | (simp [*, errW_none, errW_some] <;> rfl), by repeat (first | (with_reducible first | exact HB.out | apply below_alloc | apply pw_below_drewN | apply below_drew1 | refine below_set ?_ GE298.out) | exact HB.out)⟩
        ·rw [if_neg c72] at H
         have c72b0 : (ji6 == 0) = false := beq_eq_false_iff_ne.mpr c72
         have c72b1 : (ji6 != 0) = true := bne_iff_ne.mpr c72
         obtain rfl := Option.some.inj H
         have hcz78_0 : wc.cell? ⟨gb298, 0, none⟩ = some (u299000) := (blk_cell BK298.out 0).trans rfl
         have hcz78_1 : wc.cell? ⟨gb298, 1, none⟩ = some (u299001) := (blk_cell BK298.out 1).trans rfl
         have hcz78_2 : wc.cell? ⟨gb298, 2, none⟩ = some (.int .i64 xq2_1) := (blk_cell BK298.out 2).trans rfl
         have hcz78_3 : wc.cell? ⟨gb298, 3, none⟩ = some (.int .i64 xq3_1) := (blk_cell BK298.out 3).trans rfl
         have hfz78_0 := blk_frozen BK298.out 0
         have hfz78_1 := blk_frozen BK298.out 1
         have hfz78_2 := blk_frozen BK298.out 2
         have hfz78_3 := blk_frozen BK298.out 3
         obtain ⟨Ao79, co79, eo79⟩ := Kd.R_slice HO_299000.out
         subst eo79
         obtain ⟨Ao80, co80, eo80⟩ := Kd.N_slice HO_299001.out
         subst eo80
         go_wp2_with (first | ((with_reducible refine gate_callee (f := 15) rfl ?_); refine goesL_ (some 94) rfl rfl Try.func15 (by kernel_rfl) rfl #[.agg #[.slice Ao79 xq0_1.length co79, .slice Ao80 xq1_1.length co80, .int .i64 xq2_1, .int .i64 xq3_1]] rfl (by (try simp only [List.map_toArray, List.map_cons, List.map_nil]); first | done | rfl | (simp only [List.length_drop, List.length_take]; rfl)) ?_; (with_reducible refine (snaps_IDs.calls _ _ xq0_1 _ _ xq1_1 xq2_1 xq3_1 t319 _ ?side1 ?side2 ?side3 ?side4 A69.out).mono ?_); (case side1 => repeat (first | exact (Kd.R_reads' HO_299000.out).2.2 | (with_reducible refine Kd.C_alloc ?_ _) | (with_reducible refine Kd.C_drewN ?_ _) | (with_reducible refine Kd.C_drew ?_))); (case side2 => exact (Kd.R_reads' HO_299000.out).2.1); (case side3 => repeat (first | exact (Kd.N_reads' HO_299001.out).2.2 | (with_reducible refine Kd.C_alloc ?_ _) | (with_reducible refine Kd.C_drewN ?_ _) | (with_reducible refine Kd.C_drew ?_))); (case side4 => exact (Kd.N_reads' HO_299001.out).2.1); rintro e w81 ⟨v320, rfl, ho0, hb⟩; refine ⟨_, rfl, ?_⟩; have n0_ := Aside0.mk (Kd.R_elder' (by (with_reducible repeat (first | apply Kd.R_alloc | apply Kd.R_drewN | apply Kd.R_drew)); exact HO_299000.out) (Kd.R_base ho0) hb); have n1_ := Aside0.mk (Kd.N_elder' (by (with_reducible repeat (first | apply Kd.N_alloc | apply Kd.N_drewN | apply Kd.N_drew)); exact HO_299001.out) (Kd.R_base ho0) hb); have n2_ := Aside0.mk (Kd.R_lower (Kd.R_new' ho0 (Kd.R_lt (by (with_reducible repeat (first | apply Kd.R_alloc | apply Kd.R_drewN | apply Kd.R_drew)); exact HO_299000.out))) (below_size (by repeat (first | (with_reducible first | exact HB.out | apply below_alloc | apply pw_below_drewN | apply below_drew1 | refine below_set ?_ GE298.out) | exact HB.out)))); have n3_ := Aside0.mk (blk_below (g := gb298) (o := .cells #[.slice Ao79 xq0_1.length co79, .slice Ao80 xq1_1.length co80, .int .i64 xq2_1, .int .i64 xq3_1] 28 (0, 0)) (by (with_reducible repeat (first | refine blk_drewN ?_ _ | refine blk_drew ?_ | refine blk_alloc ?_ _)); exact BK298.out) hb); have n4_ := Aside0.mk (below_step (by repeat (first | (with_reducible first | exact HB.out | apply below_alloc | apply pw_below_drewN | apply below_drew1 | refine below_set ?_ GE298.out) | exact HB.out)) hb); clear HO_299000; clear HO_299001; clear BK298; clear HB; have HO_299000 := n0_; have HO_299001 := n1_; have HO321 := n2_; have BK298 := n3_; have HB := n4_; clear n0_ n1_ n2_ n3_ n4_; (try clear hb); (try clear hb2); (try clear hk); (try clear hi); (try clear ho0); obtain ⟨Ao82, co82, eo82⟩ := Kd.R_slice HO321.out; subst eo82))
         go_ret
         exact ⟨by first | rfl | (simp [errW_none, errW_some] <;> rfl) | (simp only [← hji5, ← hji6]; first | rfl | (simp [errW_none, errW_some] <;> rfl)) | (simp [*, errW_none, errW_some] <;> rfl), by repeat (first | (with_reducible first | exact HB.out | apply below_alloc | apply pw_below_drewN | apply below_drew1 | refine below_set ?_ GE298.out) | exact HB.out)⟩
       ·replace c71 := Bool.eq_false_iff.mpr c71
        subst c71
        have H1 : (some false) = some r := by rw [if_neg (show ¬ (false = true) by decide)] at H; exact H
        clear H
        have H := H1
        clear H1
        exact absurd (Option.some.inj H) (by rw [hr.out]; decide)
      ·rw [if_neg c70] at H
       have c70b0 : ((t319.length : Int) == 0) = false := beq_eq_false_iff_ne.mpr c70
       have c70b1 : ((t319.length : Int) != 0) = true := bne_iff_ne.mpr c70
       have c70b2 : ¬ (t319 = []) := fun h_ => c70 (by rw [h_]; rfl)
       replace H := Option.bind_eq_some_iff.mp H
       obtain ⟨⟨t322, t325, t328, t329, t330⟩, A880, H⟩ := H
       replace H : ((snaps_Keep.f t322 t325 t328 t329 ([] : List (S72))).bind fun bt332 => (if t289 = true then (if (t319.length : Int) = (mn (mn ji6 (l1.length : Int)) 80) then (if t330 = 0 then (if bt332.2.2.2.2.2 = 0 then (some (bt332.2.2.2.2.1 == (wrap64 ((t319.length : Int) + 1)))) else (some false)) else (some false)) else (some false)) else (some false))) = some r := H
       have A88 := Aside0.mk A880
       clear A880
       replace H := Option.bind_eq_some_iff.mp H
       obtain ⟨⟨t332, t335, t338, t339, t340, t341⟩, A890, H⟩ := H
       replace H : (if t289 = true then (if (t319.length : Int) = (mn (mn ji6 (l1.length : Int)) 80) then (if t330 = 0 then (if t341 = 0 then (some (t340 == (wrap64 ((t319.length : Int) + 1)))) else (some false)) else (some false)) else (some false)) else (some false)) = some r := H
       have A89 := Aside0.mk A890
       clear A890
       by_cases c90 : t289 = true
       ·subst c90
        have H1 : (if (t319.length : Int) = (mn (mn ji6 (l1.length : Int)) 80) then (if t330 = 0 then (if t341 = 0 then (some (t340 == (wrap64 ((t319.length : Int) + 1)))) else (some false)) else (some false)) else (some false)) = some r := by rw [if_pos rfl] at H; exact H
        clear H
        have H := H1
        clear H1
        obtain ⟨ji91, hji91⟩ : ∃ j_ : Int, (mn ji6 (l1.length : Int)) = j_ := ⟨_, rfl⟩
        replace H : (if (t319.length : Int) = (mn (ji91) 80) then (if t330 = 0 then (if t341 = 0 then (some (t340 == (wrap64 ((t319.length : Int) + 1)))) else (some false)) else (some false)) else (some false)) = some r := by first | (rw [hji91] at H; exact H) | (simp only [hji91] at H ⊢; exact H)
        (try rw [hji91] at A69)
        (try rw [hji91] at A88)
        (try rw [hji91] at A89)
        have hji91_ : (if (l1.length : Int) < ji6 then (l1.length : Int) else ji6) = ji91 := hji91
        obtain ⟨ji92, hji92⟩ : ∃ j_ : Int, (mn (ji91) 80) = j_ := ⟨_, rfl⟩
        replace H : (if (t319.length : Int) = (ji92) then (if t330 = 0 then (if t341 = 0 then (some (t340 == (wrap64 ((t319.length : Int) + 1)))) else (some false)) else (some false)) else (some false)) = some r := by first | (rw [hji92] at H; exact H) | (simp only [hji92] at H ⊢; exact H)
        (try rw [hji92] at A69)
        (try rw [hji92] at A88)
        (try rw [hji92] at A89)
        have hji92_ : (if 80 < (ji91) then 80 else (ji91)) = ji92 := hji92
        by_cases c93 : (t319.length : Int) = (ji92)
        ·rw [if_pos c93] at H
         have c93b0 : ((t319.length : Int) == (ji92)) = true := beq_iff_eq.mpr c93
         have c93b1 : ((t319.length : Int) != (ji92)) = false := bne_eq_false_iff_eq.mpr c93
         clear c93
         by_cases c94 : t330 = 0
         ·rw [if_pos c94] at H
          have c94b0 : (t330 == 0) = true := beq_iff_eq.mpr c94
          have c94b1 : (t330 != 0) = false := bne_eq_false_iff_eq.mpr c94
          clear c94
          by_cases c95 : t341 = 0
          ·rw [if_pos c95] at H
           have c95b0 : (t341 == 0) = true := beq_iff_eq.mpr c95
           have c95b1 : (t341 != 0) = false := bne_eq_false_iff_eq.mpr c95
           clear c95
           obtain rfl := Option.some.inj H
           have hcz96_0 : wc.cell? ⟨gb298, 0, none⟩ = some (u299000) := (blk_cell BK298.out 0).trans rfl
           have hcz96_1 : wc.cell? ⟨gb298, 1, none⟩ = some (u299001) := (blk_cell BK298.out 1).trans rfl
           have hcz96_2 : wc.cell? ⟨gb298, 2, none⟩ = some (.int .i64 xq2_1) := (blk_cell BK298.out 2).trans rfl
           have hcz96_3 : wc.cell? ⟨gb298, 3, none⟩ = some (.int .i64 xq3_1) := (blk_cell BK298.out 3).trans rfl
           have hfz96_0 := blk_frozen BK298.out 0
           have hfz96_1 := blk_frozen BK298.out 1
           have hfz96_2 := blk_frozen BK298.out 2
           have hfz96_3 := blk_frozen BK298.out 3
           obtain ⟨Ao97, co97, eo97⟩ := Kd.R_slice HO_299000.out
           subst eo97
           obtain ⟨Ao98, co98, eo98⟩ := Kd.N_slice HO_299001.out
           subst eo98
           try go_wp2_with (first | ((with_reducible refine gate_callee (f := 15) rfl ?_); refine goesL_ (some 94) rfl rfl Try.func15 (by kernel_rfl) rfl #[.agg #[.slice Ao97 xq0_1.length co97, .slice Ao98 xq1_1.length co98, .int .i64 xq2_1, .int .i64 xq3_1]] rfl (by (try simp only [List.map_toArray, List.map_cons, List.map_nil]); first | done | rfl | (simp only [List.length_drop, List.length_take]; rfl)) ?_; (with_reducible refine (snaps_IDs.calls _ _ xq0_1 _ _ xq1_1 xq2_1 xq3_1 t319 _ ?side1 ?side2 ?side3 ?side4 A69.out).mono ?_); (case side1 => repeat (first | exact (Kd.R_reads' HO_299000.out).2.2 | (with_reducible refine Kd.C_alloc ?_ _) | (with_reducible refine Kd.C_drewN ?_ _) | (with_reducible refine Kd.C_drew ?_))); (case side2 => exact (Kd.R_reads' HO_299000.out).2.1); (case side3 => repeat (first | exact (Kd.N_reads' HO_299001.out).2.2 | (with_reducible refine Kd.C_alloc ?_ _) | (with_reducible refine Kd.C_drewN ?_ _) | (with_reducible refine Kd.C_drew ?_))); (case side4 => exact (Kd.N_reads' HO_299001.out).2.1); rintro e w99 ⟨v320, rfl, ho0, hb⟩; refine ⟨_, rfl, ?_⟩; have n0_ := Aside0.mk (Kd.R_elder' (by (with_reducible repeat (first | apply Kd.R_alloc | apply Kd.R_drewN | apply Kd.R_drew)); exact HO_299000.out) (Kd.R_base ho0) hb); have n1_ := Aside0.mk (Kd.N_elder' (by (with_reducible repeat (first | apply Kd.N_alloc | apply Kd.N_drewN | apply Kd.N_drew)); exact HO_299001.out) (Kd.R_base ho0) hb); have n2_ := Aside0.mk (Kd.R_lower (Kd.R_new' ho0 (Kd.R_lt (by (with_reducible repeat (first | apply Kd.R_alloc | apply Kd.R_drewN | apply Kd.R_drew)); exact HO_299000.out))) (below_size (by repeat (first | (with_reducible first | exact HB.out | apply below_alloc | apply pw_below_drewN | apply below_drew1 | refine below_set ?_ GE298.out) | exact HB.out)))); have n3_ := Aside0.mk (blk_below (g := gb298) (o := .cells #[.slice Ao97 xq0_1.length co97, .slice Ao98 xq1_1.length co98, .int .i64 xq2_1, .int .i64 xq3_1] 28 (0, 0)) (by (with_reducible repeat (first | refine blk_drewN ?_ _ | refine blk_drew ?_ | refine blk_alloc ?_ _)); exact BK298.out) hb); have n4_ := Aside0.mk (below_step (by repeat (first | (with_reducible first | exact HB.out | apply below_alloc | apply pw_below_drewN | apply below_drew1 | refine below_set ?_ GE298.out) | exact HB.out)) hb); clear HO_299000; clear HO_299001; clear BK298; clear HB; have HO_299000 := n0_; have HO_299001 := n1_; have HO321 := n2_; have BK298 := n3_; have HB := n4_; clear n0_ n1_ n2_ n3_ n4_; (try clear hb); (try clear hb2); (try clear hk); (try clear hi); (try clear ho0); obtain ⟨Ao100, co100, eo100⟩ := Kd.R_slice HO321.out; subst eo100))
           have n0_ := Aside0.mk (Kd.R_drew HO_299000.out)
           have n1_ := Aside0.mk (Kd.N_drew HO_299001.out)
           have n2_ := Aside0.mk (Kd.R_drew HO321.out)
           have n3_ := Aside0.mk (blk_drew BK298.out)
           have n4_ := Aside0.mk (below_drew1 HB.out)
           clear HO_299000
           clear HO_299001
           clear HO321
           clear BK298
           clear HB
           have HO_299000 := n0_
           have HO_299001 := n1_
           have HO321 := n2_
           have BK298 := n3_
           have HB := n4_
           clear n0_ n1_ n2_ n3_ n4_
           refine start_ (n := 13) (S := fun w' => w'.cell? ⟨gb298, 0, none⟩ = some (.slice Ao97 xq0_1.length co97) ∧ w'.cell? ⟨gb298, 1, none⟩ = some (.slice Ao98 xq1_1.length co98) ∧ w'.cell? ⟨gb298, 2, none⟩ = some (.int .i64 xq2_1) ∧ w'.cell? ⟨gb298, 3, none⟩ = some (.int .i64 xq3_1)) (ds := []) #[false, false, false, false, false, false, false, false, false, false, false, false, false] (by kernel_rfl) rfl rfl ⟨(blk_cell BK298.out 0).trans rfl, (blk_cell BK298.out 1).trans rfl, (blk_cell BK298.out 2).trans rfl, (blk_cell BK298.out 3).trans rfl⟩ (fun hHeld => ?_); refine with_tabW sRoom.tab20 sRoom.bits20 (fun HT_ HW_ => ?_)
           generalize w99.drew = w101 at HO_299000 HO_299001 HO321 BK298 HB hHeld ⊢
           refine pure_ (i := 1) (N := some 110) (v := ?_) (a' := ?_) #[false, true, false, false, false, false, false, false, false, false, false, false, false] rfl rfl (any_of HT_.out (by kernel_rfl)) (fun _ _ _ h => h) (Or.inl ⟨by rfl, ?_⟩) ?_ ?_
           rotate_left
           ·intro w'
            go_simp
            with_reducible rfl
           rotate_left
           ·simp only [Act.put, List.setIfInBounds_toArray, List.set_cons_zero, List.set_cons_succ, i64_w, i32_w]
            rfl
           refine pure_ (i := 2) (N := some 111) (v := ?_) (a' := ?_) #[false, true, true, false, false, false, false, false, false, false, false, false, false] rfl rfl (any_of HT_.out (by kernel_rfl)) (fun _ _ _ h => h) (Or.inl ⟨by rfl, ?_⟩) ?_ ?_
           rotate_left
           ·intro w'
            go_simp
            with_reducible rfl
           rotate_left
           ·simp only [Act.put, List.setIfInBounds_toArray, List.set_cons_zero, List.set_cons_succ, i64_w, i32_w]
            rfl
           refine pure_ (i := 3) (N := some 112) (v := ?_) (a' := ?_) #[false, true, true, true, false, false, false, false, false, false, false, false, false] rfl rfl (any_of HT_.out (by kernel_rfl)) (fun _ _ _ h => h) (Or.inl ⟨by rfl, ?_⟩) ?_ ?_
           rotate_left
           ·intro w'
            go_simp
            with_reducible rfl
           rotate_left
           ·simp only [Act.put, List.setIfInBounds_toArray, List.set_cons_zero, List.set_cons_succ, i64_w, i32_w]
            rfl
           refine pure_ (i := 4) (N := some 113) (v := ?_) (a' := ?_) #[false, true, true, true, true, false, false, false, false, false, false, false, false] rfl rfl (any_of HT_.out (by kernel_rfl)) (fun _ _ _ h => h) (Or.inl ⟨by rfl, ?_⟩) ?_ ?_
           rotate_left
           ·intro w'
            go_simp
            with_reducible rfl
           rotate_left
           ·simp only [Act.put, List.setIfInBounds_toArray, List.set_cons_zero, List.set_cons_succ, i64_w, i32_w]
            rfl
           refine pure_ (i := 5) (N := some 114) (v := ?_) (a' := ?_) #[false, true, true, true, true, true, false, false, false, false, false, false, false] rfl rfl (any_of HT_.out (by kernel_rfl)) (fun _ _ _ h => h) (Or.inl ⟨by rfl, ?_⟩) ?_ ?_
           rotate_left
           ·intro w'
            go_simp
            with_reducible rfl
           rotate_left
           ·simp only [Act.put, List.setIfInBounds_toArray, List.set_cons_zero, List.set_cons_succ, i64_w, i32_w]
            rfl
           refine take_ (i := 0) (N := some 109) (v := ?_) (a' := ?_) #[true, true, true, true, true, true, false, false, false, false, false, false, false] rfl rfl (take_ofW HT_.out HW_.out (by kernel_rfl)) (fun _ _ _ h => h) (Or.inl ⟨by rfl, ?_⟩) hHeld ?_ ?_
           rotate_left
           ·rintro w' ⟨s0, s1, s2, s3⟩
            go_simp
            with_reducible rfl
           rotate_left
           ·simp only [Act.put, List.setIfInBounds_toArray, List.set_cons_zero, List.set_cons_succ, i64_w, i32_w]
            rfl
           refine join_ (σ := Value × Value × Nat) 2 #[true, true, true, true, true, true, true, true, true, true, true, false, false] (fun s_ => [(115, .tuple #[.agg #[s_.1, s_.2.1, .int .i64 t328, .int .i64 t329], .int .i64 t330]), (17, .pointer (some ⟨s_.2.2, 0, none⟩)), (108, .tuple #[.agg #[s_.1, s_.2.1, .int .i64 t328, .int .i64 t329], .int .i64 t330]), (116, .agg #[s_.1, s_.2.1, .int .i64 t328, .int .i64 t329]), (117, .int .i64 t330)]) (fun s_ w' => (w'.cell? ⟨gb298, 0, none⟩ = some (.slice Ao97 xq0_1.length co97) ∧ w'.cell? ⟨gb298, 1, none⟩ = some (.slice Ao98 xq1_1.length co98) ∧ w'.cell? ⟨gb298, 2, none⟩ = some (.int .i64 xq2_1) ∧ w'.cell? ⟨gb298, 3, none⟩ = some (.int .i64 xq3_1)) ∧ (Kd.R (Kd.int .i64) 3 w' w.heap.size (fun k_ => some k_ ≠ (s_.1 : Value).ownBlock ∧ some k_ ≠ (.slice Ao97 xq0_1.length co97 : Value).ownBlock) (.slice Ao100 t319.length co100) t319) ∧ (Kd.R (Kd.int .i64) 3 w' w.heap.size (fun k_ => some k_ ≠ (.slice Ao100 t319.length co100 : Value).ownBlock ∧ some k_ ≠ (.slice Ao97 xq0_1.length co97 : Value).ownBlock) s_.1 t322) ∧ (Kd.N (Kd.slice 72 k72) 31 w' w.heap.size (fun k_ => some k_ ≠ (.slice Ao100 t319.length co100 : Value).ownBlock ∧ some k_ ≠ (s_.1 : Value).ownBlock ∧ some k_ ≠ (.slice Ao97 xq0_1.length co97 : Value).ownBlock ∧ k_ ≠ gb298 ∧ k_ ≠ s_.2.2) s_.2.1 t325) ∧ (Kd.R (Kd.int .i64) 3 w' w.heap.size (fun k_ => some k_ ≠ (.slice Ao100 t319.length co100 : Value).ownBlock ∧ some k_ ≠ (s_.1 : Value).ownBlock) (.slice Ao97 xq0_1.length co97) xq0_1) ∧ (Kd.N (Kd.slice 72 k72) 31 w' w.heap.size (fun k_ => some k_ ≠ (.slice Ao100 t319.length co100 : Value).ownBlock ∧ some k_ ≠ (s_.1 : Value).ownBlock ∧ some k_ ≠ (s_.2.1 : Value).ownBlock ∧ some k_ ≠ (.slice Ao97 xq0_1.length co97 : Value).ownBlock ∧ k_ ≠ gb298 ∧ k_ ≠ s_.2.2) (.slice Ao98 xq1_1.length co98) xq1_1) ∧ (w'.heap[gb298]? = some (.cells #[.slice Ao97 xq0_1.length co97, .slice Ao98 xq1_1.length co98, .int .i64 xq2_1, .int .i64 xq3_1] 28 (0, 0))) ∧ (w'.heap[s_.2.2]? = some (.cells #[.slice none 0 0, .slice none 0 0, .int .i64 0, .int .i64 0] 28 (0, 0))) ∧ (w.heap.size ≤ s_.2.2) ∧ (w.heap.size ≤ s_.2.2) ∧ (gb298 ≠ s_.2.2) ∧ (s_.2.2 ≠ gb298) ∧ (Below w.heap.size w w')) ?_ ?_
           rotate_left
           ·intro hCont
            refine two_ (i := 6) (j := 10) (Ni := some 115) (Nj := some 17) #[true, true, true, true, true, true, true, false, false, false, false, false, false] #[true, true, true, true, true, true, false, false, false, false, true, false, false] rfl rfl rfl rfl (two_of HT_.out (by kernel_rfl)) (by decide) (by decide) (fun K hK => ?_) (fun K hK => ?_)
            ·skip
             refine goes_ Try.func16 (by kernel_rfl) rfl #[.agg #[.slice Ao97 xq0_1.length co97, .slice Ao98 xq1_1.length co98, .int .i64 xq2_1, .int .i64 xq3_1], .int .i64 (wrap64 (1 + (Int.tmod (Go.bits .and .i64 a2 65535) (t319.length : Int))))] (by rfl) rfl rfl (by (try simp only [List.map_toArray, List.map_cons, List.map_nil]); first | done | rfl | (simp only [List.length_drop, List.length_take]; rfl)) ?_
             with_reducible refine (snaps_Forget.calls kj13 _ _ xq0_1 (fun k_ => ((some k_ ≠ (.slice Ao97 xq0_1.length co97 : Value).ownBlock ∧ k_ ≠ gb298) ∧ some k_ ≠ (.slice Ao100 t319.length co100 : Value).ownBlock)) _ _ xq1_1 xq2_1 xq3_1 (wrap64 (1 + (Int.tmod (Go.bits .and .i64 a2 65535) (t319.length : Int)))) t322 t325 t328 t329 t330 _ ?side1 ?side2 ?side3 A88.out).mono ?_
             (case side1 => repeat (first | exact (Kd.R_reads' HO_299000.out).2.2 | (with_reducible refine Kd.C_alloc ?_ _) | (with_reducible refine Kd.C_drewN ?_ _) | (with_reducible refine Kd.C_drew ?_)))
             (case side2 => exact (Kd.R_reads' HO_299000.out).2.1)
             (case side3 => exact Kd.N_V (HO_299001.out))
             rintro e w102 ⟨v323, v326, rfl, ho0, ho1, hb⟩
             refine ⟨_, rfl, ?_⟩
             have n0_ := Aside0.mk (Kd.R_elder' (by (with_reducible repeat (first | apply Kd.R_alloc | apply Kd.R_drewN | apply Kd.R_drew)); exact HO_299000.out) (Kd.R_base ho0) hb)
             have n1_ := Aside0.mk (Kd.N_mono (Kd.N_told (Kd.N_told (Kd.N_old (by (with_reducible repeat (first | apply Kd.N_alloc | apply Kd.N_drewN | apply Kd.N_drew)); exact HO_299001.out) hb) (Kd.R_base ho0)) (Kd.N_base ho1)) (fun _ h_ => h_.1))
             have n2_ := Aside0.mk (Kd.R_elder' (by (with_reducible repeat (first | apply Kd.R_alloc | apply Kd.R_drewN | apply Kd.R_drew)); exact HO321.out) (Kd.R_base ho0) hb)
             have n3_ := Aside0.mk (Kd.R_lower (Kd.R_new' (Kd.R_new' (Kd.R_mono (ok' := fun k_ => True) ho0 (fun _ hk_ => trivial)) (Kd.R_lt (by (with_reducible repeat (first | apply Kd.R_alloc | apply Kd.R_drewN | apply Kd.R_drew)); exact HO_299000.out))) (Kd.R_lt (by (with_reducible repeat (first | apply Kd.R_alloc | apply Kd.R_drewN | apply Kd.R_drew)); exact HO321.out))) (below_size (by repeat (first | (with_reducible first | exact HB.out | apply below_alloc | apply pw_below_drewN | apply below_drew1 | refine below_set ?_ GE298.out) | exact HB.out))))
             have n4_ := Aside0.mk (Kd.N_lower (Kd.N_mono (ok' := fun k_ => some k_ ≠ (v323 : Value).ownBlock ∧ some k_ ≠ (.slice Ao97 xq0_1.length co97 : Value).ownBlock ∧ some k_ ≠ (.slice Ao100 t319.length co100 : Value).ownBlock ∧ k_ ≠ gb298) ho1 (fun k_ hk_ => ⟨hk_.2, Or.elim hk_.1 (fun hs_ => hs_.1.1) (fun hn_ => (Kd.fresh' (Kd.R_lt (by (with_reducible repeat (first | apply Kd.R_alloc | apply Kd.R_drewN | apply Kd.R_drew)); exact HO_299000.out)) k_ hn_)), Or.elim hk_.1 (fun hs_ => hs_.2) (fun hn_ => (Kd.fresh' (Kd.R_lt (by (with_reducible repeat (first | apply Kd.R_alloc | apply Kd.R_drewN | apply Kd.R_drew)); exact HO321.out)) k_ hn_)), Or.elim hk_.1 (fun hs_ => hs_.1.2) (fun hn_ => (Kd.freshB (g := gb298) (o := .cells #[.slice Ao97 xq0_1.length co97, .slice Ao98 xq1_1.length co98, .int .i64 xq2_1, .int .i64 xq3_1] 28 (0, 0)) (by (with_reducible repeat (first | refine blk_drewN ?_ _ | refine blk_drew ?_ | refine blk_alloc ?_ _)); exact BK298.out) k_ hn_))⟩)) (below_size (by repeat (first | (with_reducible first | exact HB.out | apply below_alloc | apply pw_below_drewN | apply below_drew1 | refine below_set ?_ GE298.out) | exact HB.out))))
             have n5_ := Aside0.mk (blk_below (g := gb298) (o := .cells #[.slice Ao97 xq0_1.length co97, .slice Ao98 xq1_1.length co98, .int .i64 xq2_1, .int .i64 xq3_1] 28 (0, 0)) (by (with_reducible repeat (first | refine blk_drewN ?_ _ | refine blk_drew ?_ | refine blk_alloc ?_ _)); exact BK298.out) hb)
             have n6_ := Aside0.mk (below_step (by repeat (first | (with_reducible first | exact HB.out | apply below_alloc | apply pw_below_drewN | apply below_drew1 | refine below_set ?_ GE298.out) | exact HB.out)) hb)
             clear HO_299000
             clear HO_299001
             clear HO321
             clear BK298
             clear HB
             have HO_299000 := n0_
             have HO_299001 := n1_
             have HO321 := n2_
             have HO324 := n3_
             have HO327 := n4_
             have BK298 := n5_
             have HB := n6_
             clear n0_ n1_ n2_ n3_ n4_ n5_ n6_
             (try clear hb)
             (try clear hb2)
             (try clear hk)
             (try clear hi)
             (try clear ho0)
             (try clear ho1)
             refine hK.out _ _ ⟨(blk_cell BK298.out 0).trans rfl, (blk_cell BK298.out 1).trans rfl, (blk_cell BK298.out 2).trans rfl, (blk_cell BK298.out 3).trans rfl⟩ (fun hHeld => ?_)
             clear hK K
             refine norm_ (a' := ?_) ?_ ?_
             rotate_left
             ·show Act.put _ (some 115) _ = _
              simp only [Act.put, List.setIfInBounds_toArray, List.set_cons_zero, List.set_cons_succ, i64_w, i32_w]
              rfl
             refine pure_ (i := 7) (N := some 108) (v := ?_) (a' := ?_) #[true, true, true, true, true, true, true, true, false, false, false, false, false] rfl rfl (any_of HT_.out (by kernel_rfl)) (fun _ _ _ h => h) (Or.inl ⟨by rfl, ?_⟩) ?_ ?_
             rotate_left
             ·intro w'
              go_simp
              with_reducible rfl
             rotate_left
             ·simp only [Act.put, List.setIfInBounds_toArray, List.set_cons_zero, List.set_cons_succ, i64_w, i32_w]
              rfl
             refine pure_ (i := 8) (N := some 116) (v := ?_) (a' := ?_) #[true, true, true, true, true, true, true, true, true, false, false, false, false] rfl rfl (any_of HT_.out (by kernel_rfl)) (fun _ _ _ h => h) (Or.inl ⟨by rfl, ?_⟩) ?_ ?_
             rotate_left
             ·intro w'
              go_simp
              with_reducible rfl
             rotate_left
             ·simp only [Act.put, List.setIfInBounds_toArray, List.set_cons_zero, List.set_cons_succ, i64_w, i32_w]
              rfl
             refine pure_ (i := 9) (N := some 117) (v := ?_) (a' := ?_) #[true, true, true, true, true, true, true, true, true, true, false, false, false] rfl rfl (any_of HT_.out (by kernel_rfl)) (fun _ _ _ h => h) (Or.inl ⟨by rfl, ?_⟩) ?_ ?_
             rotate_left
             ·intro w'
              go_simp
              with_reducible rfl
             rotate_left
             ·simp only [Act.put, List.setIfInBounds_toArray, List.set_cons_zero, List.set_cons_succ, i64_w, i32_w]
              rfl
             refine one_ (i := 10) (N := some 17) #[true, true, true, true, true, true, true, true, true, true, true, false, false] rfl rfl (one_of HT_.out (by kernel_rfl)) (by decide) (fun K hK => ?_)
             refine box_step ?hg (N := 17) ?hd (cs := #[.slice none 0 0, .slice none 0 0, .int .i64 0, .int .i64 0]) (t := 28) ?hr ?_; (case hd => rfl); (case hg => rfl); (case hr => first | (go_simp; done) | (go_simp; rfl))
             intro gb331 hg w103 hbox hb
             have n0_ := Aside0.mk (Kd.R_below (by (with_reducible repeat (first | apply Kd.R_alloc | apply Kd.R_drewN | apply Kd.R_drew)); exact HO_299000.out) hb)
             have n1_ := Aside0.mk (Kd.N_below (Kd.N_elderB (by (with_reducible repeat (first | apply Kd.N_alloc | apply Kd.N_drewN | apply Kd.N_drew)); exact HO_299001.out) gb331 (Nat.le_of_eq hg.symm)) hb)
             have n2_ := Aside0.mk (Kd.R_below (by (with_reducible repeat (first | apply Kd.R_alloc | apply Kd.R_drewN | apply Kd.R_drew)); exact HO321.out) hb)
             have n3_ := Aside0.mk (Kd.R_below (by (with_reducible repeat (first | apply Kd.R_alloc | apply Kd.R_drewN | apply Kd.R_drew)); exact HO324.out) hb)
             have n4_ := Aside0.mk (Kd.N_below (Kd.N_elderB (by (with_reducible repeat (first | apply Kd.N_alloc | apply Kd.N_drewN | apply Kd.N_drew)); exact HO327.out) gb331 (Nat.le_of_eq hg.symm)) hb)
             have n5_ := Aside0.mk (blk_below (g := gb298) (o := .cells #[.slice Ao97 xq0_1.length co97, .slice Ao98 xq1_1.length co98, .int .i64 xq2_1, .int .i64 xq3_1] 28 (0, 0)) (by (with_reducible repeat (first | refine blk_drewN ?_ _ | refine blk_drew ?_ | refine blk_alloc ?_ _)); exact BK298.out) hb)
             have n6_ := Aside0.mk (below_step (by repeat (first | (with_reducible first | exact HB.out | apply below_alloc | apply pw_below_drewN | apply below_drew1 | refine below_set ?_ GE298.out) | exact HB.out)) hb)
             have n7_ := Aside0.mk (hbox)
             have n8_ := Aside0.mk ((by rw [hg]; exact (below_size (by repeat (first | (with_reducible first | exact HB.out | apply below_alloc | apply pw_below_drewN | apply below_drew1 | refine below_set ?_ GE298.out) | exact HB.out))) : w.heap.size ≤ gb331))
             have n9_ := Aside0.mk ((by rw [hg]; exact (below_size (by repeat (first | (with_reducible first | exact HB.out | apply below_alloc | apply pw_below_drewN | apply below_drew1 | refine below_set ?_ GE298.out) | exact HB.out))) : w.heap.size ≤ gb331))
             have n10_ := Aside0.mk ((by rw [hg]; exact Nat.ne_of_lt (blk_lt (g := gb298) (o := .cells #[.slice Ao97 xq0_1.length co97, .slice Ao98 xq1_1.length co98, .int .i64 xq2_1, .int .i64 xq3_1] 28 (0, 0)) (by (with_reducible repeat (first | refine blk_drewN ?_ _ | refine blk_drew ?_ | refine blk_alloc ?_ _)); exact BK298.out)) : gb298 ≠ gb331))
             have n11_ := Aside0.mk ((by rw [hg]; exact Nat.ne_of_gt (blk_lt (g := gb298) (o := .cells #[.slice Ao97 xq0_1.length co97, .slice Ao98 xq1_1.length co98, .int .i64 xq2_1, .int .i64 xq3_1] 28 (0, 0)) (by (with_reducible repeat (first | refine blk_drewN ?_ _ | refine blk_drew ?_ | refine blk_alloc ?_ _)); exact BK298.out)) : gb331 ≠ gb298))
             clear HO_299000
             clear HO_299001
             clear HO321
             clear HO324
             clear HO327
             clear BK298
             clear HB
             have HO_299000 := n0_
             have HO_299001 := n1_
             have HO321 := n2_
             have HO324 := n3_
             have HO327 := n4_
             have BK298 := n5_
             have HB := n6_
             have BK331 := n7_
             have GW331 := n8_
             have GE331 := n9_
             have NB298_331 := n10_
             have NB331_298 := n11_
             clear n0_ n1_ n2_ n3_ n4_ n5_ n6_ n7_ n8_ n9_ n10_ n11_
             clear hb hbox hg
             refine hK.out _ _ ⟨(blk_cell BK298.out 0).trans rfl, (blk_cell BK298.out 1).trans rfl, (blk_cell BK298.out 2).trans rfl, (blk_cell BK298.out 3).trans rfl⟩ (fun hHeld => ?_)
             clear hK K
             refine norm_ (a' := ?_) ?_ ?_
             rotate_left
             ·show Act.put _ (some 17) _ = _
              simp only [Act.put, List.setIfInBounds_toArray, List.set_cons_zero, List.set_cons_succ, i64_w, i32_w]
              rfl
             exact norm_ (by simp only [putAll, Act.put, List.setIfInBounds_toArray, List.set_cons_zero, List.set_cons_succ]) (hCont (v323, v326, gb331) _ ⟨hHeld, (by (with_reducible repeat (first | apply Kd.R_alloc | apply Kd.R_drewN | apply Kd.R_drew)); exact Kd.R_mono HO321.out (fun _ hk => ⟨hk.2, hk.1.2⟩)), (by (with_reducible repeat (first | apply Kd.R_alloc | apply Kd.R_drewN | apply Kd.R_drew)); exact Kd.R_mono HO324.out (fun _ hk => ⟨hk.2, hk.1.2⟩)), (by (with_reducible repeat (first | apply Kd.N_alloc | apply Kd.N_drewN | apply Kd.N_drew)); exact Kd.N_mono HO327.out (fun _ hk => ⟨hk.1.2.2.1, ⟨hk.1.1, ⟨hk.1.2.1, ⟨hk.1.2.2.2, hk.2⟩⟩⟩⟩)), (by (with_reducible repeat (first | apply Kd.R_alloc | apply Kd.R_drewN | apply Kd.R_drew)); exact Kd.R_mono HO_299000.out (fun _ hk => ⟨hk.1.2, hk.2⟩)), (by (with_reducible repeat (first | apply Kd.N_alloc | apply Kd.N_drewN | apply Kd.N_drew)); exact Kd.N_mono HO_299001.out (fun _ hk => ⟨hk.1.1.1.2, ⟨hk.1.1.2, ⟨hk.1.2, ⟨hk.1.1.1.1.1, ⟨hk.1.1.1.1.2, hk.2⟩⟩⟩⟩⟩)), (by (with_reducible repeat (first | refine blk_drewN ?_ _ | refine blk_drew ?_ | refine blk_alloc ?_ _)); exact BK298.out), (by (with_reducible repeat (first | refine blk_drewN ?_ _ | refine blk_drew ?_ | refine blk_alloc ?_ _)); exact BK331.out), GW331.out, GE331.out, NB298_331.out, NB331_298.out, (by repeat (first | (with_reducible first | exact HB.out | apply below_alloc | apply pw_below_drewN | apply below_drew1 | refine below_set ?_ GE298.out | refine below_set ?_ GE331.out) | exact HB.out))⟩)
            ·skip
             refine box_step ?hg (N := 17) ?hd (cs := #[.slice none 0 0, .slice none 0 0, .int .i64 0, .int .i64 0]) (t := 28) ?hr ?_; (case hd => rfl); (case hg => rfl); (case hr => first | (go_simp; done) | (go_simp; rfl))
             intro gb331 hg w102 hbox hb
             have n0_ := Aside0.mk (Kd.R_below (by (with_reducible repeat (first | apply Kd.R_alloc | apply Kd.R_drewN | apply Kd.R_drew)); exact HO_299000.out) hb)
             have n1_ := Aside0.mk (Kd.N_below (Kd.N_elderB (by (with_reducible repeat (first | apply Kd.N_alloc | apply Kd.N_drewN | apply Kd.N_drew)); exact HO_299001.out) gb331 (Nat.le_of_eq hg.symm)) hb)
             have n2_ := Aside0.mk (Kd.R_below (by (with_reducible repeat (first | apply Kd.R_alloc | apply Kd.R_drewN | apply Kd.R_drew)); exact HO321.out) hb)
             have n3_ := Aside0.mk (blk_below (g := gb298) (o := .cells #[.slice Ao97 xq0_1.length co97, .slice Ao98 xq1_1.length co98, .int .i64 xq2_1, .int .i64 xq3_1] 28 (0, 0)) (by (with_reducible repeat (first | refine blk_drewN ?_ _ | refine blk_drew ?_ | refine blk_alloc ?_ _)); exact BK298.out) hb)
             have n4_ := Aside0.mk (below_step (by repeat (first | (with_reducible first | exact HB.out | apply below_alloc | apply pw_below_drewN | apply below_drew1 | refine below_set ?_ GE298.out) | exact HB.out)) hb)
             have n5_ := Aside0.mk (hbox)
             have n6_ := Aside0.mk ((by rw [hg]; exact (below_size (by repeat (first | (with_reducible first | exact HB.out | apply below_alloc | apply pw_below_drewN | apply below_drew1 | refine below_set ?_ GE298.out) | exact HB.out))) : w.heap.size ≤ gb331))
             have n7_ := Aside0.mk ((by rw [hg]; exact (below_size (by repeat (first | (with_reducible first | exact HB.out | apply below_alloc | apply pw_below_drewN | apply below_drew1 | refine below_set ?_ GE298.out) | exact HB.out))) : w.heap.size ≤ gb331))
             have n8_ := Aside0.mk ((by rw [hg]; exact Nat.ne_of_lt (blk_lt (g := gb298) (o := .cells #[.slice Ao97 xq0_1.length co97, .slice Ao98 xq1_1.length co98, .int .i64 xq2_1, .int .i64 xq3_1] 28 (0, 0)) (by (with_reducible repeat (first | refine blk_drewN ?_ _ | refine blk_drew ?_ | refine blk_alloc ?_ _)); exact BK298.out)) : gb298 ≠ gb331))
             have n9_ := Aside0.mk ((by rw [hg]; exact Nat.ne_of_gt (blk_lt (g := gb298) (o := .cells #[.slice Ao97 xq0_1.length co97, .slice Ao98 xq1_1.length co98, .int .i64 xq2_1, .int .i64 xq3_1] 28 (0, 0)) (by (with_reducible repeat (first | refine blk_drewN ?_ _ | refine blk_drew ?_ | refine blk_alloc ?_ _)); exact BK298.out)) : gb331 ≠ gb298))
             clear HO_299000
             clear HO_299001
             clear HO321
             clear BK298
             clear HB
             have HO_299000 := n0_
             have HO_299001 := n1_
             have HO321 := n2_
             have BK298 := n3_
             have HB := n4_
             have BK331 := n5_
             have GW331 := n6_
             have GE331 := n7_
             have NB298_331 := n8_
             have NB331_298 := n9_
             clear n0_ n1_ n2_ n3_ n4_ n5_ n6_ n7_ n8_ n9_
             clear hb hbox hg
             refine hK.out _ _ ⟨(blk_cell BK298.out 0).trans rfl, (blk_cell BK298.out 1).trans rfl, (blk_cell BK298.out 2).trans rfl, (blk_cell BK298.out 3).trans rfl⟩ (fun hHeld => ?_)
             clear hK K
             refine norm_ (a' := ?_) ?_ ?_
             rotate_left
             ·show Act.put _ (some 17) _ = _
              simp only [Act.put, List.setIfInBounds_toArray, List.set_cons_zero, List.set_cons_succ, i64_w, i32_w]
              rfl
             refine one_ (i := 6) (N := some 115) #[true, true, true, true, true, true, true, false, false, false, true, false, false] rfl rfl (one_of HT_.out (by kernel_rfl)) (by decide) (fun K hK => ?_)
             refine goes_ Try.func16 (by kernel_rfl) rfl #[.agg #[.slice Ao97 xq0_1.length co97, .slice Ao98 xq1_1.length co98, .int .i64 xq2_1, .int .i64 xq3_1], .int .i64 (wrap64 (1 + (Int.tmod (Go.bits .and .i64 a2 65535) (t319.length : Int))))] (by rfl) rfl rfl (by (try simp only [List.map_toArray, List.map_cons, List.map_nil]); first | done | rfl | (simp only [List.length_drop, List.length_take]; rfl)) ?_
             with_reducible refine (snaps_Forget.calls kj13 _ _ xq0_1 (fun k_ => (((some k_ ≠ (.slice Ao97 xq0_1.length co97 : Value).ownBlock ∧ k_ ≠ gb298) ∧ some k_ ≠ (.slice Ao100 t319.length co100 : Value).ownBlock) ∧ k_ ≠ gb331)) _ _ xq1_1 xq2_1 xq3_1 (wrap64 (1 + (Int.tmod (Go.bits .and .i64 a2 65535) (t319.length : Int)))) t322 t325 t328 t329 t330 _ ?side1 ?side2 ?side3 A88.out).mono ?_
             (case side1 => repeat (first | exact (Kd.R_reads' HO_299000.out).2.2 | (with_reducible refine Kd.C_alloc ?_ _) | (with_reducible refine Kd.C_drewN ?_ _) | (with_reducible refine Kd.C_drew ?_)))
             (case side2 => exact (Kd.R_reads' HO_299000.out).2.1)
             (case side3 => exact Kd.N_V (HO_299001.out))
             rintro e w103 ⟨v323, v326, rfl, ho0, ho1, hb⟩
             refine ⟨_, rfl, ?_⟩
             have n0_ := Aside0.mk (Kd.R_elder' (by (with_reducible repeat (first | apply Kd.R_alloc | apply Kd.R_drewN | apply Kd.R_drew)); exact HO_299000.out) (Kd.R_base ho0) hb)
             have n1_ := Aside0.mk (Kd.N_mono (Kd.N_told (Kd.N_told (Kd.N_old (by (with_reducible repeat (first | apply Kd.N_alloc | apply Kd.N_drewN | apply Kd.N_drew)); exact HO_299001.out) hb) (Kd.R_base ho0)) (Kd.N_base ho1)) (fun _ h_ => h_.1))
             have n2_ := Aside0.mk (Kd.R_elder' (by (with_reducible repeat (first | apply Kd.R_alloc | apply Kd.R_drewN | apply Kd.R_drew)); exact HO321.out) (Kd.R_base ho0) hb)
             have n3_ := Aside0.mk (Kd.R_lower (Kd.R_new' (Kd.R_new' (Kd.R_mono (ok' := fun k_ => True) ho0 (fun _ hk_ => trivial)) (Kd.R_lt (by (with_reducible repeat (first | apply Kd.R_alloc | apply Kd.R_drewN | apply Kd.R_drew)); exact HO_299000.out))) (Kd.R_lt (by (with_reducible repeat (first | apply Kd.R_alloc | apply Kd.R_drewN | apply Kd.R_drew)); exact HO321.out))) (below_size (by repeat (first | (with_reducible first | exact HB.out | apply below_alloc | apply pw_below_drewN | apply below_drew1 | refine below_set ?_ GE298.out | refine below_set ?_ GE331.out) | exact HB.out))))
             have n4_ := Aside0.mk (Kd.N_lower (Kd.N_mono (ok' := fun k_ => some k_ ≠ (v323 : Value).ownBlock ∧ some k_ ≠ (.slice Ao97 xq0_1.length co97 : Value).ownBlock ∧ some k_ ≠ (.slice Ao100 t319.length co100 : Value).ownBlock ∧ k_ ≠ gb298 ∧ k_ ≠ gb331) ho1 (fun k_ hk_ => ⟨hk_.2, Or.elim hk_.1 (fun hs_ => hs_.1.1.1) (fun hn_ => (Kd.fresh' (Kd.R_lt (by (with_reducible repeat (first | apply Kd.R_alloc | apply Kd.R_drewN | apply Kd.R_drew)); exact HO_299000.out)) k_ hn_)), Or.elim hk_.1 (fun hs_ => hs_.1.2) (fun hn_ => (Kd.fresh' (Kd.R_lt (by (with_reducible repeat (first | apply Kd.R_alloc | apply Kd.R_drewN | apply Kd.R_drew)); exact HO321.out)) k_ hn_)), Or.elim hk_.1 (fun hs_ => hs_.1.1.2) (fun hn_ => (Kd.freshB (g := gb298) (o := .cells #[.slice Ao97 xq0_1.length co97, .slice Ao98 xq1_1.length co98, .int .i64 xq2_1, .int .i64 xq3_1] 28 (0, 0)) (by (with_reducible repeat (first | refine blk_drewN ?_ _ | refine blk_drew ?_ | refine blk_alloc ?_ _)); exact BK298.out) k_ hn_)), Or.elim hk_.1 (fun hs_ => hs_.2) (fun hn_ => (Kd.freshB (g := gb331) (o := .cells #[.slice none 0 0, .slice none 0 0, .int .i64 0, .int .i64 0] 28 (0, 0)) (by (with_reducible repeat (first | refine blk_drewN ?_ _ | refine blk_drew ?_ | refine blk_alloc ?_ _)); exact BK331.out) k_ hn_))⟩)) (below_size (by repeat (first | (with_reducible first | exact HB.out | apply below_alloc | apply pw_below_drewN | apply below_drew1 | refine below_set ?_ GE298.out | refine below_set ?_ GE331.out) | exact HB.out))))
             have n5_ := Aside0.mk (blk_below (g := gb298) (o := .cells #[.slice Ao97 xq0_1.length co97, .slice Ao98 xq1_1.length co98, .int .i64 xq2_1, .int .i64 xq3_1] 28 (0, 0)) (by (with_reducible repeat (first | refine blk_drewN ?_ _ | refine blk_drew ?_ | refine blk_alloc ?_ _)); exact BK298.out) hb)
             have n6_ := Aside0.mk (blk_below (g := gb331) (o := .cells #[.slice none 0 0, .slice none 0 0, .int .i64 0, .int .i64 0] 28 (0, 0)) (by (with_reducible repeat (first | refine blk_drewN ?_ _ | refine blk_drew ?_ | refine blk_alloc ?_ _)); exact BK331.out) hb)
             have n7_ := Aside0.mk (below_step (by repeat (first | (with_reducible first | exact HB.out | apply below_alloc | apply pw_below_drewN | apply below_drew1 | refine below_set ?_ GE298.out | refine below_set ?_ GE331.out) | exact HB.out)) hb)
             clear HO_299000
             clear HO_299001
             clear HO321
             clear BK298
             clear BK331
             clear HB
             have HO_299000 := n0_
             have HO_299001 := n1_
             have HO321 := n2_
             have HO324 := n3_
             have HO327 := n4_
             have BK298 := n5_
             have BK331 := n6_
             have HB := n7_
             clear n0_ n1_ n2_ n3_ n4_ n5_ n6_ n7_
             (try clear hb)
             (try clear hb2)
             (try clear hk)
             (try clear hi)
             (try clear ho0)
             (try clear ho1)
             refine hK.out _ _ ⟨(blk_cell BK298.out 0).trans rfl, (blk_cell BK298.out 1).trans rfl, (blk_cell BK298.out 2).trans rfl, (blk_cell BK298.out 3).trans rfl⟩ (fun hHeld => ?_)
             clear hK K
             refine norm_ (a' := ?_) ?_ ?_
             rotate_left
             ·show Act.put _ (some 115) _ = _
              simp only [Act.put, List.setIfInBounds_toArray, List.set_cons_zero, List.set_cons_succ, i64_w, i32_w]
              rfl
             refine pure_ (i := 7) (N := some 108) (v := ?_) (a' := ?_) #[true, true, true, true, true, true, true, true, false, false, true, false, false] rfl rfl (any_of HT_.out (by kernel_rfl)) (fun _ _ _ h => h) (Or.inl ⟨by rfl, ?_⟩) ?_ ?_
             rotate_left
             ·intro w'
              go_simp
              with_reducible rfl
             rotate_left
             ·simp only [Act.put, List.setIfInBounds_toArray, List.set_cons_zero, List.set_cons_succ, i64_w, i32_w]
              rfl
             refine pure_ (i := 8) (N := some 116) (v := ?_) (a' := ?_) #[true, true, true, true, true, true, true, true, true, false, true, false, false] rfl rfl (any_of HT_.out (by kernel_rfl)) (fun _ _ _ h => h) (Or.inl ⟨by rfl, ?_⟩) ?_ ?_
             rotate_left
             ·intro w'
              go_simp
              with_reducible rfl
             rotate_left
             ·simp only [Act.put, List.setIfInBounds_toArray, List.set_cons_zero, List.set_cons_succ, i64_w, i32_w]
              rfl
             refine pure_ (i := 9) (N := some 117) (v := ?_) (a' := ?_) #[true, true, true, true, true, true, true, true, true, true, true, false, false] rfl rfl (any_of HT_.out (by kernel_rfl)) (fun _ _ _ h => h) (Or.inl ⟨by rfl, ?_⟩) ?_ ?_
             rotate_left
             ·intro w'
              go_simp
              with_reducible rfl
             rotate_left
             ·simp only [Act.put, List.setIfInBounds_toArray, List.set_cons_zero, List.set_cons_succ, i64_w, i32_w]
              rfl
             exact norm_ (by simp only [putAll, Act.put, List.setIfInBounds_toArray, List.set_cons_zero, List.set_cons_succ]) (hCont (v323, v326, gb331) _ ⟨hHeld, (by (with_reducible repeat (first | apply Kd.R_alloc | apply Kd.R_drewN | apply Kd.R_drew)); exact Kd.R_mono HO321.out (fun _ hk => ⟨hk.2, hk.1.2⟩)), (by (with_reducible repeat (first | apply Kd.R_alloc | apply Kd.R_drewN | apply Kd.R_drew)); exact Kd.R_mono HO324.out (fun _ hk => ⟨hk.2, hk.1.2⟩)), (by (with_reducible repeat (first | apply Kd.N_alloc | apply Kd.N_drewN | apply Kd.N_drew)); exact Kd.N_mono HO327.out (fun _ hk => ⟨hk.2.2.1, ⟨hk.1, ⟨hk.2.1, ⟨hk.2.2.2.1, hk.2.2.2.2⟩⟩⟩⟩)), (by (with_reducible repeat (first | apply Kd.R_alloc | apply Kd.R_drewN | apply Kd.R_drew)); exact Kd.R_mono HO_299000.out (fun _ hk => ⟨hk.1.2, hk.2⟩)), (by (with_reducible repeat (first | apply Kd.N_alloc | apply Kd.N_drewN | apply Kd.N_drew)); exact Kd.N_mono HO_299001.out (fun _ hk => ⟨hk.1.1.1.2, ⟨hk.1.2, ⟨hk.2, ⟨hk.1.1.1.1.1, ⟨hk.1.1.1.1.2, hk.1.1.2⟩⟩⟩⟩⟩)), (by (with_reducible repeat (first | refine blk_drewN ?_ _ | refine blk_drew ?_ | refine blk_alloc ?_ _)); exact BK298.out), (by (with_reducible repeat (first | refine blk_drewN ?_ _ | refine blk_drew ?_ | refine blk_alloc ?_ _)); exact BK331.out), GW331.out, GE331.out, NB298_331.out, NB331_298.out, (by repeat (first | (with_reducible first | exact HB.out | apply below_alloc | apply pw_below_drewN | apply below_drew1 | refine below_set ?_ GE298.out | refine below_set ?_ GE331.out) | exact HB.out))⟩)
           rintro ⟨v323, v326, gb331⟩ w104 ⟨hS_, h0_, h1_, h2_, h3_, h4_, h5_, h6_, h7_, h8_, h9_, h10_, h11_⟩
           have n0_ : Aside0 (Kd.R (Kd.int .i64) 3 w104 w.heap.size (fun k_ => some k_ ≠ (v323 : Value).ownBlock ∧ some k_ ≠ (.slice Ao97 xq0_1.length co97 : Value).ownBlock) (.slice Ao100 t319.length co100) t319) := ⟨h0_⟩
           have n1_ : Aside0 (Kd.R (Kd.int .i64) 3 w104 w.heap.size (fun k_ => some k_ ≠ (.slice Ao100 t319.length co100 : Value).ownBlock ∧ some k_ ≠ (.slice Ao97 xq0_1.length co97 : Value).ownBlock) v323 t322) := ⟨h1_⟩
           have n2_ : Aside0 (Kd.N (Kd.slice 72 k72) 31 w104 w.heap.size (fun k_ => some k_ ≠ (.slice Ao100 t319.length co100 : Value).ownBlock ∧ some k_ ≠ (v323 : Value).ownBlock ∧ some k_ ≠ (.slice Ao97 xq0_1.length co97 : Value).ownBlock ∧ k_ ≠ gb298 ∧ k_ ≠ gb331) v326 t325) := ⟨h2_⟩
           have n3_ : Aside0 (Kd.R (Kd.int .i64) 3 w104 w.heap.size (fun k_ => some k_ ≠ (.slice Ao100 t319.length co100 : Value).ownBlock ∧ some k_ ≠ (v323 : Value).ownBlock) (.slice Ao97 xq0_1.length co97) xq0_1) := ⟨h3_⟩
           have n4_ : Aside0 (Kd.N (Kd.slice 72 k72) 31 w104 w.heap.size (fun k_ => some k_ ≠ (.slice Ao100 t319.length co100 : Value).ownBlock ∧ some k_ ≠ (v323 : Value).ownBlock ∧ some k_ ≠ (v326 : Value).ownBlock ∧ some k_ ≠ (.slice Ao97 xq0_1.length co97 : Value).ownBlock ∧ k_ ≠ gb298 ∧ k_ ≠ gb331) (.slice Ao98 xq1_1.length co98) xq1_1) := ⟨h4_⟩
           have n5_ : Aside0 (w104.heap[gb298]? = some (.cells #[.slice Ao97 xq0_1.length co97, .slice Ao98 xq1_1.length co98, .int .i64 xq2_1, .int .i64 xq3_1] 28 (0, 0))) := ⟨h5_⟩
           have n6_ : Aside0 (w104.heap[gb331]? = some (.cells #[.slice none 0 0, .slice none 0 0, .int .i64 0, .int .i64 0] 28 (0, 0))) := ⟨h6_⟩
           have n7_ : Aside0 (w.heap.size ≤ gb331) := ⟨h7_⟩
           have n8_ : Aside0 (w.heap.size ≤ gb331) := ⟨h8_⟩
           have n9_ : Aside0 (gb298 ≠ gb331) := ⟨h9_⟩
           have n10_ : Aside0 (gb331 ≠ gb298) := ⟨h10_⟩
           have n11_ : Aside0 (Below w.heap.size w w104) := ⟨h11_⟩
           clear HO_299000
           clear HO_299001
           clear HO321
           clear BK298
           clear HB
           clear h0_ h1_ h2_ h3_ h4_ h5_ h6_ h7_ h8_ h9_ h10_ h11_
           have HO321 := n0_
           have HO324 := n1_
           have HO327 := n2_
           have HO_299000 := n3_
           have HO_299001 := n4_
           have BK298 := n5_
           have BK331 := n6_
           have GW331 := n7_
           have GE331 := n8_
           have NB298_331 := n9_
           have NB331_298 := n10_
           have HB := n11_
           clear n0_ n1_ n2_ n3_ n4_ n5_ n6_ n7_ n8_ n9_ n10_ n11_
           have hHeld : w104.cell? ⟨gb298, 0, none⟩ = some (.slice Ao97 xq0_1.length co97) ∧ w104.cell? ⟨gb298, 1, none⟩ = some (.slice Ao98 xq1_1.length co98) ∧ w104.cell? ⟨gb298, 2, none⟩ = some (.int .i64 xq2_1) ∧ w104.cell? ⟨gb298, 3, none⟩ = some (.int .i64 xq3_1) := hS_
           obtain ⟨Ao105, co105, eo105⟩ := Kd.R_slice HO324.out
           (first | subst eo105 | (injection eo105 with f1_ f2_ f3_; have f4_ := f1_.symm; have f5_ := f3_.symm; clear f1_ f2_ f3_; subst f4_; subst f5_))
           obtain ⟨Ao107, co107, eo107⟩ := Kd.N_slice HO327.out
           (first | subst eo107 | (injection eo107 with f1_ f2_ f3_; have f4_ := f1_.symm; have f5_ := f3_.symm; clear f1_ f2_ f3_; subst f4_; subst f5_))
           refine norm_ (a' := ?_) ?_ ?_
           rotate_left
           ·simp only [putAll, Act.put, List.setIfInBounds_toArray, List.set_cons_zero, List.set_cons_succ]
            rfl
           refine one_ (i := 11) (N := none) #[true, true, true, true, true, true, true, true, true, true, true, true, false] rfl rfl (one_of HT_.out (by kernel_rfl)) (by decide) (fun K hK => ?_)
           have hs106 : w104.cell? ⟨gb331, 0, none⟩ = some (.slice none 0 0) := (blk_cell BK331.out 0).trans rfl
           have hfs106 := blk_frozen BK331.out 0
           have hns106_0 := NB298_331.out
           have hms106_0 := NB331_298.out
           have hs108 : w104.cell? ⟨gb331, 1, none⟩ = some (.slice none 0 0) := (blk_cell BK331.out 1).trans rfl
           have hfs108 := blk_frozen BK331.out 1
           have hns108_0 := NB298_331.out
           have hms108_0 := NB331_298.out
           have hs109 : w104.cell? ⟨gb331, 2, none⟩ = some (.int .i64 0) := (blk_cell BK331.out 2).trans rfl
           have hfs109 := blk_frozen BK331.out 2
           have hns109_0 := NB298_331.out
           have hms109_0 := NB331_298.out
           have hs110 : w104.cell? ⟨gb331, 3, none⟩ = some (.int .i64 0) := (blk_cell BK331.out 3).trans rfl
           have hfs110 := blk_frozen BK331.out 3
           have hns110_0 := NB298_331.out
           have hms110_0 := NB331_298.out
           refine skip_ (w1 := ?_) (by rfl) rfl ?_ ?_
           rotate_left
           ·go_simp
            rfl
           refine hK.out _ _ ⟨((cell_far (p := ⟨gb331, _, none⟩) NB298_331.out _).trans (((cell_far (p := ⟨gb331, _, none⟩) NB298_331.out _).trans (((cell_far (p := ⟨gb331, _, none⟩) NB298_331.out _).trans (((cell_far (p := ⟨gb331, _, none⟩) NB298_331.out _).trans (hHeld.1)))))))), ((cell_far (p := ⟨gb331, _, none⟩) NB298_331.out _).trans (((cell_far (p := ⟨gb331, _, none⟩) NB298_331.out _).trans (((cell_far (p := ⟨gb331, _, none⟩) NB298_331.out _).trans (((cell_far (p := ⟨gb331, _, none⟩) NB298_331.out _).trans (hHeld.2.1)))))))), ((cell_far (p := ⟨gb331, _, none⟩) NB298_331.out _).trans (((cell_far (p := ⟨gb331, _, none⟩) NB298_331.out _).trans (((cell_far (p := ⟨gb331, _, none⟩) NB298_331.out _).trans (((cell_far (p := ⟨gb331, _, none⟩) NB298_331.out _).trans (hHeld.2.2.1)))))))), ((cell_far (p := ⟨gb331, _, none⟩) NB298_331.out _).trans (((cell_far (p := ⟨gb331, _, none⟩) NB298_331.out _).trans (((cell_far (p := ⟨gb331, _, none⟩) NB298_331.out _).trans (((cell_far (p := ⟨gb331, _, none⟩) NB298_331.out _).trans (hHeld.2.2.2))))))))⟩ (fun hHeld => ?_)
           clear hK K
           refine pure_ (i := 12) (N := some 18) (v := ?_) (a' := ?_) #[true, true, true, true, true, true, true, true, true, true, true, true, true] rfl rfl (any_of HT_.out (by kernel_rfl)) (fun _ _ _ h => h) (Or.inl ⟨by rfl, ?_⟩) ?_ ?_
           rotate_left
           ·intro w'
            go_simp
            with_reducible rfl
           rotate_left
           ·simp only [Act.put, List.setIfInBounds_toArray, List.set_cons_zero, List.set_cons_succ, i64_w, i32_w]
            rfl
           refine done_ (done_of HT_.out (by kernel_rfl)) ?_
           have n0_ : Aside0 (Kd.R (Kd.int .i64) 3 ((((w104.setCell ⟨gb331, 0, none⟩ (.slice Ao105 t322.length co105)).setCell ⟨gb331, 1, none⟩ (.slice Ao107 t325.length co107)).setCell ⟨gb331, 2, none⟩ (.int .i64 t328)).setCell ⟨gb331, 3, none⟩ (.int .i64 t329)) w.heap.size (fun k_ => some k_ ≠ (.slice Ao100 t319.length co100 : Value).ownBlock ∧ some k_ ≠ (.slice Ao105 t322.length co105 : Value).ownBlock) (.slice Ao97 xq0_1.length co97) xq0_1) := ⟨by (with_reducible repeat (first | apply Kd.R_alloc | apply Kd.R_drewN | apply Kd.R_drew)); exact Kd.R_mono (Kd.R_far (p := ⟨gb331, 3, none⟩) (Kd.R_far (p := ⟨gb331, 2, none⟩) (Kd.R_far (p := ⟨gb331, 1, none⟩) (Kd.R_far (p := ⟨gb331, 0, none⟩) (Kd.R_types HO_299000.out BK331.out (by decide)) (fun _ hk => hk.2) (.slice Ao105 t322.length co105)) (fun _ hk => hk.2) (.slice Ao107 t325.length co107)) (fun _ hk => hk.2) (.int .i64 t328)) (fun _ hk => hk.2) (.int .i64 t329)) (fun _ hk => ⟨hk.1.1, hk.1.2⟩)⟩
           have n1_ : Aside0 (Kd.N (Kd.slice 72 k72) 31 ((((w104.setCell ⟨gb331, 0, none⟩ (.slice Ao105 t322.length co105)).setCell ⟨gb331, 1, none⟩ (.slice Ao107 t325.length co107)).setCell ⟨gb331, 2, none⟩ (.int .i64 t328)).setCell ⟨gb331, 3, none⟩ (.int .i64 t329)) w.heap.size (fun k_ => some k_ ≠ (.slice Ao97 xq0_1.length co97 : Value).ownBlock ∧ some k_ ≠ (.slice Ao100 t319.length co100 : Value).ownBlock ∧ some k_ ≠ (.slice Ao105 t322.length co105 : Value).ownBlock ∧ some k_ ≠ (.slice Ao107 t325.length co107 : Value).ownBlock ∧ k_ ≠ gb298 ∧ k_ ≠ gb331) (.slice Ao98 xq1_1.length co98) xq1_1) := ⟨by (with_reducible repeat (first | apply Kd.N_alloc | apply Kd.N_drewN | apply Kd.N_drew)); exact Kd.N_mono (Kd.N_far (p := ⟨gb331, 3, none⟩) (Kd.N_far (p := ⟨gb331, 2, none⟩) (Kd.N_far (p := ⟨gb331, 1, none⟩) (Kd.N_far (p := ⟨gb331, 0, none⟩) (Kd.N_mono HO_299001.out (fun k_ hk => (⟨hk, hk.2.2.2.2.2⟩ : _ ∧ k_ ≠ gb331))) (fun _ hk => hk.2) (.slice Ao105 t322.length co105)) (fun _ hk => hk.2) (.slice Ao107 t325.length co107)) (fun _ hk => hk.2) (.int .i64 t328)) (fun _ hk => hk.2) (.int .i64 t329)) (fun _ hk => ⟨hk.1.2.2.2.1, ⟨hk.1.1, ⟨hk.1.2.1, ⟨hk.1.2.2.1, ⟨hk.1.2.2.2.2.1, hk.1.2.2.2.2.2⟩⟩⟩⟩⟩)⟩
           have n2_ : Aside0 (Kd.R (Kd.int .i64) 3 ((((w104.setCell ⟨gb331, 0, none⟩ (.slice Ao105 t322.length co105)).setCell ⟨gb331, 1, none⟩ (.slice Ao107 t325.length co107)).setCell ⟨gb331, 2, none⟩ (.int .i64 t328)).setCell ⟨gb331, 3, none⟩ (.int .i64 t329)) w.heap.size (fun k_ => some k_ ≠ (.slice Ao97 xq0_1.length co97 : Value).ownBlock ∧ some k_ ≠ (.slice Ao105 t322.length co105 : Value).ownBlock) (.slice Ao100 t319.length co100) t319) := ⟨by (with_reducible repeat (first | apply Kd.R_alloc | apply Kd.R_drewN | apply Kd.R_drew)); exact Kd.R_mono (Kd.R_far (p := ⟨gb331, 3, none⟩) (Kd.R_far (p := ⟨gb331, 2, none⟩) (Kd.R_far (p := ⟨gb331, 1, none⟩) (Kd.R_far (p := ⟨gb331, 0, none⟩) (Kd.R_types HO321.out BK331.out (by decide)) (fun _ hk => hk.2) (.slice Ao105 t322.length co105)) (fun _ hk => hk.2) (.slice Ao107 t325.length co107)) (fun _ hk => hk.2) (.int .i64 t328)) (fun _ hk => hk.2) (.int .i64 t329)) (fun _ hk => ⟨hk.1.2, hk.1.1⟩)⟩
           have n3_ : Aside0 (Kd.R (Kd.int .i64) 3 ((((w104.setCell ⟨gb331, 0, none⟩ (.slice Ao105 t322.length co105)).setCell ⟨gb331, 1, none⟩ (.slice Ao107 t325.length co107)).setCell ⟨gb331, 2, none⟩ (.int .i64 t328)).setCell ⟨gb331, 3, none⟩ (.int .i64 t329)) w.heap.size (fun k_ => some k_ ≠ (.slice Ao97 xq0_1.length co97 : Value).ownBlock ∧ some k_ ≠ (.slice Ao100 t319.length co100 : Value).ownBlock) (.slice Ao105 t322.length co105) t322) := ⟨by (with_reducible repeat (first | apply Kd.R_alloc | apply Kd.R_drewN | apply Kd.R_drew)); exact Kd.R_mono (Kd.R_far (p := ⟨gb331, 3, none⟩) (Kd.R_far (p := ⟨gb331, 2, none⟩) (Kd.R_far (p := ⟨gb331, 1, none⟩) (Kd.R_far (p := ⟨gb331, 0, none⟩) (Kd.R_types HO324.out BK331.out (by decide)) (fun _ hk => hk.2) (.slice Ao105 t322.length co105)) (fun _ hk => hk.2) (.slice Ao107 t325.length co107)) (fun _ hk => hk.2) (.int .i64 t328)) (fun _ hk => hk.2) (.int .i64 t329)) (fun _ hk => ⟨hk.1.2, hk.1.1⟩)⟩
           have n4_ : Aside0 (Kd.N (Kd.slice 72 k72) 31 ((((w104.setCell ⟨gb331, 0, none⟩ (.slice Ao105 t322.length co105)).setCell ⟨gb331, 1, none⟩ (.slice Ao107 t325.length co107)).setCell ⟨gb331, 2, none⟩ (.int .i64 t328)).setCell ⟨gb331, 3, none⟩ (.int .i64 t329)) w.heap.size (fun k_ => some k_ ≠ (.slice Ao97 xq0_1.length co97 : Value).ownBlock ∧ some k_ ≠ (.slice Ao100 t319.length co100 : Value).ownBlock ∧ some k_ ≠ (.slice Ao105 t322.length co105 : Value).ownBlock ∧ k_ ≠ gb298 ∧ k_ ≠ gb331) (.slice Ao107 t325.length co107) t325) := ⟨by (with_reducible repeat (first | apply Kd.N_alloc | apply Kd.N_drewN | apply Kd.N_drew)); exact Kd.N_mono (Kd.N_far (p := ⟨gb331, 3, none⟩) (Kd.N_far (p := ⟨gb331, 2, none⟩) (Kd.N_far (p := ⟨gb331, 1, none⟩) (Kd.N_far (p := ⟨gb331, 0, none⟩) (Kd.N_mono HO327.out (fun k_ hk => (⟨hk, hk.2.2.2.2⟩ : _ ∧ k_ ≠ gb331))) (fun _ hk => hk.2) (.slice Ao105 t322.length co105)) (fun _ hk => hk.2) (.slice Ao107 t325.length co107)) (fun _ hk => hk.2) (.int .i64 t328)) (fun _ hk => hk.2) (.int .i64 t329)) (fun _ hk => ⟨hk.1.2.2.1, ⟨hk.1.1, ⟨hk.1.2.1, ⟨hk.1.2.2.2.1, hk.1.2.2.2.2⟩⟩⟩⟩)⟩
           have n5_ : Aside0 (((((w104.setCell ⟨gb331, 0, none⟩ (.slice Ao105 t322.length co105)).setCell ⟨gb331, 1, none⟩ (.slice Ao107 t325.length co107)).setCell ⟨gb331, 2, none⟩ (.int .i64 t328)).setCell ⟨gb331, 3, none⟩ (.int .i64 t329)).heap[gb298]? = some (.cells #[.slice Ao97 xq0_1.length co97, .slice Ao98 xq1_1.length co98, .int .i64 xq2_1, .int .i64 xq3_1] 28 (0, 0))) := ⟨by (with_reducible repeat (first | refine blk_drewN ?_ _ | refine blk_drew ?_ | refine blk_alloc ?_ _)); refine blk_far ?_ NB298_331.out _; (with_reducible repeat (first | refine blk_drewN ?_ _ | refine blk_drew ?_ | refine blk_alloc ?_ _)); refine blk_far ?_ NB298_331.out _; (with_reducible repeat (first | refine blk_drewN ?_ _ | refine blk_drew ?_ | refine blk_alloc ?_ _)); refine blk_far ?_ NB298_331.out _; (with_reducible repeat (first | refine blk_drewN ?_ _ | refine blk_drew ?_ | refine blk_alloc ?_ _)); refine blk_far ?_ NB298_331.out _; (with_reducible repeat (first | refine blk_drewN ?_ _ | refine blk_drew ?_ | refine blk_alloc ?_ _)); exact BK298.out⟩
           have n6_ : Aside0 (((((w104.setCell ⟨gb331, 0, none⟩ (.slice Ao105 t322.length co105)).setCell ⟨gb331, 1, none⟩ (.slice Ao107 t325.length co107)).setCell ⟨gb331, 2, none⟩ (.int .i64 t328)).setCell ⟨gb331, 3, none⟩ (.int .i64 t329)).heap[gb331]? = some (.cells #[.slice Ao105 t322.length co105, .slice Ao107 t325.length co107, .int .i64 t328, .int .i64 t329] 28 (0, 0))) := ⟨by (with_reducible repeat (first | refine blk_drewN ?_ _ | refine blk_drew ?_ | refine blk_alloc ?_ _)); refine blk_put (cs := #[.slice Ao105 t322.length co105, .slice Ao107 t325.length co107, .int .i64 t328, .int .i64 0]) ?_ 3 _ rfl; (with_reducible repeat (first | refine blk_drewN ?_ _ | refine blk_drew ?_ | refine blk_alloc ?_ _)); refine blk_put (cs := #[.slice Ao105 t322.length co105, .slice Ao107 t325.length co107, .int .i64 0, .int .i64 0]) ?_ 2 _ rfl; (with_reducible repeat (first | refine blk_drewN ?_ _ | refine blk_drew ?_ | refine blk_alloc ?_ _)); refine blk_put (cs := #[.slice Ao105 t322.length co105, .slice none 0 0, .int .i64 0, .int .i64 0]) ?_ 1 _ rfl; (with_reducible repeat (first | refine blk_drewN ?_ _ | refine blk_drew ?_ | refine blk_alloc ?_ _)); refine blk_put (cs := #[.slice none 0 0, .slice none 0 0, .int .i64 0, .int .i64 0]) ?_ 0 _ rfl; (with_reducible repeat (first | refine blk_drewN ?_ _ | refine blk_drew ?_ | refine blk_alloc ?_ _)); exact BK331.out⟩
           have n7_ : Aside0 (Below w.heap.size w ((((w104.setCell ⟨gb331, 0, none⟩ (.slice Ao105 t322.length co105)).setCell ⟨gb331, 1, none⟩ (.slice Ao107 t325.length co107)).setCell ⟨gb331, 2, none⟩ (.int .i64 t328)).setCell ⟨gb331, 3, none⟩ (.int .i64 t329))) := ⟨by repeat (first | (with_reducible first | exact HB.out | apply below_alloc | apply pw_below_drewN | apply below_drew1 | refine below_set ?_ GE298.out | refine below_set ?_ GE331.out) | exact HB.out)⟩
           (try clear HO_299000)
           (try clear HO_299001)
           (try clear HO321)
           (try clear HO324)
           (try clear HO327)
           (try clear BK298)
           (try clear BK331)
           (try clear HB)
           generalize ((((w104.setCell ⟨gb331, 0, none⟩ (.slice Ao105 t322.length co105)).setCell ⟨gb331, 1, none⟩ (.slice Ao107 t325.length co107)).setCell ⟨gb331, 2, none⟩ (.int .i64 t328)).setCell ⟨gb331, 3, none⟩ (.int .i64 t329)) = w111 at n0_ n1_ n2_ n3_ n4_ n5_ n6_ n7_ ⊢
           have HO_299000 := n0_
           have HO_299001 := n1_
           have HO321 := n2_
           have HO324 := n3_
           have HO327 := n4_
           have BK298 := n5_
           have BK331 := n6_
           have HB := n7_
           clear n0_ n1_ n2_ n3_ n4_ n5_ n6_ n7_
           have hnb112 := NB331_298.out
           have hnc112 := NB298_331.out
           have hcz113_0 : w111.cell? ⟨gb331, 0, none⟩ = some (.slice Ao105 t322.length co105) := (blk_cell BK331.out 0).trans rfl
           have hcz113_1 : w111.cell? ⟨gb331, 1, none⟩ = some (.slice Ao107 t325.length co107) := (blk_cell BK331.out 1).trans rfl
           have hcz113_2 : w111.cell? ⟨gb331, 2, none⟩ = some (.int .i64 t328) := (blk_cell BK331.out 2).trans rfl
           have hcz113_3 : w111.cell? ⟨gb331, 3, none⟩ = some (.int .i64 t329) := (blk_cell BK331.out 3).trans rfl
           have hfz113_0 := blk_frozen BK331.out 0
           have hfz113_1 := blk_frozen BK331.out 1
           have hfz113_2 := blk_frozen BK331.out 2
           have hfz113_3 := blk_frozen BK331.out 3
           try go_wp2_with (first | ((with_reducible refine gate_callee (f := 12) rfl ?_); refine goesL_ (some 120) rfl rfl Try.func12 (by kernel_rfl) rfl #[.agg #[.slice Ao105 t322.length co105, .slice Ao107 t325.length co107, .int .i64 t328, .int .i64 t329], .slice none 0 0] rfl (by (try simp only [List.map_toArray, List.map_cons, List.map_nil]); first | done | rfl | (simp only [List.length_drop, List.length_take]; rfl)) ?_; (refine (snaps_Keep.calls _ _ t322 (fun k_ => (some k_ ≠ (.slice Ao97 xq0_1.length co97 : Value).ownBlock ∧ (some k_ ≠ (.slice Ao100 t319.length co100 : Value).ownBlock ∧ (some k_ ≠ (.slice Ao105 t322.length co105 : Value).ownBlock ∧ (k_ ≠ gb298 ∧ k_ ≠ gb331))))) _ _ t325 t328 t329 (fun k_ => False) _ _ ([] : List (S72)) t332 t335 t338 t339 t340 t341 _ ?side1 ?side2 ?side3 ?side4 A89.out).mono ?_); (case side1 => repeat (first | exact (Kd.R_reads' HO324.out).2.2 | (with_reducible refine Kd.C_alloc ?_ _) | (with_reducible refine Kd.C_drewN ?_ _) | (with_reducible refine Kd.C_drew ?_))); (case side2 => exact (Kd.R_reads' HO324.out).2.1); (case side3 => exact Kd.N_V (HO327.out)); (case side4 => exact Kd.V_nil _ _ _ _ _); rintro e w114 ⟨v333, v336, rfl, ho0, ho1, hb⟩; refine ⟨_, rfl, ?_⟩; have n0_ := Aside0.mk (Kd.R_elder' (by (with_reducible repeat (first | apply Kd.R_alloc | apply Kd.R_drewN | apply Kd.R_drew)); exact HO_299000.out) (Kd.R_base ho0) hb); have n1_ := Aside0.mk (Kd.N_mono (Kd.N_told (Kd.N_told (Kd.N_old (by (with_reducible repeat (first | apply Kd.N_alloc | apply Kd.N_drewN | apply Kd.N_drew)); exact HO_299001.out) hb) (Kd.R_base ho0)) (Kd.N_base ho1)) (fun _ h_ => h_.1)); have n2_ := Aside0.mk (Kd.R_elder' (by (with_reducible repeat (first | apply Kd.R_alloc | apply Kd.R_drewN | apply Kd.R_drew)); exact HO321.out) (Kd.R_base ho0) hb); have n3_ := Aside0.mk (Kd.R_elder' (by (with_reducible repeat (first | apply Kd.R_alloc | apply Kd.R_drewN | apply Kd.R_drew)); exact HO324.out) (Kd.R_base ho0) hb); have n4_ := Aside0.mk (Kd.N_mono (Kd.N_told (Kd.N_told (Kd.N_old (by (with_reducible repeat (first | apply Kd.N_alloc | apply Kd.N_drewN | apply Kd.N_drew)); exact HO327.out) hb) (Kd.R_base ho0)) (Kd.N_base ho1)) (fun _ h_ => h_.1)); have n5_ := Aside0.mk (Kd.R_lower (Kd.R_new' (Kd.R_new' (Kd.R_new' (Kd.R_mono (ok' := fun k_ => True) ho0 (fun _ hk_ => trivial)) (Kd.R_lt (by (with_reducible repeat (first | apply Kd.R_alloc | apply Kd.R_drewN | apply Kd.R_drew)); exact HO_299000.out))) (Kd.R_lt (by (with_reducible repeat (first | apply Kd.R_alloc | apply Kd.R_drewN | apply Kd.R_drew)); exact HO321.out))) (Kd.R_lt (by (with_reducible repeat (first | apply Kd.R_alloc | apply Kd.R_drewN | apply Kd.R_drew)); exact HO324.out))) (below_size (by repeat (first | (with_reducible first | exact HB.out | apply below_alloc | apply pw_below_drewN | apply below_drew1 | refine below_set ?_ GE298.out | refine below_set ?_ GE331.out) | exact HB.out)))); have n6_ := Aside0.mk (Kd.N_lower (Kd.N_mono (ok' := fun k_ => some k_ ≠ (v333 : Value).ownBlock ∧ some k_ ≠ (.slice Ao97 xq0_1.length co97 : Value).ownBlock ∧ some k_ ≠ (.slice Ao100 t319.length co100 : Value).ownBlock ∧ some k_ ≠ (.slice Ao105 t322.length co105 : Value).ownBlock ∧ k_ ≠ gb298 ∧ k_ ≠ gb331) ho1 (fun k_ hk_ => ⟨hk_.2, Or.elim hk_.1 (fun hs_ => Or.elim hs_ (fun hs_ => hs_.1) (fun hs_ => (hs_).elim)) (fun hn_ => (Kd.fresh' (Kd.R_lt (by (with_reducible repeat (first | apply Kd.R_alloc | apply Kd.R_drewN | apply Kd.R_drew)); exact HO_299000.out)) k_ hn_)), Or.elim hk_.1 (fun hs_ => Or.elim hs_ (fun hs_ => hs_.2.1) (fun hs_ => (hs_).elim)) (fun hn_ => (Kd.fresh' (Kd.R_lt (by (with_reducible repeat (first | apply Kd.R_alloc | apply Kd.R_drewN | apply Kd.R_drew)); exact HO321.out)) k_ hn_)), Or.elim hk_.1 (fun hs_ => Or.elim hs_ (fun hs_ => hs_.2.2.1) (fun hs_ => (hs_).elim)) (fun hn_ => (Kd.fresh' (Kd.R_lt (by (with_reducible repeat (first | apply Kd.R_alloc | apply Kd.R_drewN | apply Kd.R_drew)); exact HO324.out)) k_ hn_)), Or.elim hk_.1 (fun hs_ => Or.elim hs_ (fun hs_ => hs_.2.2.2.1) (fun hs_ => (hs_).elim)) (fun hn_ => (Kd.freshB (g := gb298) (o := .cells #[.slice Ao97 xq0_1.length co97, .slice Ao98 xq1_1.length co98, .int .i64 xq2_1, .int .i64 xq3_1] 28 (0, 0)) (by (with_reducible repeat (first | refine blk_drewN ?_ _ | refine blk_drew ?_ | refine blk_alloc ?_ _)); exact BK298.out) k_ hn_)), Or.elim hk_.1 (fun hs_ => Or.elim hs_ (fun hs_ => hs_.2.2.2.2) (fun hs_ => (hs_).elim)) (fun hn_ => (Kd.freshB (g := gb331) (o := .cells #[.slice Ao105 t322.length co105, .slice Ao107 t325.length co107, .int .i64 t328, .int .i64 t329] 28 (0, 0)) (by (with_reducible repeat (first | refine blk_drewN ?_ _ | refine blk_drew ?_ | refine blk_alloc ?_ _)); exact BK331.out) k_ hn_))⟩)) (below_size (by repeat (first | (with_reducible first | exact HB.out | apply below_alloc | apply pw_below_drewN | apply below_drew1 | refine below_set ?_ GE298.out | refine below_set ?_ GE331.out) | exact HB.out)))); have n7_ := Aside0.mk (blk_below (g := gb298) (o := .cells #[.slice Ao97 xq0_1.length co97, .slice Ao98 xq1_1.length co98, .int .i64 xq2_1, .int .i64 xq3_1] 28 (0, 0)) (by (with_reducible repeat (first | refine blk_drewN ?_ _ | refine blk_drew ?_ | refine blk_alloc ?_ _)); exact BK298.out) hb); have n8_ := Aside0.mk (blk_below (g := gb331) (o := .cells #[.slice Ao105 t322.length co105, .slice Ao107 t325.length co107, .int .i64 t328, .int .i64 t329] 28 (0, 0)) (by (with_reducible repeat (first | refine blk_drewN ?_ _ | refine blk_drew ?_ | refine blk_alloc ?_ _)); exact BK331.out) hb); have n9_ := Aside0.mk (below_step (by repeat (first | (with_reducible first | exact HB.out | apply below_alloc | apply pw_below_drewN | apply below_drew1 | refine below_set ?_ GE298.out | refine below_set ?_ GE331.out) | exact HB.out)) hb); clear HO_299000; clear HO_299001; clear HO321; clear HO324; clear HO327; clear BK298; clear BK331; clear HB; have HO_299000 := n0_; have HO_299001 := n1_; have HO321 := n2_; have HO324 := n3_; have HO327 := n4_; have HO334 := n5_; have HO337 := n6_; have BK298 := n7_; have BK331 := n8_; have HB := n9_; clear n0_ n1_ n2_ n3_ n4_ n5_ n6_ n7_ n8_ n9_; (try clear hb); (try clear hb2); (try clear hk); (try clear hi); (try clear ho0); (try clear ho1)) | ((with_reducible refine gate_dst (N := 19) rfl ?_); (try (refine gate_guard (by rfl) ?_; dsimp only)); refine box_event ?hg (N := 19) ?hd (cs := #[.slice none 0 0, .slice none 0 0, .int .i64 0, .int .i64 0]) (t := 28) ?hr ?_; (case hd => rfl); (case hg => rfl); (case hr => first | (go_simp; done) | (go_simp; rfl)); intro gb342 hg w115 hbox hb; have n0_ := Aside0.mk (Kd.R_below (by (with_reducible repeat (first | apply Kd.R_alloc | apply Kd.R_drewN | apply Kd.R_drew)); exact HO_299000.out) hb); have n1_ := Aside0.mk (Kd.N_below (Kd.N_elderB (by (with_reducible repeat (first | apply Kd.N_alloc | apply Kd.N_drewN | apply Kd.N_drew)); exact HO_299001.out) gb342 (Nat.le_of_eq hg.symm)) hb); have n2_ := Aside0.mk (Kd.R_below (by (with_reducible repeat (first | apply Kd.R_alloc | apply Kd.R_drewN | apply Kd.R_drew)); exact HO321.out) hb); have n3_ := Aside0.mk (Kd.R_below (by (with_reducible repeat (first | apply Kd.R_alloc | apply Kd.R_drewN | apply Kd.R_drew)); exact HO324.out) hb); have n4_ := Aside0.mk (Kd.N_below (Kd.N_elderB (by (with_reducible repeat (first | apply Kd.N_alloc | apply Kd.N_drewN | apply Kd.N_drew)); exact HO327.out) gb342 (Nat.le_of_eq hg.symm)) hb); have n5_ := Aside0.mk (Kd.R_below (by (with_reducible repeat (first | apply Kd.R_alloc | apply Kd.R_drewN | apply Kd.R_drew)); exact HO334.out) hb); have n6_ := Aside0.mk (Kd.N_below (Kd.N_elderB (by (with_reducible repeat (first | apply Kd.N_alloc | apply Kd.N_drewN | apply Kd.N_drew)); exact HO337.out) gb342 (Nat.le_of_eq hg.symm)) hb); have n7_ := Aside0.mk (blk_below (g := gb298) (o := .cells #[.slice Ao97 xq0_1.length co97, .slice Ao98 xq1_1.length co98, .int .i64 xq2_1, .int .i64 xq3_1] 28 (0, 0)) (by (with_reducible repeat (first | refine blk_drewN ?_ _ | refine blk_drew ?_ | refine blk_alloc ?_ _)); exact BK298.out) hb); have n8_ := Aside0.mk (blk_below (g := gb331) (o := .cells #[.slice Ao105 t322.length co105, .slice Ao107 t325.length co107, .int .i64 t328, .int .i64 t329] 28 (0, 0)) (by (with_reducible repeat (first | refine blk_drewN ?_ _ | refine blk_drew ?_ | refine blk_alloc ?_ _)); exact BK331.out) hb); have n9_ := Aside0.mk (below_step (by repeat (first | (with_reducible first | exact HB.out | apply below_alloc | apply pw_below_drewN | apply below_drew1 | refine below_set ?_ GE298.out | refine below_set ?_ GE331.out) | exact HB.out)) hb); have n10_ := Aside0.mk (hbox); have n11_ := Aside0.mk ((by rw [hg]; exact (below_size (by repeat (first | (with_reducible first | exact HB.out | apply below_alloc | apply pw_below_drewN | apply below_drew1 | refine below_set ?_ GE298.out | refine below_set ?_ GE331.out) | exact HB.out))) : w.heap.size ≤ gb342)); have n12_ := Aside0.mk ((by rw [hg]; exact (below_size (by repeat (first | (with_reducible first | exact HB.out | apply below_alloc | apply pw_below_drewN | apply below_drew1 | refine below_set ?_ GE298.out | refine below_set ?_ GE331.out) | exact HB.out))) : w.heap.size ≤ gb342)); have n13_ := Aside0.mk ((by rw [hg]; exact Nat.ne_of_lt (blk_lt (g := gb298) (o := .cells #[.slice Ao97 xq0_1.length co97, .slice Ao98 xq1_1.length co98, .int .i64 xq2_1, .int .i64 xq3_1] 28 (0, 0)) (by (with_reducible repeat (first | refine blk_drewN ?_ _ | refine blk_drew ?_ | refine blk_alloc ?_ _)); exact BK298.out)) : gb298 ≠ gb342)); have n14_ := Aside0.mk ((by rw [hg]; exact Nat.ne_of_gt (blk_lt (g := gb298) (o := .cells #[.slice Ao97 xq0_1.length co97, .slice Ao98 xq1_1.length co98, .int .i64 xq2_1, .int .i64 xq3_1] 28 (0, 0)) (by (with_reducible repeat (first | refine blk_drewN ?_ _ | refine blk_drew ?_ | refine blk_alloc ?_ _)); exact BK298.out)) : gb342 ≠ gb298)); have n15_ := Aside0.mk ((by rw [hg]; exact Nat.ne_of_lt (blk_lt (g := gb331) (o := .cells #[.slice Ao105 t322.length co105, .slice Ao107 t325.length co107, .int .i64 t328, .int .i64 t329] 28 (0, 0)) (by (with_reducible repeat (first | refine blk_drewN ?_ _ | refine blk_drew ?_ | refine blk_alloc ?_ _)); exact BK331.out)) : gb331 ≠ gb342)); have n16_ := Aside0.mk ((by rw [hg]; exact Nat.ne_of_gt (blk_lt (g := gb331) (o := .cells #[.slice Ao105 t322.length co105, .slice Ao107 t325.length co107, .int .i64 t328, .int .i64 t329] 28 (0, 0)) (by (with_reducible repeat (first | refine blk_drewN ?_ _ | refine blk_drew ?_ | refine blk_alloc ?_ _)); exact BK331.out)) : gb342 ≠ gb331)); clear HO_299000; clear HO_299001; clear HO321; clear HO324; clear HO327; clear HO334; clear HO337; clear BK298; clear BK331; clear HB; have HO_299000 := n0_; have HO_299001 := n1_; have HO321 := n2_; have HO324 := n3_; have HO327 := n4_; have HO334 := n5_; have HO337 := n6_; have BK298 := n7_; have BK331 := n8_; have HB := n9_; have BK342 := n10_; have GW342 := n11_; have GE342 := n12_; have NB298_342 := n13_; have NB342_298 := n14_; have NB331_342 := n15_; have NB342_331 := n16_; clear n0_ n1_ n2_ n3_ n4_ n5_ n6_ n7_ n8_ n9_ n10_ n11_ n12_ n13_ n14_ n15_ n16_; clear hb hbox hg; obtain ⟨Ao116, co116, eo116⟩ := Kd.R_slice HO334.out; subst eo116; have hnb117 := NB342_298.out; have hnc117 := NB298_342.out; have hnb118 := NB342_331.out; have hnc118 := NB331_342.out; have hcz119_0 : w115.cell? ⟨gb342, 0, none⟩ = some (.slice none 0 0) := (blk_cell BK342.out 0).trans rfl; have hcz119_1 : w115.cell? ⟨gb342, 1, none⟩ = some (.slice none 0 0) := (blk_cell BK342.out 1).trans rfl; have hcz119_2 : w115.cell? ⟨gb342, 2, none⟩ = some (.int .i64 0) := (blk_cell BK342.out 2).trans rfl; have hcz119_3 : w115.cell? ⟨gb342, 3, none⟩ = some (.int .i64 0) := (blk_cell BK342.out 3).trans rfl; have hfz119_0 := blk_frozen BK342.out 0; have hfz119_1 := blk_frozen BK342.out 1; have hfz119_2 := blk_frozen BK342.out 2; have hfz119_3 := blk_frozen BK342.out 3; obtain ⟨Ao120, co120, eo120⟩ := Kd.N_slice HO337.out; subst eo120))
           all_goals (have h2_ : (t319.length : Int) = ji91 ∧ (t319.length : Int) = ji92 ∧ (t319.length : Int) ≤ 64 := (by have e_ := beq_iff_eq.mp c93b0; have a_ := hji6_; have b_ := hji91_; have d_ := hji92_; split at a_ <;> split at b_ <;> split at d_ <;> omega); have hw_ : wrap64 ((t319.length : Int) + 1) = (t319.length : Int) + 1 := (by have h3_ := h2_.2.2; clear h2_; unfold wrap64; omega); first | (exfalso; omega) | ((try go_ret); exact ⟨by first | rfl | (simp [errW_none, errW_some] <;> rfl) | (simp only [← hji5, ← hji6, ← hji91, ← hji92]; first | rfl | (simp [errW_none, errW_some] <;> rfl)) | (rw [hw_, h2_.1]; first | done | rfl), by repeat (first | (with_reducible first | exact HB.out | apply below_alloc | apply pw_below_drewN | apply below_drew1 | refine below_set ?_ GE298.out | refine below_set ?_ GE331.out | refine below_set ?_ GE342.out) | exact HB.out)⟩))
          ·rw [if_neg c95] at H
           have c95b0 : (t341 == 0) = false := beq_eq_false_iff_ne.mpr c95
           have c95b1 : (t341 != 0) = true := bne_iff_ne.mpr c95
           exact absurd (Option.some.inj H) (by rw [hr.out]; decide)
         ·rw [if_neg c94] at H
          have c94b0 : (t330 == 0) = false := beq_eq_false_iff_ne.mpr c94
          have c94b1 : (t330 != 0) = true := bne_iff_ne.mpr c94
          exact absurd (Option.some.inj H) (by rw [hr.out]; decide)
        ·rw [if_neg c93] at H
         have c93b0 : ((t319.length : Int) == (ji92)) = false := beq_eq_false_iff_ne.mpr c93
         have c93b1 : ((t319.length : Int) != (ji92)) = true := bne_iff_ne.mpr c93
         exact absurd (Option.some.inj H) (by rw [hr.out]; decide)
       ·replace c90 := Bool.eq_false_iff.mpr c90
        subst c90
        have H1 : (some false) = some r := by rw [if_neg (show ¬ (false = true) by decide)] at H; exact H
        clear H
        have H := H1
        clear H1
        exact absurd (Option.some.inj H) (by rw [hr.out]; decide)
end Go.Proofs.Ytkabbahfaeeihaa.Q
