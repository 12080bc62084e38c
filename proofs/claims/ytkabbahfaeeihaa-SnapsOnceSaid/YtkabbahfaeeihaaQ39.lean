/- Contracts of the functions that the laws reach, in the words of the kit's print; written by a program of this claim (gen_q.py). -/
import Derived.Test.YtkabbahfaeeihaaQ0
import Derived.Test.YtkabbahfaeeihaaQ1
import Derived.Test.YtkabbahfaeeihaaQ13
import Derived.Test.YtkabbahfaeeihaaQ23
import Derived.Test.YtkabbahfaeeihaaQ25
import Derived.Test.YtkabbahfaeeihaaQ28
import Derived.Test.YtkabbahfaeeihaaQ38
namespace Go.Proofs.Ytkabbahfaeeihaa.Q
open Go.RowKit Go.Proofs.YtkabbahfaeeihaaW.PrintWords Go.Proofs.YtkabbahfaeeihaaW.PrintLast Go.Proofs.YtkabbahfaeeihaaW.PrintMore
attribute [local go_sem] max2_int min2_int max_two min_two max_three min_three max_four min_four   -- for this text's walks alone
set_option linter.unusedVariables false
set_option linter.unusedSimpArgs false

/-! ### cordwoodlaw21_SnapsOnce: function 6 -/
mutual
def cordwoodlaw21_SnapsOnce.l0 : Nat → Int → List (S50) → Bool → Int → List Int → Int → List Int → List (List (S72)) → Int → Int → Option (Bool)
  | 0, _, _, _, _, _, _, _, _, _, _ => none
  | k + 1, x0, x1, x5, x7, x8, x9, x619000, x619001, x619002, x619003 => if x9 < (x1.length : Int) then (if 0 ≤ x9 then ((cordwoodlaw21_done.f k x619000 x619001 x619002 x619003 ((rd_T50 x1 x9).f0) ((rd_T50 x1 x9).f1) ((rd_T50 x1 x9).f2)).bind fun bt620 => (if (Go.bits .and .i64 ((rd_T50 x1 x9).f0) 3) = 0 then (cordwoodlaw21_SnapsOnce.j1 k x0 x1 x5 x7 x8 x9 bt620.2.2.2.2.1 (bt620.2.2.2.2.2 == 0) bt620.1 bt620.2.1 bt620.2.2.1 bt620.2.2.2.1) else (cordwoodlaw21_SnapsOnce.j1 k x0 x1 x5 x7 x8 x9 bt620.2.2.2.2.1 false bt620.1 bt620.2.1 bt620.2.2.1 bt620.2.2.2.1))) else (none)) else (some x5)
def cordwoodlaw21_SnapsOnce.j1 : Nat → Int → List (S50) → Bool → Int → List Int → Int → Int → Bool → List Int → List (List (S72)) → Int → Int → Option (Bool)
  | 0, _, _, _, _, _, _, _, _, _, _, _, _ => none
  | k + 1, x0, x1, x5, x7, x8, x9, x11, x49, x619000, x619001, x619002, x619003 => if x49 = true then (if x11 ≤ x7 then (some false) else (if x8.length < 17592186044416 then (cordwoodlaw21_SnapsOnce.j2 k x0 x1 x5 x11 (x8 ++ [x11]) x9 x619000 x619001 x619002 x619003) else (none))) else (cordwoodlaw21_SnapsOnce.j2 k x0 x1 x5 x7 x8 x9 x619000 x619001 x619002 x619003)
def cordwoodlaw21_SnapsOnce.j2 : Nat → Int → List (S50) → Bool → Int → List Int → Int → List Int → List (List (S72)) → Int → Int → Option (Bool)
  | 0, _, _, _, _, _, _, _, _, _, _ => none
  | k + 1, x0, x1, x5, x7, x8, x9, x619000, x619001, x619002, x619003 => (snaps_IDs.f x619000 x619001 x619002 x619003).bind fun t635 => (cordwoodlaw21_SnapsOnce.l1 k x0 x1 x5 x7 x8 x9 t635 0 x619000 x619001 x619002 x619003)
def cordwoodlaw21_SnapsOnce.l1 : Nat → Int → List (S50) → Bool → Int → List Int → Int → List Int → Int → List Int → List (List (S72)) → Int → Int → Option (Bool)
  | 0, _, _, _, _, _, _, _, _, _, _, _, _ => none
  | k + 1, x0, x1, x5, x7, x8, x9, x13, x14, x619000, x619001, x619002, x619003 => if x14 < (x13.length : Int) then (if 0 ≤ x14 then ((cordwoodref08_Has.f k x8 (rd x13 x14)).bind fun t639 => (if t639 = true then (if x14 > 0 then (if 0 ≤ (wrap64 (x14 - 1)) then (if (wrap64 (x14 - 1)) < (x13.length : Int) then (cordwoodlaw21_SnapsOnce.j4 k x0 x1 x5 x7 x8 x9 x13 x14 (decide ((rd x13 (wrap64 (x14 - 1))) ≥ (rd x13 x14))) x619000 x619001 x619002 x619003) else (none)) else (none)) else (cordwoodlaw21_SnapsOnce.j4 k x0 x1 x5 x7 x8 x9 x13 x14 false x619000 x619001 x619002 x619003)) else (cordwoodlaw21_SnapsOnce.j4 k x0 x1 x5 x7 x8 x9 x13 x14 true x619000 x619001 x619002 x619003))) else (none)) else (if (x13.length : Int) > (mn (mx x0 0) 64) then (some false) else (cordwoodlaw21_SnapsOnce.l0 k x0 x1 x5 x7 x8 (wrap64 (x9 + 1)) x619000 x619001 x619002 x619003))
def cordwoodlaw21_SnapsOnce.j4 : Nat → Int → List (S50) → Bool → Int → List Int → Int → List Int → Int → Bool → List Int → List (List (S72)) → Int → Int → Option (Bool)
  | 0, _, _, _, _, _, _, _, _, _, _, _, _, _ => none
  | k + 1, x0, x1, x5, x7, x8, x9, x13, x14, x88, x619000, x619001, x619002, x619003 => if x88 = true then (some false) else (cordwoodlaw21_SnapsOnce.l1 k x0 x1 x5 x7 x8 x9 x13 (wrap64 (x14 + 1)) x619000 x619001 x619002 x619003)
end
def cordwoodlaw21_SnapsOnce.f (k : Nat) (a0 : Int) (l1 : List (S50)) : Option (Bool) := (cordwoodlaw21_awake.f k).bind fun t608 => ((cordwoodlaw21_small.f k l1).bind fun t609 => (if t609 = true then ((snaps_New.f a0).bind fun bt610 => (cordwoodlaw21_SnapsOnce.l0 k a0 l1 t608 0 ([] : List Int) 0 bt610.1 bt610.2.1 bt610.2.2.1 bt610.2.2.2)) else (some t608)))
theorem cordwoodlaw21_SnapsOnce.mono_l : ∀ k, (∀ y0 y1 y2 y3 y4 y5 y6 y7 y8 y9, LeO (cordwoodlaw21_SnapsOnce.l0 k y0 y1 y2 y3 y4 y5 y6 y7 y8 y9) (cordwoodlaw21_SnapsOnce.l0 (k + 1) y0 y1 y2 y3 y4 y5 y6 y7 y8 y9)) ∧ (∀ y0 y1 y2 y3 y4 y5 y6 y7 y8 y9 y10 y11, LeO (cordwoodlaw21_SnapsOnce.j1 k y0 y1 y2 y3 y4 y5 y6 y7 y8 y9 y10 y11) (cordwoodlaw21_SnapsOnce.j1 (k + 1) y0 y1 y2 y3 y4 y5 y6 y7 y8 y9 y10 y11)) ∧ (∀ y0 y1 y2 y3 y4 y5 y6 y7 y8 y9, LeO (cordwoodlaw21_SnapsOnce.j2 k y0 y1 y2 y3 y4 y5 y6 y7 y8 y9) (cordwoodlaw21_SnapsOnce.j2 (k + 1) y0 y1 y2 y3 y4 y5 y6 y7 y8 y9)) ∧ (∀ y0 y1 y2 y3 y4 y5 y6 y7 y8 y9 y10 y11, LeO (cordwoodlaw21_SnapsOnce.l1 k y0 y1 y2 y3 y4 y5 y6 y7 y8 y9 y10 y11) (cordwoodlaw21_SnapsOnce.l1 (k + 1) y0 y1 y2 y3 y4 y5 y6 y7 y8 y9 y10 y11)) ∧ (∀ y0 y1 y2 y3 y4 y5 y6 y7 y8 y9 y10 y11 y12, LeO (cordwoodlaw21_SnapsOnce.j4 k y0 y1 y2 y3 y4 y5 y6 y7 y8 y9 y10 y11 y12) (cordwoodlaw21_SnapsOnce.j4 (k + 1) y0 y1 y2 y3 y4 y5 y6 y7 y8 y9 y10 y11 y12))
  | 0 => ⟨fun _ _ _ _ _ _ _ _ _ _ r h => by simp [cordwoodlaw21_SnapsOnce.l0] at h, fun _ _ _ _ _ _ _ _ _ _ _ _ r h => by simp [cordwoodlaw21_SnapsOnce.j1] at h, fun _ _ _ _ _ _ _ _ _ _ r h => by simp [cordwoodlaw21_SnapsOnce.j2] at h, fun _ _ _ _ _ _ _ _ _ _ _ _ r h => by simp [cordwoodlaw21_SnapsOnce.l1] at h, fun _ _ _ _ _ _ _ _ _ _ _ _ _ r h => by simp [cordwoodlaw21_SnapsOnce.j4] at h⟩
  | k + 1 => by
    obtain ⟨ih0, ih1, ih2, ih3, ih4⟩ := cordwoodlaw21_SnapsOnce.mono_l k
    refine ⟨?_, ?_, ?_, ?_, ?_⟩
    · intro y0 y1 y2 y3 y4 y5 y6 y7 y8 y9
      unfold cordwoodlaw21_SnapsOnce.l0
      repeat' first
      | (with_reducible exact ih0 _ _ _ _ _ _ _ _ _ _)
      | (with_reducible exact ih1 _ _ _ _ _ _ _ _ _ _ _ _)
      | (with_reducible exact ih2 _ _ _ _ _ _ _ _ _ _)
      | (with_reducible exact ih3 _ _ _ _ _ _ _ _ _ _ _ _)
      | (with_reducible exact ih4 _ _ _ _ _ _ _ _ _ _ _ _ _)
      | (with_reducible exact cordwoodlaw21_awake.mono _)
      | (with_reducible exact cordwoodlaw21_done.mono _ _ _ _ _ _ _ _)
      | (with_reducible exact cordwoodlaw21_small.mono _ _)
      | (with_reducible exact cordwoodref08_Has.mono _ _ _)
      | (with_reducible exact LeO.refl _)
      | (with_reducible exact LeO.none _)
      | (with_reducible refine LeO.ite ?_ ?_)
      | (with_reducible refine LeO.bind ?_ (fun _ => ?_))
      | exact ih0 _ _ _ _ _ _ _ _ _ _
      | exact ih1 _ _ _ _ _ _ _ _ _ _ _ _
      | exact ih2 _ _ _ _ _ _ _ _ _ _
      | exact ih3 _ _ _ _ _ _ _ _ _ _ _ _
      | exact ih4 _ _ _ _ _ _ _ _ _ _ _ _ _
      | exact cordwoodlaw21_awake.mono _
      | exact cordwoodlaw21_done.mono _ _ _ _ _ _ _ _
      | exact cordwoodlaw21_small.mono _ _
      | exact cordwoodref08_Has.mono _ _ _
      | exact LeO.none _
      | refine LeO.ite ?_ ?_
      | refine LeO.bind ?_ (fun _ => ?_)
    · intro y0 y1 y2 y3 y4 y5 y6 y7 y8 y9 y10 y11
      unfold cordwoodlaw21_SnapsOnce.j1
      repeat' first
      | (with_reducible exact ih0 _ _ _ _ _ _ _ _ _ _)
      | (with_reducible exact ih1 _ _ _ _ _ _ _ _ _ _ _ _)
      | (with_reducible exact ih2 _ _ _ _ _ _ _ _ _ _)
      | (with_reducible exact ih3 _ _ _ _ _ _ _ _ _ _ _ _)
      | (with_reducible exact ih4 _ _ _ _ _ _ _ _ _ _ _ _ _)
      | (with_reducible exact cordwoodlaw21_awake.mono _)
      | (with_reducible exact cordwoodlaw21_done.mono _ _ _ _ _ _ _ _)
      | (with_reducible exact cordwoodlaw21_small.mono _ _)
      | (with_reducible exact cordwoodref08_Has.mono _ _ _)
      | (with_reducible exact LeO.refl _)
      | (with_reducible exact LeO.none _)
      | (with_reducible refine LeO.ite ?_ ?_)
      | (with_reducible refine LeO.bind ?_ (fun _ => ?_))
      | exact ih0 _ _ _ _ _ _ _ _ _ _
      | exact ih1 _ _ _ _ _ _ _ _ _ _ _ _
      | exact ih2 _ _ _ _ _ _ _ _ _ _
      | exact ih3 _ _ _ _ _ _ _ _ _ _ _ _
      | exact ih4 _ _ _ _ _ _ _ _ _ _ _ _ _
      | exact cordwoodlaw21_awake.mono _
      | exact cordwoodlaw21_done.mono _ _ _ _ _ _ _ _
      | exact cordwoodlaw21_small.mono _ _
      | exact cordwoodref08_Has.mono _ _ _
      | exact LeO.none _
      | refine LeO.ite ?_ ?_
      | refine LeO.bind ?_ (fun _ => ?_)
    · intro y0 y1 y2 y3 y4 y5 y6 y7 y8 y9
      unfold cordwoodlaw21_SnapsOnce.j2
      repeat' first
      | (with_reducible exact ih0 _ _ _ _ _ _ _ _ _ _)
      | (with_reducible exact ih1 _ _ _ _ _ _ _ _ _ _ _ _)
      | (with_reducible exact ih2 _ _ _ _ _ _ _ _ _ _)
      | (with_reducible exact ih3 _ _ _ _ _ _ _ _ _ _ _ _)
      | (with_reducible exact ih4 _ _ _ _ _ _ _ _ _ _ _ _ _)
      | (with_reducible exact cordwoodlaw21_awake.mono _)
      | (with_reducible exact cordwoodlaw21_done.mono _ _ _ _ _ _ _ _)
      | (with_reducible exact cordwoodlaw21_small.mono _ _)
      | (with_reducible exact cordwoodref08_Has.mono _ _ _)
      | (with_reducible exact LeO.refl _)
      | (with_reducible exact LeO.none _)
      | (with_reducible refine LeO.ite ?_ ?_)
      | (with_reducible refine LeO.bind ?_ (fun _ => ?_))
      | exact ih0 _ _ _ _ _ _ _ _ _ _
      | exact ih1 _ _ _ _ _ _ _ _ _ _ _ _
      | exact ih2 _ _ _ _ _ _ _ _ _ _
      | exact ih3 _ _ _ _ _ _ _ _ _ _ _ _
      | exact ih4 _ _ _ _ _ _ _ _ _ _ _ _ _
      | exact cordwoodlaw21_awake.mono _
      | exact cordwoodlaw21_done.mono _ _ _ _ _ _ _ _
      | exact cordwoodlaw21_small.mono _ _
      | exact cordwoodref08_Has.mono _ _ _
      | exact LeO.none _
      | refine LeO.ite ?_ ?_
      | refine LeO.bind ?_ (fun _ => ?_)
    · intro y0 y1 y2 y3 y4 y5 y6 y7 y8 y9 y10 y11
      unfold cordwoodlaw21_SnapsOnce.l1
      repeat' first
      | (with_reducible exact ih0 _ _ _ _ _ _ _ _ _ _)
      | (with_reducible exact ih1 _ _ _ _ _ _ _ _ _ _ _ _)
      | (with_reducible exact ih2 _ _ _ _ _ _ _ _ _ _)
      | (with_reducible exact ih3 _ _ _ _ _ _ _ _ _ _ _ _)
      | (with_reducible exact ih4 _ _ _ _ _ _ _ _ _ _ _ _ _)
      | (with_reducible exact cordwoodlaw21_awake.mono _)
      | (with_reducible exact cordwoodlaw21_done.mono _ _ _ _ _ _ _ _)
      | (with_reducible exact cordwoodlaw21_small.mono _ _)
      | (with_reducible exact cordwoodref08_Has.mono _ _ _)
      | (with_reducible exact LeO.refl _)
      | (with_reducible exact LeO.none _)
      | (with_reducible refine LeO.ite ?_ ?_)
      | (with_reducible refine LeO.bind ?_ (fun _ => ?_))
      | exact ih0 _ _ _ _ _ _ _ _ _ _
      | exact ih1 _ _ _ _ _ _ _ _ _ _ _ _
      | exact ih2 _ _ _ _ _ _ _ _ _ _
      | exact ih3 _ _ _ _ _ _ _ _ _ _ _ _
      | exact ih4 _ _ _ _ _ _ _ _ _ _ _ _ _
      | exact cordwoodlaw21_awake.mono _
      | exact cordwoodlaw21_done.mono _ _ _ _ _ _ _ _
      | exact cordwoodlaw21_small.mono _ _
      | exact cordwoodref08_Has.mono _ _ _
      | exact LeO.none _
      | refine LeO.ite ?_ ?_
      | refine LeO.bind ?_ (fun _ => ?_)
    · intro y0 y1 y2 y3 y4 y5 y6 y7 y8 y9 y10 y11 y12
      unfold cordwoodlaw21_SnapsOnce.j4
      repeat' first
      | (with_reducible exact ih0 _ _ _ _ _ _ _ _ _ _)
      | (with_reducible exact ih1 _ _ _ _ _ _ _ _ _ _ _ _)
      | (with_reducible exact ih2 _ _ _ _ _ _ _ _ _ _)
      | (with_reducible exact ih3 _ _ _ _ _ _ _ _ _ _ _ _)
      | (with_reducible exact ih4 _ _ _ _ _ _ _ _ _ _ _ _ _)
      | (with_reducible exact cordwoodlaw21_awake.mono _)
      | (with_reducible exact cordwoodlaw21_done.mono _ _ _ _ _ _ _ _)
      | (with_reducible exact cordwoodlaw21_small.mono _ _)
      | (with_reducible exact cordwoodref08_Has.mono _ _ _)
      | (with_reducible exact LeO.refl _)
      | (with_reducible exact LeO.none _)
      | (with_reducible refine LeO.ite ?_ ?_)
      | (with_reducible refine LeO.bind ?_ (fun _ => ?_))
      | exact ih0 _ _ _ _ _ _ _ _ _ _
      | exact ih1 _ _ _ _ _ _ _ _ _ _ _ _
      | exact ih2 _ _ _ _ _ _ _ _ _ _
      | exact ih3 _ _ _ _ _ _ _ _ _ _ _ _
      | exact ih4 _ _ _ _ _ _ _ _ _ _ _ _ _
      | exact cordwoodlaw21_awake.mono _
      | exact cordwoodlaw21_done.mono _ _ _ _ _ _ _ _
      | exact cordwoodlaw21_small.mono _ _
      | exact cordwoodref08_Has.mono _ _ _
      | exact LeO.none _
      | refine LeO.ite ?_ ?_
      | refine LeO.bind ?_ (fun _ => ?_)
theorem cordwoodlaw21_SnapsOnce.mono : ∀ a0 a1 k, LeO (cordwoodlaw21_SnapsOnce.f k a0 a1) (cordwoodlaw21_SnapsOnce.f (k + 1) a0 a1) := by
  intro a0 a1 k
  obtain ⟨ih0, ih1, ih2, ih3, ih4⟩ := cordwoodlaw21_SnapsOnce.mono_l k
  unfold cordwoodlaw21_SnapsOnce.f
  repeat' first
      | (with_reducible exact ih0 _ _ _ _ _ _ _ _ _ _)
      | (with_reducible exact ih1 _ _ _ _ _ _ _ _ _ _ _ _)
      | (with_reducible exact ih2 _ _ _ _ _ _ _ _ _ _)
      | (with_reducible exact ih3 _ _ _ _ _ _ _ _ _ _ _ _)
      | (with_reducible exact ih4 _ _ _ _ _ _ _ _ _ _ _ _ _)
      | (with_reducible exact cordwoodlaw21_awake.mono _)
      | (with_reducible exact cordwoodlaw21_done.mono _ _ _ _ _ _ _ _)
      | (with_reducible exact cordwoodlaw21_small.mono _ _)
      | (with_reducible exact cordwoodref08_Has.mono _ _ _)
      | (with_reducible exact LeO.refl _)
      | (with_reducible exact LeO.none _)
      | (with_reducible refine LeO.ite ?_ ?_)
      | (with_reducible refine LeO.bind ?_ (fun _ => ?_))
      | exact ih0 _ _ _ _ _ _ _ _ _ _
      | exact ih1 _ _ _ _ _ _ _ _ _ _ _ _
      | exact ih2 _ _ _ _ _ _ _ _ _ _
      | exact ih3 _ _ _ _ _ _ _ _ _ _ _ _
      | exact ih4 _ _ _ _ _ _ _ _ _ _ _ _ _
      | exact cordwoodlaw21_awake.mono _
      | exact cordwoodlaw21_done.mono _ _ _ _ _ _ _ _
      | exact cordwoodlaw21_small.mono _ _
      | exact cordwoodref08_Has.mono _ _ _
      | exact LeO.none _
      | refine LeO.ite ?_ ?_
      | refine LeO.bind ?_ (fun _ => ?_)
def cordwoodlaw21_SnapsOnce.T10 : Bool × List (List Nat × List Nat) := (true, [([], []), ([], []), ([], []), ([1, 2], [1, 2]), ([3], [3]), ([0, 4], [0, 4]), ([5], [5]), ([6], [6]), ([6], [6]), ([6], [6]), ([], []), ([10, 7, 5, 0, 1, 2, 3, 4, 5, 6, 7, 10], [7, 10]), ([8, 11, 0, 1, 2, 3, 4, 5, 6, 7, 8, 10, 11], [8]), ([9, 12, 0, 1, 2, 3, 4, 5, 6, 7, 8, 9, 10, 11, 12], [9])])
def cordwoodlaw21_SnapsOnce.B10 : List Nat := [0, 0, 0, 6, 14, 31, 63, 127, 127, 127, 0, 1279, 3583, 8191]
theorem cordwoodlaw21_SnapsOnce.tab10 : rtab .any (opsOf Try.f6 10) = cordwoodlaw21_SnapsOnce.T10 := by kernel_rfl
theorem cordwoodlaw21_SnapsOnce.bits10 : waitsOk cordwoodlaw21_SnapsOnce.T10.2 cordwoodlaw21_SnapsOnce.B10 = true := by kernel_rfl
def cordwoodlaw21_SnapsOnce.T21 : Bool × List (List Nat × List Nat) := (true, [([], []), ([], []), ([], []), ([1, 2], [1, 2]), ([3], [3]), ([0, 4], [0, 4]), ([5], [5]), ([6, 5], [6]), ([7], [7]), ([8, 7], [7, 8]), ([9, 7, 7], [7, 9]), ([10], [10]), ([10], [10]), ([12, 10], [10, 12]), ([11, 13, 10], [10, 11, 13]), ([14, 10], [10, 14]), ([10], [10]), ([10], [10]), ([16, 17, 10], [10, 16, 17]), ([18, 10], [10, 18]), ([15, 19, 10], [10, 15, 19]), ([10, 20, 7], [7, 10, 20]), ([7, 21], [7, 21])])
def cordwoodlaw21_SnapsOnce.B21 : List Nat := [0, 0, 0, 6, 14, 31, 63, 127, 255, 511, 1023, 2047, 2047, 6143, 16383, 32767, 2047, 2047, 198655, 460799, 1048575, 2097151, 4194303]
theorem cordwoodlaw21_SnapsOnce.tab21 : rtab .any (opsOf Try.f6 21) = cordwoodlaw21_SnapsOnce.T21 := by kernel_rfl
theorem cordwoodlaw21_SnapsOnce.bits21 : waitsOk cordwoodlaw21_SnapsOnce.T21.2 cordwoodlaw21_SnapsOnce.B21 = true := by kernel_rfl
set_option maxHeartbeats 8000000 in
set_option maxRecDepth 100000 in
theorem cordwoodlaw21_SnapsOnce.calls (k : Nat) (a0 : Int) (A1 : Option Addr) (c1 : Nat) (l1 : List (S50)) (r : Bool) (w : World) (hr1 : Kd.C k50 w A1 l1.length l1) (hc1 : l1.length ≤ c1) (h : cordwoodlaw21_SnapsOnce.f k a0 l1 = some r) :
    Calls Try.prog 6 #[.int .i64 a0, .slice A1 l1.length c1] w fun e w' => e = .returned (.bool r) ∧ Below w.heap.size w w' := by
  have hu28 := Try.underlying28
  have hu50 := Try.underlying50
  have HR1 := Aside0.mk hr1
  have HC1 := Aside0.mk hc1
  clear hr1 hc1
  have HB := Aside0.mk (Below.refl w.heap.size w)
  have H : ((cordwoodlaw21_awake.f k).bind fun t608 => ((cordwoodlaw21_small.f k l1).bind fun t609 => (if t609 = true then ((snaps_New.f a0).bind fun bt610 => (cordwoodlaw21_SnapsOnce.l0 k a0 l1 t608 0 ([] : List Int) 0 bt610.1 bt610.2.1 bt610.2.2.1 bt610.2.2.2)) else (some t608)))) = some r := h
  clear h
  replace H := Option.bind_eq_some_iff.mp H
  obtain ⟨t608, A30, H⟩ := H
  replace H : ((cordwoodlaw21_small.f k l1).bind fun t609 => (if t609 = true then ((snaps_New.f a0).bind fun bt610 => (cordwoodlaw21_SnapsOnce.l0 k a0 l1 t608 0 ([] : List Int) 0 bt610.1 bt610.2.1 bt610.2.2.1 bt610.2.2.2)) else (some t608))) = some r := H
  have A3 := Aside0.mk A30
  clear A30
  replace H := Option.bind_eq_some_iff.mp H
  obtain ⟨t609, A40, H⟩ := H
  replace H : (if t609 = true then ((snaps_New.f a0).bind fun bt610 => (cordwoodlaw21_SnapsOnce.l0 k a0 l1 t608 0 ([] : List Int) 0 bt610.1 bt610.2.1 bt610.2.2.1 bt610.2.2.2)) else (some t608)) = some r := H
  have A4 := Aside0.mk A40
  clear A40
  by_cases c5 : t609 = true
  · subst c5
    have H1 : ((snaps_New.f a0).bind fun bt610 => (cordwoodlaw21_SnapsOnce.l0 k a0 l1 t608 0 ([] : List Int) 0 bt610.1 bt610.2.1 bt610.2.2.1 bt610.2.2.2)) = some r := by rw [if_pos rfl] at H; exact H
    clear H
    have H := H1
    clear H1
    replace H := Option.bind_eq_some_iff.mp H
    obtain ⟨⟨t610, t613, t616, t617⟩, A60, H⟩ := H
    replace H : (cordwoodlaw21_SnapsOnce.l0 k a0 l1 t608 0 ([] : List Int) 0 t610 t613 t616 t617) = some r := H
    have A6 := Aside0.mk A60
    clear A60
    have H' := Aside0.mk H
    clear H
    go_enter Try.func6, Try.ntmps6
    go_wp2_with (first | ((with_reducible refine gate_callee (f := 9) rfl ?_); refine goesL_ (some 15) rfl rfl Try.func9 (by kernel_rfl) rfl #[] rfl (by (try simp only [List.map_toArray, List.map_cons, List.map_nil]); first | done | rfl | (simp only [List.length_drop, List.length_take]; rfl)) ?_; (with_reducible refine (cordwoodlaw21_awake.calls k  t608 _ A3.out).mono ?_); rintro e w7 ⟨rfl, hb⟩; refine ⟨_, rfl, ?_⟩; have n0_ := Aside0.mk (below_step (by repeat (first | (with_reducible first | exact HB.out | apply below_alloc | apply pw_below_drewN | apply below_drew1) | exact HB.out)) hb); clear HB; have HB := n0_; clear n0_; (try clear hb); (try clear hb2); (try clear hk); (try clear hi)) | ((with_reducible refine gate_callee (f := 17) rfl ?_); refine goesL_ (some 17) rfl rfl Try.func17 (by kernel_rfl) rfl #[.slice A1 l1.length c1] rfl (by (try simp only [List.map_toArray, List.map_cons, List.map_nil]); first | done | rfl | (simp only [List.length_drop, List.length_take]; rfl)) ?_; (with_reducible refine (cordwoodlaw21_small.calls k _ _ l1 true _ ?side1 ?side2 A4.out).mono ?_); (case side1 => repeat (first | exact (Kd.C_below HR1.out HB.out) | (with_reducible refine Kd.C_alloc ?_ _) | (with_reducible refine Kd.C_drewN ?_ _) | (with_reducible refine Kd.C_drew ?_))); (case side2 => exact HC1.out); rintro e w8 ⟨rfl, hb⟩; refine ⟨_, rfl, ?_⟩; have n0_ := Aside0.mk (below_step (by repeat (first | (with_reducible first | exact HB.out | apply below_alloc | apply pw_below_drewN | apply below_drew1) | exact HB.out)) hb); clear HB; have HB := n0_; clear n0_; (try clear hb); (try clear hb2); (try clear hk); (try clear hi)) | ((with_reducible refine gate_callee (f := 10) rfl ?_); refine goesL_ (some 21) rfl rfl Try.func10 (by kernel_rfl) rfl #[.int .i64 a0] rfl (by (try simp only [List.map_toArray, List.map_cons, List.map_nil]); first | done | rfl | (simp only [List.length_drop, List.length_take]; rfl)) ?_; (with_reducible refine (snaps_New.calls a0 t610 t613 t616 t617 _ A6.out).mono ?_); rintro e w9 ⟨v611, v614, rfl, ho0, ho1, hb⟩; refine ⟨_, rfl, ?_⟩; have n0_ := Aside0.mk (Kd.R_lower ho0 (below_size (by repeat (first | (with_reducible first | exact HB.out | apply below_alloc | apply pw_below_drewN | apply below_drew1) | exact HB.out)))); have n1_ := Aside0.mk (Kd.R_lower ho1 (below_size (by repeat (first | (with_reducible first | exact HB.out | apply below_alloc | apply pw_below_drewN | apply below_drew1) | exact HB.out)))); have n2_ := Aside0.mk (below_step (by repeat (first | (with_reducible first | exact HB.out | apply below_alloc | apply pw_below_drewN | apply below_drew1) | exact HB.out)) hb); clear HB; have HO612 := n0_; have HO615 := n1_; have HB := n2_; clear n0_ n1_ n2_; (try clear hb); (try clear hb2); (try clear hk); (try clear hi); (try clear ho0); (try clear ho1)) | ((with_reducible refine gate_dst (N := 6) rfl ?_); refine box_event ?hg (N := 6) ?hd (cs := #[.slice none 0 0, .slice none 0 0, .int .i64 0, .int .i64 0]) (t := 28) ?hr ?_; (case hd => rfl); (case hg => rfl); (case hr => first | (go_simp; done) | (go_simp; rfl)); intro gb618 hg w10 hbox hb; have n0_ := Aside0.mk (Kd.R_below (by (with_reducible repeat (first | apply Kd.R_alloc | apply Kd.R_drewN | apply Kd.R_drew)); exact HO612.out) hb); have n1_ := Aside0.mk (Kd.R_below (by (with_reducible repeat (first | apply Kd.R_alloc | apply Kd.R_drewN | apply Kd.R_drew)); exact HO615.out) hb); have n2_ := Aside0.mk (below_step (by repeat (first | (with_reducible first | exact HB.out | apply below_alloc | apply pw_below_drewN | apply below_drew1) | exact HB.out)) hb); have n3_ := Aside0.mk (hbox); have n4_ := Aside0.mk ((by rw [hg]; exact (below_size (by repeat (first | (with_reducible first | exact HB.out | apply below_alloc | apply pw_below_drewN | apply below_drew1) | exact HB.out))) : w.heap.size ≤ gb618)); have n5_ := Aside0.mk ((by rw [hg]; exact (below_size (by repeat (first | (with_reducible first | exact HB.out | apply below_alloc | apply pw_below_drewN | apply below_drew1) | exact HB.out))) : w.heap.size ≤ gb618)); clear HO612; clear HO615; clear HB; have HO612 := n0_; have HO615 := n1_; have HB := n2_; have BK618 := n3_; have GW618 := n4_; have GE618 := n5_; clear n0_ n1_ n2_ n3_ n4_ n5_; clear hb hbox hg; obtain ⟨Ao11, co11, eo11⟩ := Kd.R_slice HO612.out; subst eo11; have hcz12_0 : w10.cell? ⟨gb618, 0, none⟩ = some (.slice none 0 0) := (blk_cell BK618.out 0).trans rfl; have hcz12_1 : w10.cell? ⟨gb618, 1, none⟩ = some (.slice none 0 0) := (blk_cell BK618.out 1).trans rfl; have hcz12_2 : w10.cell? ⟨gb618, 2, none⟩ = some (.int .i64 0) := (blk_cell BK618.out 2).trans rfl; have hcz12_3 : w10.cell? ⟨gb618, 3, none⟩ = some (.int .i64 0) := (blk_cell BK618.out 3).trans rfl; have hfz12_0 := blk_frozen BK618.out 0; have hfz12_1 := blk_frozen BK618.out 1; have hfz12_2 := blk_frozen BK618.out 2; have hfz12_3 := blk_frozen BK618.out 3; obtain ⟨Ao13, co13, eo13⟩ := Kd.R_slice HO615.out; subst eo13))
    go_loopg [7, 8, 9] k (fun kq v7 v8 v9 w' => ∃ (x7_1 : Int) (x8_1 : List Int) (x9_1 : Int) (x619000_1 : List Int) (x619001_1 : List (List (S72))) (x619002_1 : Int) (x619003_1 : Int) (u619000 : Value) (u619001 : Value), v7 = .int .i64 x7_1 ∧ v9 = .int .i64 x9_1 ∧ Aside0 (cordwoodlaw21_SnapsOnce.l0 kq a0 l1 t608 x7_1 x8_1 x9_1 x619000_1 x619001_1 x619002_1 x619003_1 = some r) ∧ Aside0 (kq ≤ k) ∧ Aside0 (Kd.R (Kd.int .i64) 3 w' w.heap.size (fun k_ => some k_ ≠ (u619000 : Value).ownBlock) v8 x8_1) ∧ Aside0 (Kd.R (Kd.int .i64) 3 w' w.heap.size (fun k_ => some k_ ≠ (v8 : Value).ownBlock) u619000 x619000_1) ∧ Aside0 (Kd.V (Kd.slice 72 k72) 31 w' w.heap.size (fun k_ => some k_ ≠ (v8 : Value).ownBlock ∧ some k_ ≠ (u619000 : Value).ownBlock ∧ k_ ≠ gb618) u619001 x619001_1) ∧ Aside0 (w'.heap[gb618]? = some (.cells #[u619000, u619001, .int .i64 x619002_1, .int .i64 x619003_1] 28 (0, 0))) ∧ Aside0 (Below w.heap.size w w'))
    case atStart => exact ⟨(0), (([] : List Int)), (0), (t610), (t613), (t616), (t617), (.slice Ao11 t610.length co11), (.slice Ao13 t613.length co13), (by first | rfl | (simp; done) | (simp [*]; done)), (by first | rfl | (simp; done) | (simp [*]; done)), H', ⟨Nat.le_refl _⟩, ⟨by first | exact Kd.R_nil _ _ _ _ _ | exact Kd.N_nil _ _ _ _ _ | exact Kd.V_nil _ _ _ _ _ | exact Kd.Q_nil _ _ _ _ _ | exact Kd.S_nil _ _ _ _ _⟩, ⟨by (with_reducible repeat (first | apply Kd.R_alloc | apply Kd.R_drewN | apply Kd.R_drew)); exact Kd.R_mono (Kd.R_far (p := ⟨gb618, 3, none⟩) (Kd.R_far (p := ⟨gb618, 2, none⟩) (Kd.R_far (p := ⟨gb618, 1, none⟩) (Kd.R_far (p := ⟨gb618, 0, none⟩) (Kd.R_types HO612.out BK618.out (by decide)) (fun _ hk => hk.2) (.slice Ao11 t610.length co11)) (fun _ hk => hk.2) (.slice Ao13 t613.length co13)) (fun _ hk => hk.2) (.int .i64 t616)) (fun _ hk => hk.2) (.int .i64 t617)) (fun _ hk => (by simp [Value.ownBlock]))⟩, ⟨Kd.R_V (by (with_reducible repeat (first | apply Kd.R_alloc | apply Kd.R_drewN | apply Kd.R_drew)); exact Kd.R_mono (Kd.R_far (p := ⟨gb618, 3, none⟩) (Kd.R_far (p := ⟨gb618, 2, none⟩) (Kd.R_far (p := ⟨gb618, 1, none⟩) (Kd.R_far (p := ⟨gb618, 0, none⟩) (Kd.R_types (Kd.R_types HO615.out BK618.out (by decide)) BK618.out (by decide)) (fun _ hk => hk.2) (.slice Ao11 t610.length co11)) (fun _ hk => hk.2) (.slice Ao13 t613.length co13)) (fun _ hk => hk.2) (.int .i64 t616)) (fun _ hk => hk.2) (.int .i64 t617)) (fun _ hk => ⟨(by simp [Value.ownBlock]), ⟨hk.1.1, hk.1.2⟩⟩))⟩, ⟨by (with_reducible repeat (first | refine blk_drewN ?_ _ | refine blk_drew ?_ | refine blk_alloc ?_ _)); refine blk_put (cs := #[.slice Ao11 t610.length co11, .slice Ao13 t613.length co13, .int .i64 t616, .int .i64 0]) ?_ 3 _ rfl; (with_reducible repeat (first | refine blk_drewN ?_ _ | refine blk_drew ?_ | refine blk_alloc ?_ _)); refine blk_put (cs := #[.slice Ao11 t610.length co11, .slice Ao13 t613.length co13, .int .i64 0, .int .i64 0]) ?_ 2 _ rfl; (with_reducible repeat (first | refine blk_drewN ?_ _ | refine blk_drew ?_ | refine blk_alloc ?_ _)); refine blk_put (cs := #[.slice Ao11 t610.length co11, .slice none 0 0, .int .i64 0, .int .i64 0]) ?_ 1 _ rfl; (with_reducible repeat (first | refine blk_drewN ?_ _ | refine blk_drew ?_ | refine blk_alloc ?_ _)); refine blk_put (cs := #[.slice none 0 0, .slice none 0 0, .int .i64 0, .int .i64 0]) ?_ 0 _ rfl; (with_reducible repeat (first | refine blk_drewN ?_ _ | refine blk_drew ?_ | refine blk_alloc ?_ _)); exact BK618.out⟩, ⟨by repeat (first | (with_reducible first | exact HB.out | apply below_alloc | apply pw_below_drewN | apply below_drew1 | refine below_set ?_ GE618.out) | exact HB.out)⟩⟩
    case round =>
      clear H'
      try clear c1
      try clear p2
      try clear c5
      try clear c6
      try clear c9
      try clear c10
      try clear hcz12_0
      try clear hcz12_1
      try clear hcz12_2
      try clear hcz12_3
      try clear hfz12_0
      try clear hfz12_1
      try clear hfz12_2
      try clear hfz12_3
      obtain ⟨x7_1, x8_1, x9_1, x619000_1, x619001_1, x619002_1, x619003_1, u619000, u619001, rfl, rfl, HA, HK1, HO_8, HO_619000, HO_619001, BK618, HB⟩ := hrel
      cases gk with
      | zero => exact absurd HA.out (by simp [cordwoodlaw21_SnapsOnce.l0])
      | succ k1 =>
        have H := HA.out
        clear HA
        simp only [cordwoodlaw21_SnapsOnce.l0] at H
        by_cases c14 : x9_1 < (l1.length : Int)
        · rw [if_pos c14] at H
          have c14b0 : decide (x9_1 < (l1.length : Int)) = true := decide_eq_true c14
          clear c14
          by_cases c15 : 0 ≤ x9_1
          · rw [if_pos c15] at H
            have c15b0 : decide (0 ≤ x9_1) = true := decide_eq_true c15
            clear c15
            replace H := Option.bind_eq_some_iff.mp H
            obtain ⟨⟨t620, t623, t626, t627, t628, t629⟩, A160, H⟩ := H
            replace H : (if (Go.bits .and .i64 ((rd_T50 l1 x9_1).f0) 3) = 0 then (cordwoodlaw21_SnapsOnce.j1 k1 a0 l1 t608 x7_1 x8_1 x9_1 t628 (t629 == 0) t620 t623 t626 t627) else (cordwoodlaw21_SnapsOnce.j1 k1 a0 l1 t608 x7_1 x8_1 x9_1 t628 false t620 t623 t626 t627)) = some r := H
            have A16 := Aside0.mk A160
            clear A160
            have HC17 := Aside0.mk H
            clear H
            obtain ⟨Ao18, co18, eo18⟩ := Kd.R_slice HO_619000.out
            subst eo18
            obtain ⟨Ao19, co19, eo19⟩ := Kd.V_slice HO_619001.out
            subst eo19
            try go_wp2
            have n0_ := Aside0.mk (Kd.R_drew HO_8.out)
            have n1_ := Aside0.mk (Kd.R_drew HO_619000.out)
            have n2_ := Aside0.mk (Kd.V_drew HO_619001.out)
            have n3_ := Aside0.mk (blk_drew BK618.out)
            have n4_ := Aside0.mk (below_drew1 HB.out)
            clear HO_8
            clear HO_619000
            clear HO_619001
            clear BK618
            clear HB
            have HO_8 := n0_
            have HO_619000 := n1_
            have HO_619001 := n2_
            have BK618 := n3_
            have HB := n4_
            clear n0_ n1_ n2_ n3_ n4_
            have p619 : 0 ≤ (x9_1 : Int) := of_decide_eq_true (by first | (with_reducible assumption) | assumption)
            have q619 : x9_1 < (l1.length : Int) := of_decide_eq_true (by first | (with_reducible assumption) | assumption)
            obtain ⟨ad619, A619_2, c619_2, e619, hx619_0, hx619_1, hx619_2, hl619_2, hi619_2⟩ := at_T50 HR1.out x9_1 p619 q619
            have hw619_2 := hx619_2
            have hw619_1 := hx619_1
            have hw619_0 := hx619_0
            cases e619
            replace hx619_0 := (HB.out.cell (World.block_lt_of_cell? w _ hx619_0)).trans hx619_0
            replace hx619_1 := (HB.out.cell (World.block_lt_of_cell? w _ hx619_1)).trans hx619_1
            replace hx619_2 := (HB.out.cell (World.block_lt_of_cell? w _ hx619_2)).trans hx619_2
            have HR619_2 := Aside0.mk hi619_2
            have HC619_2 := Aside0.mk hl619_2
            clear hi619_2 hl619_2
            replace p619 := eq_true p619
            replace q619 := eq_true q619
            refine start_ (n := 14) (S := fun w' => w'.cell? ⟨gb618, 0, none⟩ = some (.slice Ao18 x619000_1.length co18) ∧ w'.cell? ⟨gb618, 1, none⟩ = some (.slice Ao19 x619001_1.length co19) ∧ w'.cell? ⟨gb618, 2, none⟩ = some (.int .i64 x619002_1) ∧ w'.cell? ⟨gb618, 3, none⟩ = some (.int .i64 x619003_1) ∧ w'.cell? (ad619.add ((x9_1).toNat * 3)) = some (.int .i64 ((rd_T50 l1 x9_1).f0)) ∧ w'.cell? ⟨(ad619.add ((x9_1).toNat * 3)).block, (ad619.add ((x9_1).toNat * 3)).off + 1, none⟩ = some (.int .i64 ((rd_T50 l1 x9_1).f1)) ∧ w'.cell? ⟨(ad619.add ((x9_1).toNat * 3)).block, (ad619.add ((x9_1).toNat * 3)).off + 2, none⟩ = some (.slice A619_2 ((rd_T50 l1 x9_1).f2).length c619_2)) (ds := []) #[false, false, false, false, false, false, false, false, false, false, false, false, false, false] (by kernel_rfl) rfl rfl ⟨(blk_cell BK618.out 0).trans rfl, (blk_cell BK618.out 1).trans rfl, (blk_cell BK618.out 2).trans rfl, (blk_cell BK618.out 3).trans rfl, ((HB.out.cell (World.block_lt_of_cell? w _ hw619_0)).trans hw619_0), ((HB.out.cell (World.block_lt_of_cell? w _ hw619_1)).trans hw619_1), ((HB.out.cell (World.block_lt_of_cell? w _ hw619_2)).trans hw619_2)⟩ (fun hHeld => ?_); refine with_tabW cordwoodlaw21_SnapsOnce.tab10 cordwoodlaw21_SnapsOnce.bits10 (fun HT_ HW_ => ?_)
            generalize wr.drew = w20 at HO_8 HO_619000 HO_619001 BK618 HB HR619_2 hx619_0 hx619_1 hx619_2 hHeld ⊢
            refine pure_ (i := 1) (N := some 30) (v := ?_) (a' := ?_) #[false, true, false, false, false, false, false, false, false, false, false, false, false, false] rfl rfl (any_of HT_.out (by kernel_rfl)) (fun _ _ _ h => h) (Or.inl ⟨by rfl, ?_⟩) ?_ ?_
            rotate_left
            · intro w'
              go_simp
              with_reducible rfl
            rotate_left
            · simp only [Act.put, List.setIfInBounds_toArray, List.set_cons_zero, List.set_cons_succ, i64_w, i32_w]
              rfl
            refine pure_ (i := 2) (N := some 31) (v := ?_) (a' := ?_) #[false, true, true, false, false, false, false, false, false, false, false, false, false, false] rfl rfl (any_of HT_.out (by kernel_rfl)) (fun _ _ _ h => h) (Or.inl ⟨by rfl, ?_⟩) ?_ ?_
            rotate_left
            · intro w'
              go_simp
              with_reducible rfl
            rotate_left
            · simp only [Act.put, List.setIfInBounds_toArray, List.set_cons_zero, List.set_cons_succ, i64_w, i32_w]
              rfl
            refine pure_ (i := 3) (N := some 32) (v := ?_) (a' := ?_) #[false, true, true, true, false, false, false, false, false, false, false, false, false, false] rfl rfl (any_of HT_.out (by kernel_rfl)) (fun _ _ _ h => h) (Or.inl ⟨by rfl, ?_⟩) ?_ ?_
            rotate_left
            · intro w'
              go_simp
              with_reducible rfl
            rotate_left
            · simp only [Act.put, List.setIfInBounds_toArray, List.set_cons_zero, List.set_cons_succ, i64_w, i32_w]
              rfl
            refine take_ (i := 0) (N := some 29) (v := ?_) (a' := ?_) #[true, true, true, true, false, false, false, false, false, false, false, false, false, false] rfl rfl (take_ofW HT_.out HW_.out (by kernel_rfl)) (fun _ _ _ h => h) (Or.inl ⟨by rfl, ?_⟩) hHeld ?_ ?_
            rotate_left
            · rintro w' ⟨s0, s1, s2, s3, s4, s5, s6⟩
              go_simp
              with_reducible rfl
            rotate_left
            · simp only [Act.put, List.setIfInBounds_toArray, List.set_cons_zero, List.set_cons_succ, i64_w, i32_w]
              rfl
            refine take_ (i := 4) (N := some 33) (v := ?_) (a' := ?_) #[true, true, true, true, true, false, false, false, false, false, false, false, false, false] rfl rfl (take_ofW HT_.out HW_.out (by kernel_rfl)) (fun _ _ _ h => h) (Or.inl ⟨by rfl, ?_⟩) hHeld ?_ ?_
            rotate_left
            · rintro w' ⟨s0, s1, s2, s3, s4, s5, s6⟩
              go_simp
              with_reducible rfl
            rotate_left
            · simp only [Act.put, List.setIfInBounds_toArray, List.set_cons_zero, List.set_cons_succ, i64_w, i32_w]
              rfl
            refine join_ (σ := Value × Value × Nat) 3 #[true, true, true, true, true, true, true, true, true, true, true, false, false, false] (fun s_ => [(34, .tuple #[.agg #[s_.1, s_.2.1, .int .i64 t626, .int .i64 t627], .int .i64 t628, .int .i64 t629]), (10, .pointer (some ⟨s_.2.2, 0, none⟩)), (28, .tuple #[.agg #[s_.1, s_.2.1, .int .i64 t626, .int .i64 t627], .int .i64 t628, .int .i64 t629]), (35, .agg #[s_.1, s_.2.1, .int .i64 t626, .int .i64 t627]), (36, .int .i64 t628), (37, .int .i64 t629)]) (fun s_ w' => (w'.cell? ⟨gb618, 0, none⟩ = some (.slice Ao18 x619000_1.length co18) ∧ w'.cell? ⟨gb618, 1, none⟩ = some (.slice Ao19 x619001_1.length co19) ∧ w'.cell? ⟨gb618, 2, none⟩ = some (.int .i64 x619002_1) ∧ w'.cell? ⟨gb618, 3, none⟩ = some (.int .i64 x619003_1) ∧ w'.cell? (ad619.add ((x9_1).toNat * 3)) = some (.int .i64 ((rd_T50 l1 x9_1).f0)) ∧ w'.cell? ⟨(ad619.add ((x9_1).toNat * 3)).block, (ad619.add ((x9_1).toNat * 3)).off + 1, none⟩ = some (.int .i64 ((rd_T50 l1 x9_1).f1)) ∧ w'.cell? ⟨(ad619.add ((x9_1).toNat * 3)).block, (ad619.add ((x9_1).toNat * 3)).off + 2, none⟩ = some (.slice A619_2 ((rd_T50 l1 x9_1).f2).length c619_2)) ∧ (Kd.R (Kd.int .i64) 3 w' w.heap.size (fun k_ => some k_ ≠ (u8 : Value).ownBlock) s_.1 t620) ∧ (Kd.V (Kd.slice 72 k72) 31 w' w.heap.size (fun k_ => some k_ ≠ (s_.1 : Value).ownBlock ∧ some k_ ≠ (u8 : Value).ownBlock ∧ k_ ≠ gb618 ∧ k_ ≠ s_.2.2) s_.2.1 t623) ∧ (Kd.V (Kd.slice 72 k72) 31 w' w.heap.size (fun k_ => some k_ ≠ (s_.1 : Value).ownBlock ∧ some k_ ≠ (u8 : Value).ownBlock ∧ k_ ≠ gb618 ∧ k_ ≠ s_.2.2) (.slice Ao19 x619001_1.length co19) x619001_1) ∧ (Kd.R (Kd.int .i64) 3 w' w.heap.size (fun k_ => some k_ ≠ (s_.1 : Value).ownBlock) u8 x8_1) ∧ (w'.heap[gb618]? = some (.cells #[.slice Ao18 x619000_1.length co18, .slice Ao19 x619001_1.length co19, .int .i64 x619002_1, .int .i64 x619003_1] 28 (0, 0))) ∧ (w'.heap[s_.2.2]? = some (.cells #[.slice none 0 0, .slice none 0 0, .int .i64 0, .int .i64 0] 28 (0, 0))) ∧ (w.heap.size ≤ s_.2.2) ∧ (w.heap.size ≤ s_.2.2) ∧ (gb618 ≠ s_.2.2) ∧ (s_.2.2 ≠ gb618) ∧ (Below w.heap.size w w')) ?_ ?_
            rotate_left
            · intro hCont
              refine two_ (i := 5) (j := 10) (Ni := some 34) (Nj := some 10) #[true, true, true, true, true, true, false, false, false, false, false, false, false, false] #[true, true, true, true, true, false, false, false, false, false, true, false, false, false] rfl rfl rfl rfl (two_of HT_.out (by kernel_rfl)) (by decide) (by decide) (fun K hK => ?_) (fun K hK => ?_)
              · skip
                refine goes_ Try.func19 (by kernel_rfl) rfl #[.agg #[.slice Ao18 x619000_1.length co18, .slice Ao19 x619001_1.length co19, .int .i64 x619002_1, .int .i64 x619003_1], .agg #[.int .i64 ((rd_T50 l1 x9_1).f0), .int .i64 ((rd_T50 l1 x9_1).f1), .slice A619_2 ((rd_T50 l1 x9_1).f2).length c619_2]] (by rfl) rfl rfl (by (try simp only [List.map_toArray, List.map_cons, List.map_nil]); first | done | rfl | (simp only [List.length_drop, List.length_take]; rfl)) ?_
                with_reducible refine (cordwoodlaw21_done.calls k1 (fun k_ => some k_ = (.slice Ao18 x619000_1.length co18 : Value).ownBlock) (.slice Ao18 x619000_1.length co18) x619000_1 (fun k_ => (some k_ ≠ (u8 : Value).ownBlock ∧ (some k_ ≠ (.slice Ao18 x619000_1.length co18 : Value).ownBlock ∧ k_ ≠ gb618))) _ _ x619001_1 x619002_1 x619003_1 ((rd_T50 l1 x9_1).f0) ((rd_T50 l1 x9_1).f1) (fun k_ => k_ < w.heap.size) _ _ ((rd_T50 l1 x9_1).f2) t620 t623 t626 t627 t628 t629 w _ ?side1 ?side2 ?side3 ?side4 A16.out).mono ?_
                (case side1 => repeat (first | (with_reducible first | exact HB.out | apply below_alloc | apply pw_below_drewN | apply below_drew1 | refine below_set ?_ GE618.out) | exact HB.out))
                (case side2 => exact Kd.R_tight rfl HO_619000.out)
                (case side3 => exact Kd.V_mono (HO_619001.out) (fun k_ hk_ => ⟨hk_, hk_.2.1⟩))
                (case side4 => exact Kd.V_mono (Kd.V_mk HC619_2.out (Kd.F_below (Kd.C_F k72_heap HR619_2.out) (by repeat (first | (with_reducible first | exact HB.out | apply below_alloc | apply pw_below_drewN | apply below_drew1 | refine below_set ?_ GE618.out) | exact HB.out)))) (fun k_ hk_ => ⟨hk_, fun e_ => Nat.not_le.2 hk_ (Kd.R_base HO_619000.out k_ e_.symm)⟩))
                rintro e w21 ⟨v621, v624, rfl, ho0, ho1, hb, hkp⟩
                refine ⟨_, rfl, ?_⟩
                have n0_ := Aside0.mk (Kd.R_mono (ok' := fun k_ => some k_ ≠ (v621 : Value).ownBlock) (Kd.R_keptB (HO_8.out) hkp (fun k_ hk_ hs_ => (hk_) hs_)) (fun k_ hk_ => fun e_ => Or.elim (ho0.1 k_ e_.symm) (fun hs_ => hk_.2.1 hs_) (fun hn_ => Nat.not_le.2 hk_.2.2 hn_)))
                have n1_ := Aside0.mk (Kd.V_mono (ok' := fun k_ => some k_ ≠ (u8 : Value).ownBlock ∧ k_ ≠ gb618 ∧ some k_ ≠ (v621 : Value).ownBlock) (Kd.V_keptB (HO_619001.out) hkp (fun k_ hk_ hs_ => (hk_.2.1) hs_)) (fun k_ hk_ => ⟨hk_.1.1, hk_.1.2.2, fun e_ => Or.elim (ho0.1 k_ e_.symm) (fun hs_ => hk_.2.1 hs_) (fun hn_ => Nat.not_le.2 hk_.2.2 hn_)⟩))
                have n2_ := Aside0.mk (blk_kept (by (with_reducible repeat (first | refine blk_drewN ?_ _ | refine blk_drew ?_ | refine blk_alloc ?_ _)); exact BK618.out) hkp (fun hs_ => (fun e_ => (Kd.R_ne HO_619000.out BK618.out (by decide)) e_) hs_))
                have n3_ := Aside0.mk (Kd.R_mono (ok' := fun k_ => some k_ ≠ (u8 : Value).ownBlock) ho0 (fun k_ hk_ => Or.elim hk_ (fun hs_ => fun e_ => (((HO_8.out).1 k_ e_.symm)) hs_) (fun hn_ => (Kd.fresh' (Kd.R_lt (by (with_reducible repeat (first | apply Kd.R_alloc | apply Kd.R_drewN | apply Kd.R_drew)); exact HO_8.out)) k_ hn_))))
                have n4_ := Aside0.mk (Kd.V_mono (ok' := fun k_ => some k_ ≠ (v621 : Value).ownBlock ∧ some k_ ≠ (u8 : Value).ownBlock ∧ k_ ≠ gb618) ho1 (fun k_ hk_ => ⟨hk_.2, Or.elim hk_.1 (fun hs_ => Or.elim hs_ (fun hs_ => fun e_ => (((HO_8.out).1 k_ e_.symm)) hs_) (fun hs_ => Or.elim hs_ (fun hs_ => hs_.1) (fun hs_ => fun e_ => Nat.not_le.2 hs_ (Kd.R_base HO_8.out k_ e_.symm)))) (fun hn_ => (Kd.fresh' (Kd.R_lt (by (with_reducible repeat (first | apply Kd.R_alloc | apply Kd.R_drewN | apply Kd.R_drew)); exact HO_8.out)) k_ hn_)), Or.elim hk_.1 (fun hs_ => Or.elim hs_ (fun hs_ => fun e_ => (Kd.R_ne HO_619000.out BK618.out (by decide)) (by rw [← e_]; exact hs_)) (fun hs_ => Or.elim hs_ (fun hs_ => hs_.2.2) (fun hs_ => fun e_ => Nat.not_le.2 hs_ (by rw [e_]; exact GW618.out)))) (fun hn_ => (Kd.freshB (g := gb618) (o := .cells #[.slice Ao18 x619000_1.length co18, .slice Ao19 x619001_1.length co19, .int .i64 x619002_1, .int .i64 x619003_1] 28 (0, 0)) (by (with_reducible repeat (first | refine blk_drewN ?_ _ | refine blk_drew ?_ | refine blk_alloc ?_ _)); exact BK618.out) k_ hn_))⟩))
                have n5_ := Aside0.mk (hb)
                clear HO_8
                clear HO_619001
                clear BK618
                clear HB
                clear HO_619000
                have HO_8 := n0_
                have HO_619001 := n1_
                have BK618 := n2_
                have HO622 := n3_
                have HO625 := n4_
                have HB := n5_
                clear n0_ n1_ n2_ n3_ n4_ n5_
                (try clear hb)
                (try clear hkp)
                (try clear ho0)
                (try clear ho1)
                refine hK.out _ _ ⟨(blk_cell BK618.out 0).trans rfl, (blk_cell BK618.out 1).trans rfl, (blk_cell BK618.out 2).trans rfl, (blk_cell BK618.out 3).trans rfl, ((HB.out.cell (World.block_lt_of_cell? w _ hw619_0)).trans hw619_0), ((HB.out.cell (World.block_lt_of_cell? w _ hw619_1)).trans hw619_1), ((HB.out.cell (World.block_lt_of_cell? w _ hw619_2)).trans hw619_2)⟩ (fun hHeld => ?_)
                clear hK K
                refine norm_ (a' := ?_) ?_ ?_
                rotate_left
                · show Act.put _ (some 34) _ = _
                  simp only [Act.put, List.setIfInBounds_toArray, List.set_cons_zero, List.set_cons_succ, i64_w, i32_w]
                  rfl
                refine pure_ (i := 6) (N := some 28) (v := ?_) (a' := ?_) #[true, true, true, true, true, true, true, false, false, false, false, false, false, false] rfl rfl (any_of HT_.out (by kernel_rfl)) (fun _ _ _ h => h) (Or.inl ⟨by rfl, ?_⟩) ?_ ?_
                rotate_left
                · intro w'
                  go_simp
                  with_reducible rfl
                rotate_left
                · simp only [Act.put, List.setIfInBounds_toArray, List.set_cons_zero, List.set_cons_succ, i64_w, i32_w]
                  rfl
                refine pure_ (i := 7) (N := some 35) (v := ?_) (a' := ?_) #[true, true, true, true, true, true, true, true, false, false, false, false, false, false] rfl rfl (any_of HT_.out (by kernel_rfl)) (fun _ _ _ h => h) (Or.inl ⟨by rfl, ?_⟩) ?_ ?_
                rotate_left
                · intro w'
                  go_simp
                  with_reducible rfl
                rotate_left
                · simp only [Act.put, List.setIfInBounds_toArray, List.set_cons_zero, List.set_cons_succ, i64_w, i32_w]
                  rfl
                refine pure_ (i := 8) (N := some 36) (v := ?_) (a' := ?_) #[true, true, true, true, true, true, true, true, true, false, false, false, false, false] rfl rfl (any_of HT_.out (by kernel_rfl)) (fun _ _ _ h => h) (Or.inl ⟨by rfl, ?_⟩) ?_ ?_
                rotate_left
                · intro w'
                  go_simp
                  with_reducible rfl
                rotate_left
                · simp only [Act.put, List.setIfInBounds_toArray, List.set_cons_zero, List.set_cons_succ, i64_w, i32_w]
                  rfl
                refine pure_ (i := 9) (N := some 37) (v := ?_) (a' := ?_) #[true, true, true, true, true, true, true, true, true, true, false, false, false, false] rfl rfl (any_of HT_.out (by kernel_rfl)) (fun _ _ _ h => h) (Or.inl ⟨by rfl, ?_⟩) ?_ ?_
                rotate_left
                · intro w'
                  go_simp
                  with_reducible rfl
                rotate_left
                · simp only [Act.put, List.setIfInBounds_toArray, List.set_cons_zero, List.set_cons_succ, i64_w, i32_w]
                  rfl
                refine one_ (i := 10) (N := some 10) #[true, true, true, true, true, true, true, true, true, true, true, false, false, false] rfl rfl (one_of HT_.out (by kernel_rfl)) (by decide) (fun K hK => ?_)
                refine box_step ?hg (N := 10) ?hd (cs := #[.slice none 0 0, .slice none 0 0, .int .i64 0, .int .i64 0]) (t := 28) ?hr ?_; (case hd => rfl); (case hg => rfl); (case hr => first | (go_simp; done) | (go_simp; rfl))
                intro gb630 hg w22 hbox hb
                have n0_ := Aside0.mk (Kd.R_below (by (with_reducible repeat (first | apply Kd.R_alloc | apply Kd.R_drewN | apply Kd.R_drew)); exact HO_8.out) hb)
                have n1_ := Aside0.mk (Kd.V_below (Kd.V_elderB (by (with_reducible repeat (first | apply Kd.V_alloc | apply Kd.V_drewN | apply Kd.V_drew)); exact HO_619001.out) gb630 (Nat.le_of_eq hg.symm)) hb)
                have n2_ := Aside0.mk (Kd.R_below (by (with_reducible repeat (first | apply Kd.R_alloc | apply Kd.R_drewN | apply Kd.R_drew)); exact HO622.out) hb)
                have n3_ := Aside0.mk (Kd.V_below (Kd.V_elderB (by (with_reducible repeat (first | apply Kd.V_alloc | apply Kd.V_drewN | apply Kd.V_drew)); exact HO625.out) gb630 (Nat.le_of_eq hg.symm)) hb)
                have n4_ := Aside0.mk (blk_below (g := gb618) (o := .cells #[.slice Ao18 x619000_1.length co18, .slice Ao19 x619001_1.length co19, .int .i64 x619002_1, .int .i64 x619003_1] 28 (0, 0)) (by (with_reducible repeat (first | refine blk_drewN ?_ _ | refine blk_drew ?_ | refine blk_alloc ?_ _)); exact BK618.out) hb)
                have n5_ := Aside0.mk (below_step (by repeat (first | (with_reducible first | exact HB.out | apply below_alloc | apply pw_below_drewN | apply below_drew1 | refine below_set ?_ GE618.out) | exact HB.out)) hb)
                have n6_ := Aside0.mk (hbox)
                have n7_ := Aside0.mk ((by rw [hg]; exact (below_size (by repeat (first | (with_reducible first | exact HB.out | apply below_alloc | apply pw_below_drewN | apply below_drew1 | refine below_set ?_ GE618.out) | exact HB.out))) : w.heap.size ≤ gb630))
                have n8_ := Aside0.mk ((by rw [hg]; exact (below_size (by repeat (first | (with_reducible first | exact HB.out | apply below_alloc | apply pw_below_drewN | apply below_drew1 | refine below_set ?_ GE618.out) | exact HB.out))) : w.heap.size ≤ gb630))
                have n9_ := Aside0.mk ((by rw [hg]; exact Nat.ne_of_lt (blk_lt (g := gb618) (o := .cells #[.slice Ao18 x619000_1.length co18, .slice Ao19 x619001_1.length co19, .int .i64 x619002_1, .int .i64 x619003_1] 28 (0, 0)) (by (with_reducible repeat (first | refine blk_drewN ?_ _ | refine blk_drew ?_ | refine blk_alloc ?_ _)); exact BK618.out)) : gb618 ≠ gb630))
                have n10_ := Aside0.mk ((by rw [hg]; exact Nat.ne_of_gt (blk_lt (g := gb618) (o := .cells #[.slice Ao18 x619000_1.length co18, .slice Ao19 x619001_1.length co19, .int .i64 x619002_1, .int .i64 x619003_1] 28 (0, 0)) (by (with_reducible repeat (first | refine blk_drewN ?_ _ | refine blk_drew ?_ | refine blk_alloc ?_ _)); exact BK618.out)) : gb630 ≠ gb618))
                clear HO_8
                clear HO_619001
                clear HO622
                clear HO625
                clear BK618
                clear HB
                have HO_8 := n0_
                have HO_619001 := n1_
                have HO622 := n2_
                have HO625 := n3_
                have BK618 := n4_
                have HB := n5_
                have BK630 := n6_
                have GW630 := n7_
                have GE630 := n8_
                have NB618_630 := n9_
                have NB630_618 := n10_
                clear n0_ n1_ n2_ n3_ n4_ n5_ n6_ n7_ n8_ n9_ n10_
                clear hb hbox hg
                refine hK.out _ _ ⟨(blk_cell BK618.out 0).trans rfl, (blk_cell BK618.out 1).trans rfl, (blk_cell BK618.out 2).trans rfl, (blk_cell BK618.out 3).trans rfl, ((HB.out.cell (World.block_lt_of_cell? w _ hw619_0)).trans hw619_0), ((HB.out.cell (World.block_lt_of_cell? w _ hw619_1)).trans hw619_1), ((HB.out.cell (World.block_lt_of_cell? w _ hw619_2)).trans hw619_2)⟩ (fun hHeld => ?_)
                clear hK K
                refine norm_ (a' := ?_) ?_ ?_
                rotate_left
                · show Act.put _ (some 10) _ = _
                  simp only [Act.put, List.setIfInBounds_toArray, List.set_cons_zero, List.set_cons_succ, i64_w, i32_w]
                  rfl
                exact norm_ (by simp only [putAll, Act.put, List.setIfInBounds_toArray, List.set_cons_zero, List.set_cons_succ]) (hCont (v621, v624, gb630) _ ⟨hHeld, (by (with_reducible repeat (first | apply Kd.R_alloc | apply Kd.R_drewN | apply Kd.R_drew)); exact HO622.out), (by (with_reducible repeat (first | apply Kd.V_alloc | apply Kd.V_drewN | apply Kd.V_drew)); exact Kd.V_mono HO625.out (fun _ hk => ⟨hk.1.1, ⟨hk.1.2.1, ⟨hk.1.2.2, hk.2⟩⟩⟩)), (by (with_reducible repeat (first | apply Kd.V_alloc | apply Kd.V_drewN | apply Kd.V_drew)); exact Kd.V_mono HO_619001.out (fun _ hk => ⟨hk.1.2.2, ⟨hk.1.1, ⟨hk.1.2.1, hk.2⟩⟩⟩)), (by (with_reducible repeat (first | apply Kd.R_alloc | apply Kd.R_drewN | apply Kd.R_drew)); exact HO_8.out), (by (with_reducible repeat (first | refine blk_drewN ?_ _ | refine blk_drew ?_ | refine blk_alloc ?_ _)); exact BK618.out), (by (with_reducible repeat (first | refine blk_drewN ?_ _ | refine blk_drew ?_ | refine blk_alloc ?_ _)); exact BK630.out), GW630.out, GE630.out, NB618_630.out, NB630_618.out, (by repeat (first | (with_reducible first | exact HB.out | apply below_alloc | apply pw_below_drewN | apply below_drew1 | refine below_set ?_ GE618.out | refine below_set ?_ GE630.out) | exact HB.out))⟩)
              · skip
                refine box_step ?hg (N := 10) ?hd (cs := #[.slice none 0 0, .slice none 0 0, .int .i64 0, .int .i64 0]) (t := 28) ?hr ?_; (case hd => rfl); (case hg => rfl); (case hr => first | (go_simp; done) | (go_simp; rfl))
                intro gb630 hg w21 hbox hb
                have n0_ := Aside0.mk (Kd.R_below (by (with_reducible repeat (first | apply Kd.R_alloc | apply Kd.R_drewN | apply Kd.R_drew)); exact HO_8.out) hb)
                have n1_ := Aside0.mk (Kd.R_below (by (with_reducible repeat (first | apply Kd.R_alloc | apply Kd.R_drewN | apply Kd.R_drew)); exact HO_619000.out) hb)
                have n2_ := Aside0.mk (Kd.V_below (Kd.V_elderB (by (with_reducible repeat (first | apply Kd.V_alloc | apply Kd.V_drewN | apply Kd.V_drew)); exact HO_619001.out) gb630 (Nat.le_of_eq hg.symm)) hb)
                have n3_ := Aside0.mk (blk_below (g := gb618) (o := .cells #[.slice Ao18 x619000_1.length co18, .slice Ao19 x619001_1.length co19, .int .i64 x619002_1, .int .i64 x619003_1] 28 (0, 0)) (by (with_reducible repeat (first | refine blk_drewN ?_ _ | refine blk_drew ?_ | refine blk_alloc ?_ _)); exact BK618.out) hb)
                have n4_ := Aside0.mk (below_step (by repeat (first | (with_reducible first | exact HB.out | apply below_alloc | apply pw_below_drewN | apply below_drew1 | refine below_set ?_ GE618.out) | exact HB.out)) hb)
                have n5_ := Aside0.mk (hbox)
                have n6_ := Aside0.mk ((by rw [hg]; exact (below_size (by repeat (first | (with_reducible first | exact HB.out | apply below_alloc | apply pw_below_drewN | apply below_drew1 | refine below_set ?_ GE618.out) | exact HB.out))) : w.heap.size ≤ gb630))
                have n7_ := Aside0.mk ((by rw [hg]; exact (below_size (by repeat (first | (with_reducible first | exact HB.out | apply below_alloc | apply pw_below_drewN | apply below_drew1 | refine below_set ?_ GE618.out) | exact HB.out))) : w.heap.size ≤ gb630))
                have n8_ := Aside0.mk ((by rw [hg]; exact Nat.ne_of_lt (blk_lt (g := gb618) (o := .cells #[.slice Ao18 x619000_1.length co18, .slice Ao19 x619001_1.length co19, .int .i64 x619002_1, .int .i64 x619003_1] 28 (0, 0)) (by (with_reducible repeat (first | refine blk_drewN ?_ _ | refine blk_drew ?_ | refine blk_alloc ?_ _)); exact BK618.out)) : gb618 ≠ gb630))
                have n9_ := Aside0.mk ((by rw [hg]; exact Nat.ne_of_gt (blk_lt (g := gb618) (o := .cells #[.slice Ao18 x619000_1.length co18, .slice Ao19 x619001_1.length co19, .int .i64 x619002_1, .int .i64 x619003_1] 28 (0, 0)) (by (with_reducible repeat (first | refine blk_drewN ?_ _ | refine blk_drew ?_ | refine blk_alloc ?_ _)); exact BK618.out)) : gb630 ≠ gb618))
                clear HO_8
                clear HO_619000
                clear HO_619001
                clear BK618
                clear HB
                have HO_8 := n0_
                have HO_619000 := n1_
                have HO_619001 := n2_
                have BK618 := n3_
                have HB := n4_
                have BK630 := n5_
                have GW630 := n6_
                have GE630 := n7_
                have NB618_630 := n8_
                have NB630_618 := n9_
                clear n0_ n1_ n2_ n3_ n4_ n5_ n6_ n7_ n8_ n9_
                clear hb hbox hg
                refine hK.out _ _ ⟨(blk_cell BK618.out 0).trans rfl, (blk_cell BK618.out 1).trans rfl, (blk_cell BK618.out 2).trans rfl, (blk_cell BK618.out 3).trans rfl, ((HB.out.cell (World.block_lt_of_cell? w _ hw619_0)).trans hw619_0), ((HB.out.cell (World.block_lt_of_cell? w _ hw619_1)).trans hw619_1), ((HB.out.cell (World.block_lt_of_cell? w _ hw619_2)).trans hw619_2)⟩ (fun hHeld => ?_)
                clear hK K
                refine norm_ (a' := ?_) ?_ ?_
                rotate_left
                · show Act.put _ (some 10) _ = _
                  simp only [Act.put, List.setIfInBounds_toArray, List.set_cons_zero, List.set_cons_succ, i64_w, i32_w]
                  rfl
                refine one_ (i := 5) (N := some 34) #[true, true, true, true, true, true, false, false, false, false, true, false, false, false] rfl rfl (one_of HT_.out (by kernel_rfl)) (by decide) (fun K hK => ?_)
                refine goes_ Try.func19 (by kernel_rfl) rfl #[.agg #[.slice Ao18 x619000_1.length co18, .slice Ao19 x619001_1.length co19, .int .i64 x619002_1, .int .i64 x619003_1], .agg #[.int .i64 ((rd_T50 l1 x9_1).f0), .int .i64 ((rd_T50 l1 x9_1).f1), .slice A619_2 ((rd_T50 l1 x9_1).f2).length c619_2]] (by rfl) rfl rfl (by (try simp only [List.map_toArray, List.map_cons, List.map_nil]); first | done | rfl | (simp only [List.length_drop, List.length_take]; rfl)) ?_
                with_reducible refine (cordwoodlaw21_done.calls k1 (fun k_ => some k_ = (.slice Ao18 x619000_1.length co18 : Value).ownBlock) (.slice Ao18 x619000_1.length co18) x619000_1 (fun k_ => ((some k_ ≠ (u8 : Value).ownBlock ∧ (some k_ ≠ (.slice Ao18 x619000_1.length co18 : Value).ownBlock ∧ k_ ≠ gb618)) ∧ k_ ≠ gb630)) _ _ x619001_1 x619002_1 x619003_1 ((rd_T50 l1 x9_1).f0) ((rd_T50 l1 x9_1).f1) (fun k_ => k_ < w.heap.size) _ _ ((rd_T50 l1 x9_1).f2) t620 t623 t626 t627 t628 t629 w _ ?side1 ?side2 ?side3 ?side4 A16.out).mono ?_
                (case side1 => repeat (first | (with_reducible first | exact HB.out | apply below_alloc | apply pw_below_drewN | apply below_drew1 | refine below_set ?_ GE618.out | refine below_set ?_ GE630.out) | exact HB.out))
                (case side2 => exact Kd.R_tight rfl HO_619000.out)
                (case side3 => exact Kd.V_mono (HO_619001.out) (fun k_ hk_ => ⟨hk_, hk_.1.2.1⟩))
                (case side4 => exact Kd.V_mono (Kd.V_mk HC619_2.out (Kd.F_below (Kd.C_F k72_heap HR619_2.out) (by repeat (first | (with_reducible first | exact HB.out | apply below_alloc | apply pw_below_drewN | apply below_drew1 | refine below_set ?_ GE618.out | refine below_set ?_ GE630.out) | exact HB.out)))) (fun k_ hk_ => ⟨hk_, fun e_ => Nat.not_le.2 hk_ (Kd.R_base HO_619000.out k_ e_.symm)⟩))
                rintro e w22 ⟨v621, v624, rfl, ho0, ho1, hb, hkp⟩
                refine ⟨_, rfl, ?_⟩
                have n0_ := Aside0.mk (Kd.R_mono (ok' := fun k_ => some k_ ≠ (v621 : Value).ownBlock) (Kd.R_keptB (HO_8.out) hkp (fun k_ hk_ hs_ => (hk_) hs_)) (fun k_ hk_ => fun e_ => Or.elim (ho0.1 k_ e_.symm) (fun hs_ => hk_.2.1 hs_) (fun hn_ => Nat.not_le.2 hk_.2.2 hn_)))
                have n1_ := Aside0.mk (Kd.V_mono (ok' := fun k_ => some k_ ≠ (u8 : Value).ownBlock ∧ k_ ≠ gb618 ∧ k_ ≠ gb630 ∧ some k_ ≠ (v621 : Value).ownBlock) (Kd.V_keptB (HO_619001.out) hkp (fun k_ hk_ hs_ => (hk_.1.2.1) hs_)) (fun k_ hk_ => ⟨hk_.1.1.1, hk_.1.1.2.2, hk_.1.2, fun e_ => Or.elim (ho0.1 k_ e_.symm) (fun hs_ => hk_.2.1 hs_) (fun hn_ => Nat.not_le.2 hk_.2.2 hn_)⟩))
                have n2_ := Aside0.mk (blk_kept (by (with_reducible repeat (first | refine blk_drewN ?_ _ | refine blk_drew ?_ | refine blk_alloc ?_ _)); exact BK618.out) hkp (fun hs_ => (fun e_ => (Kd.R_ne HO_619000.out BK618.out (by decide)) e_) hs_))
                have n3_ := Aside0.mk (blk_kept (by (with_reducible repeat (first | refine blk_drewN ?_ _ | refine blk_drew ?_ | refine blk_alloc ?_ _)); exact BK630.out) hkp (fun hs_ => (fun e_ => (Kd.R_ne HO_619000.out BK630.out (by decide)) e_) hs_))
                have n4_ := Aside0.mk (Kd.R_mono (ok' := fun k_ => some k_ ≠ (u8 : Value).ownBlock) ho0 (fun k_ hk_ => Or.elim hk_ (fun hs_ => fun e_ => (((HO_8.out).1 k_ e_.symm)) hs_) (fun hn_ => (Kd.fresh' (Kd.R_lt (by (with_reducible repeat (first | apply Kd.R_alloc | apply Kd.R_drewN | apply Kd.R_drew)); exact HO_8.out)) k_ hn_))))
                have n5_ := Aside0.mk (Kd.V_mono (ok' := fun k_ => some k_ ≠ (v621 : Value).ownBlock ∧ some k_ ≠ (u8 : Value).ownBlock ∧ k_ ≠ gb618 ∧ k_ ≠ gb630) ho1 (fun k_ hk_ => ⟨hk_.2, Or.elim hk_.1 (fun hs_ => Or.elim hs_ (fun hs_ => fun e_ => (((HO_8.out).1 k_ e_.symm)) hs_) (fun hs_ => Or.elim hs_ (fun hs_ => hs_.1.1) (fun hs_ => fun e_ => Nat.not_le.2 hs_ (Kd.R_base HO_8.out k_ e_.symm)))) (fun hn_ => (Kd.fresh' (Kd.R_lt (by (with_reducible repeat (first | apply Kd.R_alloc | apply Kd.R_drewN | apply Kd.R_drew)); exact HO_8.out)) k_ hn_)), Or.elim hk_.1 (fun hs_ => Or.elim hs_ (fun hs_ => fun e_ => (Kd.R_ne HO_619000.out BK618.out (by decide)) (by rw [← e_]; exact hs_)) (fun hs_ => Or.elim hs_ (fun hs_ => hs_.1.2.2) (fun hs_ => fun e_ => Nat.not_le.2 hs_ (by rw [e_]; exact GW618.out)))) (fun hn_ => (Kd.freshB (g := gb618) (o := .cells #[.slice Ao18 x619000_1.length co18, .slice Ao19 x619001_1.length co19, .int .i64 x619002_1, .int .i64 x619003_1] 28 (0, 0)) (by (with_reducible repeat (first | refine blk_drewN ?_ _ | refine blk_drew ?_ | refine blk_alloc ?_ _)); exact BK618.out) k_ hn_)), Or.elim hk_.1 (fun hs_ => Or.elim hs_ (fun hs_ => fun e_ => (Kd.R_ne HO_619000.out BK630.out (by decide)) (by rw [← e_]; exact hs_)) (fun hs_ => Or.elim hs_ (fun hs_ => hs_.2) (fun hs_ => fun e_ => Nat.not_le.2 hs_ (by rw [e_]; exact GW630.out)))) (fun hn_ => (Kd.freshB (g := gb630) (o := .cells #[.slice none 0 0, .slice none 0 0, .int .i64 0, .int .i64 0] 28 (0, 0)) (by (with_reducible repeat (first | refine blk_drewN ?_ _ | refine blk_drew ?_ | refine blk_alloc ?_ _)); exact BK630.out) k_ hn_))⟩))
                have n6_ := Aside0.mk (hb)
                clear HO_8
                clear HO_619001
                clear BK618
                clear BK630
                clear HB
                clear HO_619000
                have HO_8 := n0_
                have HO_619001 := n1_
                have BK618 := n2_
                have BK630 := n3_
                have HO622 := n4_
                have HO625 := n5_
                have HB := n6_
                clear n0_ n1_ n2_ n3_ n4_ n5_ n6_
                (try clear hb)
                (try clear hkp)
                (try clear ho0)
                (try clear ho1)
                refine hK.out _ _ ⟨(blk_cell BK618.out 0).trans rfl, (blk_cell BK618.out 1).trans rfl, (blk_cell BK618.out 2).trans rfl, (blk_cell BK618.out 3).trans rfl, ((HB.out.cell (World.block_lt_of_cell? w _ hw619_0)).trans hw619_0), ((HB.out.cell (World.block_lt_of_cell? w _ hw619_1)).trans hw619_1), ((HB.out.cell (World.block_lt_of_cell? w _ hw619_2)).trans hw619_2)⟩ (fun hHeld => ?_)
                clear hK K
                refine norm_ (a' := ?_) ?_ ?_
                rotate_left
                · show Act.put _ (some 34) _ = _
                  simp only [Act.put, List.setIfInBounds_toArray, List.set_cons_zero, List.set_cons_succ, i64_w, i32_w]
                  rfl
                refine pure_ (i := 6) (N := some 28) (v := ?_) (a' := ?_) #[true, true, true, true, true, true, true, false, false, false, true, false, false, false] rfl rfl (any_of HT_.out (by kernel_rfl)) (fun _ _ _ h => h) (Or.inl ⟨by rfl, ?_⟩) ?_ ?_
                rotate_left
                · intro w'
                  go_simp
                  with_reducible rfl
                rotate_left
                · simp only [Act.put, List.setIfInBounds_toArray, List.set_cons_zero, List.set_cons_succ, i64_w, i32_w]
                  rfl
                refine pure_ (i := 7) (N := some 35) (v := ?_) (a' := ?_) #[true, true, true, true, true, true, true, true, false, false, true, false, false, false] rfl rfl (any_of HT_.out (by kernel_rfl)) (fun _ _ _ h => h) (Or.inl ⟨by rfl, ?_⟩) ?_ ?_
                rotate_left
                · intro w'
                  go_simp
                  with_reducible rfl
                rotate_left
                · simp only [Act.put, List.setIfInBounds_toArray, List.set_cons_zero, List.set_cons_succ, i64_w, i32_w]
                  rfl
                refine pure_ (i := 8) (N := some 36) (v := ?_) (a' := ?_) #[true, true, true, true, true, true, true, true, true, false, true, false, false, false] rfl rfl (any_of HT_.out (by kernel_rfl)) (fun _ _ _ h => h) (Or.inl ⟨by rfl, ?_⟩) ?_ ?_
                rotate_left
                · intro w'
                  go_simp
                  with_reducible rfl
                rotate_left
                · simp only [Act.put, List.setIfInBounds_toArray, List.set_cons_zero, List.set_cons_succ, i64_w, i32_w]
                  rfl
                refine pure_ (i := 9) (N := some 37) (v := ?_) (a' := ?_) #[true, true, true, true, true, true, true, true, true, true, true, false, false, false] rfl rfl (any_of HT_.out (by kernel_rfl)) (fun _ _ _ h => h) (Or.inl ⟨by rfl, ?_⟩) ?_ ?_
                rotate_left
                · intro w'
                  go_simp
                  with_reducible rfl
                rotate_left
                · simp only [Act.put, List.setIfInBounds_toArray, List.set_cons_zero, List.set_cons_succ, i64_w, i32_w]
                  rfl
                exact norm_ (by simp only [putAll, Act.put, List.setIfInBounds_toArray, List.set_cons_zero, List.set_cons_succ]) (hCont (v621, v624, gb630) _ ⟨hHeld, (by (with_reducible repeat (first | apply Kd.R_alloc | apply Kd.R_drewN | apply Kd.R_drew)); exact HO622.out), (by (with_reducible repeat (first | apply Kd.V_alloc | apply Kd.V_drewN | apply Kd.V_drew)); exact HO625.out), (by (with_reducible repeat (first | apply Kd.V_alloc | apply Kd.V_drewN | apply Kd.V_drew)); exact Kd.V_mono HO_619001.out (fun _ hk => ⟨hk.2.2.2, ⟨hk.1, ⟨hk.2.1, hk.2.2.1⟩⟩⟩)), (by (with_reducible repeat (first | apply Kd.R_alloc | apply Kd.R_drewN | apply Kd.R_drew)); exact HO_8.out), (by (with_reducible repeat (first | refine blk_drewN ?_ _ | refine blk_drew ?_ | refine blk_alloc ?_ _)); exact BK618.out), (by (with_reducible repeat (first | refine blk_drewN ?_ _ | refine blk_drew ?_ | refine blk_alloc ?_ _)); exact BK630.out), GW630.out, GE630.out, NB618_630.out, NB630_618.out, (by repeat (first | (with_reducible first | exact HB.out | apply below_alloc | apply pw_below_drewN | apply below_drew1 | refine below_set ?_ GE618.out | refine below_set ?_ GE630.out) | exact HB.out))⟩)
            rintro ⟨v621, v624, gb630⟩ w23 ⟨hS_, h0_, h1_, h2_, h3_, h4_, h5_, h6_, h7_, h8_, h9_, h10_⟩
            have n0_ : Aside0 (Kd.R (Kd.int .i64) 3 w23 w.heap.size (fun k_ => some k_ ≠ (u8 : Value).ownBlock) v621 t620) := ⟨h0_⟩
            have n1_ : Aside0 (Kd.V (Kd.slice 72 k72) 31 w23 w.heap.size (fun k_ => some k_ ≠ (v621 : Value).ownBlock ∧ some k_ ≠ (u8 : Value).ownBlock ∧ k_ ≠ gb618 ∧ k_ ≠ gb630) v624 t623) := ⟨h1_⟩
            have n2_ : Aside0 (Kd.V (Kd.slice 72 k72) 31 w23 w.heap.size (fun k_ => some k_ ≠ (v621 : Value).ownBlock ∧ some k_ ≠ (u8 : Value).ownBlock ∧ k_ ≠ gb618 ∧ k_ ≠ gb630) (.slice Ao19 x619001_1.length co19) x619001_1) := ⟨h2_⟩
            have n3_ : Aside0 (Kd.R (Kd.int .i64) 3 w23 w.heap.size (fun k_ => some k_ ≠ (v621 : Value).ownBlock) u8 x8_1) := ⟨h3_⟩
            have n4_ : Aside0 (w23.heap[gb618]? = some (.cells #[.slice Ao18 x619000_1.length co18, .slice Ao19 x619001_1.length co19, .int .i64 x619002_1, .int .i64 x619003_1] 28 (0, 0))) := ⟨h4_⟩
            have n5_ : Aside0 (w23.heap[gb630]? = some (.cells #[.slice none 0 0, .slice none 0 0, .int .i64 0, .int .i64 0] 28 (0, 0))) := ⟨h5_⟩
            have n6_ : Aside0 (w.heap.size ≤ gb630) := ⟨h6_⟩
            have n7_ : Aside0 (w.heap.size ≤ gb630) := ⟨h7_⟩
            have n8_ : Aside0 (gb618 ≠ gb630) := ⟨h8_⟩
            have n9_ : Aside0 (gb630 ≠ gb618) := ⟨h9_⟩
            have n10_ : Aside0 (Below w.heap.size w w23) := ⟨h10_⟩
            clear HO_8
            clear HO_619000
            clear HO_619001
            clear BK618
            clear HB
            clear h0_ h1_ h2_ h3_ h4_ h5_ h6_ h7_ h8_ h9_ h10_
            have HO622 := n0_
            have HO625 := n1_
            have HO_619001 := n2_
            have HO_8 := n3_
            have BK618 := n4_
            have BK630 := n5_
            have GW630 := n6_
            have GE630 := n7_
            have NB618_630 := n8_
            have NB630_618 := n9_
            have HB := n10_
            clear n0_ n1_ n2_ n3_ n4_ n5_ n6_ n7_ n8_ n9_ n10_
            have hHeld : w23.cell? ⟨gb618, 0, none⟩ = some (.slice Ao18 x619000_1.length co18) ∧ w23.cell? ⟨gb618, 1, none⟩ = some (.slice Ao19 x619001_1.length co19) ∧ w23.cell? ⟨gb618, 2, none⟩ = some (.int .i64 x619002_1) ∧ w23.cell? ⟨gb618, 3, none⟩ = some (.int .i64 x619003_1) ∧ w23.cell? (ad619.add ((x9_1).toNat * 3)) = some (.int .i64 ((rd_T50 l1 x9_1).f0)) ∧ w23.cell? ⟨(ad619.add ((x9_1).toNat * 3)).block, (ad619.add ((x9_1).toNat * 3)).off + 1, none⟩ = some (.int .i64 ((rd_T50 l1 x9_1).f1)) ∧ w23.cell? ⟨(ad619.add ((x9_1).toNat * 3)).block, (ad619.add ((x9_1).toNat * 3)).off + 2, none⟩ = some (.slice A619_2 ((rd_T50 l1 x9_1).f2).length c619_2) := hS_
            obtain ⟨Ao24, co24, eo24⟩ := Kd.R_slice HO622.out
            (first | subst eo24 | (injection eo24 with f1_ f2_ f3_; have f4_ := f1_.symm; have f5_ := f3_.symm; clear f1_ f2_ f3_; subst f4_; subst f5_))
            obtain ⟨Ao26, co26, eo26⟩ := Kd.V_slice HO625.out
            (first | subst eo26 | (injection eo26 with f1_ f2_ f3_; have f4_ := f1_.symm; have f5_ := f3_.symm; clear f1_ f2_ f3_; subst f4_; subst f5_))
            refine norm_ (a' := ?_) ?_ ?_
            rotate_left
            · simp only [putAll, Act.put, List.setIfInBounds_toArray, List.set_cons_zero, List.set_cons_succ]
              rfl
            refine one_ (i := 11) (N := none) #[true, true, true, true, true, true, true, true, true, true, true, true, false, false] rfl rfl (one_of HT_.out (by kernel_rfl)) (by decide) (fun K hK => ?_)
            have hs25 : w23.cell? ⟨gb630, 0, none⟩ = some (.slice none 0 0) := (blk_cell BK630.out 0).trans rfl
            have hfs25 := blk_frozen BK630.out 0
            have hns25_0 := NB618_630.out
            have hms25_0 := NB630_618.out
            have hs27 : w23.cell? ⟨gb630, 1, none⟩ = some (.slice none 0 0) := (blk_cell BK630.out 1).trans rfl
            have hfs27 := blk_frozen BK630.out 1
            have hns27_0 := NB618_630.out
            have hms27_0 := NB630_618.out
            have hs28 : w23.cell? ⟨gb630, 2, none⟩ = some (.int .i64 0) := (blk_cell BK630.out 2).trans rfl
            have hfs28 := blk_frozen BK630.out 2
            have hns28_0 := NB618_630.out
            have hms28_0 := NB630_618.out
            have hs29 : w23.cell? ⟨gb630, 3, none⟩ = some (.int .i64 0) := (blk_cell BK630.out 3).trans rfl
            have hfs29 := blk_frozen BK630.out 3
            have hns29_0 := NB618_630.out
            have hms29_0 := NB630_618.out
            refine skip_ (w1 := ?_) (by rfl) rfl ?_ ?_
            rotate_left
            · go_simp
              rfl
            refine hK.out _ _ ⟨((cell_far (p := ⟨gb630, _, none⟩) NB618_630.out _).trans (((cell_far (p := ⟨gb630, _, none⟩) NB618_630.out _).trans (((cell_far (p := ⟨gb630, _, none⟩) NB618_630.out _).trans (((cell_far (p := ⟨gb630, _, none⟩) NB618_630.out _).trans (hHeld.1)))))))), ((cell_far (p := ⟨gb630, _, none⟩) NB618_630.out _).trans (((cell_far (p := ⟨gb630, _, none⟩) NB618_630.out _).trans (((cell_far (p := ⟨gb630, _, none⟩) NB618_630.out _).trans (((cell_far (p := ⟨gb630, _, none⟩) NB618_630.out _).trans (hHeld.2.1)))))))), ((cell_far (p := ⟨gb630, _, none⟩) NB618_630.out _).trans (((cell_far (p := ⟨gb630, _, none⟩) NB618_630.out _).trans (((cell_far (p := ⟨gb630, _, none⟩) NB618_630.out _).trans (((cell_far (p := ⟨gb630, _, none⟩) NB618_630.out _).trans (hHeld.2.2.1)))))))), ((cell_far (p := ⟨gb630, _, none⟩) NB618_630.out _).trans (((cell_far (p := ⟨gb630, _, none⟩) NB618_630.out _).trans (((cell_far (p := ⟨gb630, _, none⟩) NB618_630.out _).trans (((cell_far (p := ⟨gb630, _, none⟩) NB618_630.out _).trans (hHeld.2.2.2.1)))))))), ((cell_far (p := ⟨gb630, _, none⟩) (by first | exact Nat.ne_of_lt (Nat.lt_of_lt_of_le (by have := World.block_lt_of_cell? _ _ hw619_0; first | rwa [add_block] at this | exact this) GW630.out) | (rw [add_block]; exact Nat.ne_of_lt (Nat.lt_of_lt_of_le (by have := World.block_lt_of_cell? _ _ hw619_0; first | rwa [add_block] at this | exact this) GW630.out)) | (show (Addr.add _ _).block ≠ _; rw [add_block]; exact Nat.ne_of_lt (Nat.lt_of_lt_of_le (by have := World.block_lt_of_cell? _ _ hw619_0; first | rwa [add_block] at this | exact this) GW630.out)) | (dsimp only; exact Nat.ne_of_lt (Nat.lt_of_lt_of_le (by have := World.block_lt_of_cell? _ _ hw619_0; first | rwa [add_block] at this | exact this) GW630.out))) _).trans (((cell_far (p := ⟨gb630, _, none⟩) (by first | exact Nat.ne_of_lt (Nat.lt_of_lt_of_le (by have := World.block_lt_of_cell? _ _ hw619_0; first | rwa [add_block] at this | exact this) GW630.out) | (rw [add_block]; exact Nat.ne_of_lt (Nat.lt_of_lt_of_le (by have := World.block_lt_of_cell? _ _ hw619_0; first | rwa [add_block] at this | exact this) GW630.out)) | (show (Addr.add _ _).block ≠ _; rw [add_block]; exact Nat.ne_of_lt (Nat.lt_of_lt_of_le (by have := World.block_lt_of_cell? _ _ hw619_0; first | rwa [add_block] at this | exact this) GW630.out)) | (dsimp only; exact Nat.ne_of_lt (Nat.lt_of_lt_of_le (by have := World.block_lt_of_cell? _ _ hw619_0; first | rwa [add_block] at this | exact this) GW630.out))) _).trans (((cell_far (p := ⟨gb630, _, none⟩) (by first | exact Nat.ne_of_lt (Nat.lt_of_lt_of_le (by have := World.block_lt_of_cell? _ _ hw619_0; first | rwa [add_block] at this | exact this) GW630.out) | (rw [add_block]; exact Nat.ne_of_lt (Nat.lt_of_lt_of_le (by have := World.block_lt_of_cell? _ _ hw619_0; first | rwa [add_block] at this | exact this) GW630.out)) | (show (Addr.add _ _).block ≠ _; rw [add_block]; exact Nat.ne_of_lt (Nat.lt_of_lt_of_le (by have := World.block_lt_of_cell? _ _ hw619_0; first | rwa [add_block] at this | exact this) GW630.out)) | (dsimp only; exact Nat.ne_of_lt (Nat.lt_of_lt_of_le (by have := World.block_lt_of_cell? _ _ hw619_0; first | rwa [add_block] at this | exact this) GW630.out))) _).trans (((cell_far (p := ⟨gb630, _, none⟩) (by first | exact Nat.ne_of_lt (Nat.lt_of_lt_of_le (by have := World.block_lt_of_cell? _ _ hw619_0; first | rwa [add_block] at this | exact this) GW630.out) | (rw [add_block]; exact Nat.ne_of_lt (Nat.lt_of_lt_of_le (by have := World.block_lt_of_cell? _ _ hw619_0; first | rwa [add_block] at this | exact this) GW630.out)) | (show (Addr.add _ _).block ≠ _; rw [add_block]; exact Nat.ne_of_lt (Nat.lt_of_lt_of_le (by have := World.block_lt_of_cell? _ _ hw619_0; first | rwa [add_block] at this | exact this) GW630.out)) | (dsimp only; exact Nat.ne_of_lt (Nat.lt_of_lt_of_le (by have := World.block_lt_of_cell? _ _ hw619_0; first | rwa [add_block] at this | exact this) GW630.out))) _).trans (hHeld.2.2.2.2.1)))))))), ((cell_far (p := ⟨gb630, _, none⟩) (by first | exact Nat.ne_of_lt (Nat.lt_of_lt_of_le (by have := World.block_lt_of_cell? _ _ hw619_1; first | rwa [add_block] at this | exact this) GW630.out) | (rw [add_block]; exact Nat.ne_of_lt (Nat.lt_of_lt_of_le (by have := World.block_lt_of_cell? _ _ hw619_1; first | rwa [add_block] at this | exact this) GW630.out)) | (show (Addr.add _ _).block ≠ _; rw [add_block]; exact Nat.ne_of_lt (Nat.lt_of_lt_of_le (by have := World.block_lt_of_cell? _ _ hw619_1; first | rwa [add_block] at this | exact this) GW630.out)) | (dsimp only; exact Nat.ne_of_lt (Nat.lt_of_lt_of_le (by have := World.block_lt_of_cell? _ _ hw619_1; first | rwa [add_block] at this | exact this) GW630.out))) _).trans (((cell_far (p := ⟨gb630, _, none⟩) (by first | exact Nat.ne_of_lt (Nat.lt_of_lt_of_le (by have := World.block_lt_of_cell? _ _ hw619_1; first | rwa [add_block] at this | exact this) GW630.out) | (rw [add_block]; exact Nat.ne_of_lt (Nat.lt_of_lt_of_le (by have := World.block_lt_of_cell? _ _ hw619_1; first | rwa [add_block] at this | exact this) GW630.out)) | (show (Addr.add _ _).block ≠ _; rw [add_block]; exact Nat.ne_of_lt (Nat.lt_of_lt_of_le (by have := World.block_lt_of_cell? _ _ hw619_1; first | rwa [add_block] at this | exact this) GW630.out)) | (dsimp only; exact Nat.ne_of_lt (Nat.lt_of_lt_of_le (by have := World.block_lt_of_cell? _ _ hw619_1; first | rwa [add_block] at this | exact this) GW630.out))) _).trans (((cell_far (p := ⟨gb630, _, none⟩) (by first | exact Nat.ne_of_lt (Nat.lt_of_lt_of_le (by have := World.block_lt_of_cell? _ _ hw619_1; first | rwa [add_block] at this | exact this) GW630.out) | (rw [add_block]; exact Nat.ne_of_lt (Nat.lt_of_lt_of_le (by have := World.block_lt_of_cell? _ _ hw619_1; first | rwa [add_block] at this | exact this) GW630.out)) | (show (Addr.add _ _).block ≠ _; rw [add_block]; exact Nat.ne_of_lt (Nat.lt_of_lt_of_le (by have := World.block_lt_of_cell? _ _ hw619_1; first | rwa [add_block] at this | exact this) GW630.out)) | (dsimp only; exact Nat.ne_of_lt (Nat.lt_of_lt_of_le (by have := World.block_lt_of_cell? _ _ hw619_1; first | rwa [add_block] at this | exact this) GW630.out))) _).trans (((cell_far (p := ⟨gb630, _, none⟩) (by first | exact Nat.ne_of_lt (Nat.lt_of_lt_of_le (by have := World.block_lt_of_cell? _ _ hw619_1; first | rwa [add_block] at this | exact this) GW630.out) | (rw [add_block]; exact Nat.ne_of_lt (Nat.lt_of_lt_of_le (by have := World.block_lt_of_cell? _ _ hw619_1; first | rwa [add_block] at this | exact this) GW630.out)) | (show (Addr.add _ _).block ≠ _; rw [add_block]; exact Nat.ne_of_lt (Nat.lt_of_lt_of_le (by have := World.block_lt_of_cell? _ _ hw619_1; first | rwa [add_block] at this | exact this) GW630.out)) | (dsimp only; exact Nat.ne_of_lt (Nat.lt_of_lt_of_le (by have := World.block_lt_of_cell? _ _ hw619_1; first | rwa [add_block] at this | exact this) GW630.out))) _).trans (hHeld.2.2.2.2.2.1)))))))), ((cell_far (p := ⟨gb630, _, none⟩) (by first | exact Nat.ne_of_lt (Nat.lt_of_lt_of_le (by have := World.block_lt_of_cell? _ _ hw619_2; first | rwa [add_block] at this | exact this) GW630.out) | (rw [add_block]; exact Nat.ne_of_lt (Nat.lt_of_lt_of_le (by have := World.block_lt_of_cell? _ _ hw619_2; first | rwa [add_block] at this | exact this) GW630.out)) | (show (Addr.add _ _).block ≠ _; rw [add_block]; exact Nat.ne_of_lt (Nat.lt_of_lt_of_le (by have := World.block_lt_of_cell? _ _ hw619_2; first | rwa [add_block] at this | exact this) GW630.out)) | (dsimp only; exact Nat.ne_of_lt (Nat.lt_of_lt_of_le (by have := World.block_lt_of_cell? _ _ hw619_2; first | rwa [add_block] at this | exact this) GW630.out))) _).trans (((cell_far (p := ⟨gb630, _, none⟩) (by first | exact Nat.ne_of_lt (Nat.lt_of_lt_of_le (by have := World.block_lt_of_cell? _ _ hw619_2; first | rwa [add_block] at this | exact this) GW630.out) | (rw [add_block]; exact Nat.ne_of_lt (Nat.lt_of_lt_of_le (by have := World.block_lt_of_cell? _ _ hw619_2; first | rwa [add_block] at this | exact this) GW630.out)) | (show (Addr.add _ _).block ≠ _; rw [add_block]; exact Nat.ne_of_lt (Nat.lt_of_lt_of_le (by have := World.block_lt_of_cell? _ _ hw619_2; first | rwa [add_block] at this | exact this) GW630.out)) | (dsimp only; exact Nat.ne_of_lt (Nat.lt_of_lt_of_le (by have := World.block_lt_of_cell? _ _ hw619_2; first | rwa [add_block] at this | exact this) GW630.out))) _).trans (((cell_far (p := ⟨gb630, _, none⟩) (by first | exact Nat.ne_of_lt (Nat.lt_of_lt_of_le (by have := World.block_lt_of_cell? _ _ hw619_2; first | rwa [add_block] at this | exact this) GW630.out) | (rw [add_block]; exact Nat.ne_of_lt (Nat.lt_of_lt_of_le (by have := World.block_lt_of_cell? _ _ hw619_2; first | rwa [add_block] at this | exact this) GW630.out)) | (show (Addr.add _ _).block ≠ _; rw [add_block]; exact Nat.ne_of_lt (Nat.lt_of_lt_of_le (by have := World.block_lt_of_cell? _ _ hw619_2; first | rwa [add_block] at this | exact this) GW630.out)) | (dsimp only; exact Nat.ne_of_lt (Nat.lt_of_lt_of_le (by have := World.block_lt_of_cell? _ _ hw619_2; first | rwa [add_block] at this | exact this) GW630.out))) _).trans (((cell_far (p := ⟨gb630, _, none⟩) (by first | exact Nat.ne_of_lt (Nat.lt_of_lt_of_le (by have := World.block_lt_of_cell? _ _ hw619_2; first | rwa [add_block] at this | exact this) GW630.out) | (rw [add_block]; exact Nat.ne_of_lt (Nat.lt_of_lt_of_le (by have := World.block_lt_of_cell? _ _ hw619_2; first | rwa [add_block] at this | exact this) GW630.out)) | (show (Addr.add _ _).block ≠ _; rw [add_block]; exact Nat.ne_of_lt (Nat.lt_of_lt_of_le (by have := World.block_lt_of_cell? _ _ hw619_2; first | rwa [add_block] at this | exact this) GW630.out)) | (dsimp only; exact Nat.ne_of_lt (Nat.lt_of_lt_of_le (by have := World.block_lt_of_cell? _ _ hw619_2; first | rwa [add_block] at this | exact this) GW630.out))) _).trans (hHeld.2.2.2.2.2.2))))))))⟩ (fun hHeld => ?_)
            clear hK K
            refine pure_ (i := 12) (N := some 11) (v := ?_) (a' := ?_) #[true, true, true, true, true, true, true, true, true, true, true, true, true, false] rfl rfl (any_of HT_.out (by kernel_rfl)) (fun _ _ _ h => h) (Or.inl ⟨by rfl, ?_⟩) ?_ ?_
            rotate_left
            · intro w'
              go_simp
              with_reducible rfl
            rotate_left
            · simp only [Act.put, List.setIfInBounds_toArray, List.set_cons_zero, List.set_cons_succ, i64_w, i32_w]
              rfl
            refine pure_ (i := 13) (N := some 12) (v := ?_) (a' := ?_) #[true, true, true, true, true, true, true, true, true, true, true, true, true, true] rfl rfl (any_of HT_.out (by kernel_rfl)) (fun _ _ _ h => h) (Or.inl ⟨by rfl, ?_⟩) ?_ ?_
            rotate_left
            · intro w'
              go_simp
              with_reducible rfl
            rotate_left
            · simp only [Act.put, List.setIfInBounds_toArray, List.set_cons_zero, List.set_cons_succ, i64_w, i32_w]
              rfl
            refine done_ (done_of HT_.out (by kernel_rfl)) ?_
            have hnb30 := NB630_618.out
            have hnc30 := NB618_630.out
            have hcz31_0 : w23.cell? ⟨gb630, 0, none⟩ = some (.slice none 0 0) := (blk_cell BK630.out 0).trans rfl
            have hcz31_1 : w23.cell? ⟨gb630, 1, none⟩ = some (.slice none 0 0) := (blk_cell BK630.out 1).trans rfl
            have hcz31_2 : w23.cell? ⟨gb630, 2, none⟩ = some (.int .i64 0) := (blk_cell BK630.out 2).trans rfl
            have hcz31_3 : w23.cell? ⟨gb630, 3, none⟩ = some (.int .i64 0) := (blk_cell BK630.out 3).trans rfl
            have hfz31_0 := blk_frozen BK630.out 0
            have hfz31_1 := blk_frozen BK630.out 1
            have hfz31_2 := blk_frozen BK630.out 2
            have hfz31_3 := blk_frozen BK630.out 3
            have hcz32_0 : w23.cell? ⟨gb618, 0, none⟩ = some (.slice Ao18 x619000_1.length co18) := (blk_cell BK618.out 0).trans rfl
            have hcz32_1 : w23.cell? ⟨gb618, 1, none⟩ = some (.slice Ao19 x619001_1.length co19) := (blk_cell BK618.out 1).trans rfl
            have hcz32_2 : w23.cell? ⟨gb618, 2, none⟩ = some (.int .i64 x619002_1) := (blk_cell BK618.out 2).trans rfl
            have hcz32_3 : w23.cell? ⟨gb618, 3, none⟩ = some (.int .i64 x619003_1) := (blk_cell BK618.out 3).trans rfl
            have hfz32_0 := blk_frozen BK618.out 0
            have hfz32_1 := blk_frozen BK618.out 1
            have hfz32_2 := blk_frozen BK618.out 2
            have hfz32_3 := blk_frozen BK618.out 3
            go_upto_region 12 with (fail)
            go_cut [49] (fun v49 wc => ∃ (kq : Nat) (x49_16 : Bool), v49 = .bool x49_16 ∧ Aside0 (cordwoodlaw21_SnapsOnce.j1 kq a0 l1 t608 x7_1 x8_1 x9_1 t628 x49_16 t620 t623 t626 t627 = some r) ∧ Aside0 (kq ≤ k1) ∧ Aside0 (Kd.R (Kd.int .i64) 3 wc w.heap.size (fun k_ => some k_ ≠ ((.slice Ao24 t620.length co24) : Value).ownBlock ∧ some k_ ≠ ((.slice Ao24 t620.length co24) : Value).ownBlock) u8 x8_1) ∧ Aside0 (Kd.R (Kd.int .i64) 3 wc w.heap.size (fun k_ => some k_ ≠ (u8 : Value).ownBlock) (.slice Ao24 t620.length co24) t620) ∧ Aside0 (Kd.V (Kd.slice 72 k72) 31 wc w.heap.size (fun k_ => some k_ ≠ (u8 : Value).ownBlock ∧ some k_ ≠ ((.slice Ao24 t620.length co24) : Value).ownBlock ∧ some k_ ≠ ((.slice Ao24 t620.length co24) : Value).ownBlock ∧ k_ ≠ gb618 ∧ k_ ≠ gb630) (.slice Ao26 t623.length co26) t623) ∧ Aside0 (Kd.R (Kd.int .i64) 3 wc w.heap.size (fun k_ => some k_ ≠ (u8 : Value).ownBlock) (.slice Ao24 t620.length co24) t620) ∧ Aside0 (Kd.V (Kd.slice 72 k72) 31 wc w.heap.size (fun k_ => some k_ ≠ (u8 : Value).ownBlock ∧ some k_ ≠ ((.slice Ao24 t620.length co24) : Value).ownBlock ∧ some k_ ≠ ((.slice Ao24 t620.length co24) : Value).ownBlock ∧ k_ ≠ gb618 ∧ k_ ≠ gb630) (.slice Ao26 t623.length co26) t623) ∧ Aside0 (wc.heap[gb618]? = some (.cells #[(.slice Ao24 t620.length co24), (.slice Ao26 t623.length co26), .int .i64 t626, .int .i64 t627] 28 (0, 0))) ∧ Aside0 (wc.heap[gb630]? = some (.cells #[(.slice Ao24 t620.length co24), (.slice Ao26 t623.length co26), .int .i64 t626, .int .i64 t627] 28 (0, 0))) ∧ Aside0 (Below w.heap.size w wc))
            case first =>
              have H := HC17.out
              clear HC17
              by_cases c33 : (Go.bits .and .i64 ((rd_T50 l1 x9_1).f0) 3) = 0
              · rw [if_pos c33] at H
                have c33b0 : ((Go.bits .and .i64 ((rd_T50 l1 x9_1).f0) 3) == 0) = true := beq_iff_eq.mpr c33
                have c33b1 : ((Go.bits .and .i64 ((rd_T50 l1 x9_1).f0) 3) != 0) = false := bne_eq_false_iff_eq.mpr c33
                clear c33
                (first | rw [c33b0] | (simp only [i64_w, i32_w]; rw [c33b0]) | skip)
                have H' := Aside0.mk H
                clear H
                have p631 : 0 ≤ (x9_1 : Int) := of_decide_eq_true (by first | (with_reducible assumption) | assumption)
                have q631 : x9_1 < (l1.length : Int) := of_decide_eq_true (by first | (with_reducible assumption) | assumption)
                obtain ⟨ad631, A631_2, c631_2, e631, hx631_0, hx631_1, hx631_2, hl631_2, hi631_2⟩ := at_T50 HR1.out x9_1 p631 q631
                obtain rfl : ad619 = ad631 := (by injection e631)
                have hn631_0 : ad619.block ≠ gb630 := Nat.ne_of_lt (Nat.lt_of_lt_of_le (by have := World.block_lt_of_cell? _ _ hx631_0; first | rwa [add_block] at this | exact this) GW630.out)
                have hn631_1 : ad619.block ≠ gb630 := Nat.ne_of_lt (Nat.lt_of_lt_of_le (by have := World.block_lt_of_cell? _ _ hx631_0; first | rwa [add_block] at this | exact this) GW630.out)
                have hn631_2 : ad619.block ≠ gb630 := Nat.ne_of_lt (Nat.lt_of_lt_of_le (by have := World.block_lt_of_cell? _ _ hx631_0; first | rwa [add_block] at this | exact this) GW630.out)
                have hn631_3 : ad619.block ≠ gb630 := Nat.ne_of_lt (Nat.lt_of_lt_of_le (by have := World.block_lt_of_cell? _ _ hx631_0; first | rwa [add_block] at this | exact this) GW630.out)
                have hn631_4 : ad619.block ≠ gb618 := Nat.ne_of_lt (Nat.lt_of_lt_of_le (by have := World.block_lt_of_cell? _ _ hx631_0; first | rwa [add_block] at this | exact this) GW618.out)
                have hn631_5 : ad619.block ≠ gb618 := Nat.ne_of_lt (Nat.lt_of_lt_of_le (by have := World.block_lt_of_cell? _ _ hx631_0; first | rwa [add_block] at this | exact this) GW618.out)
                have hn631_6 : ad619.block ≠ gb618 := Nat.ne_of_lt (Nat.lt_of_lt_of_le (by have := World.block_lt_of_cell? _ _ hx631_0; first | rwa [add_block] at this | exact this) GW618.out)
                have hn631_7 : ad619.block ≠ gb618 := Nat.ne_of_lt (Nat.lt_of_lt_of_le (by have := World.block_lt_of_cell? _ _ hx631_0; first | rwa [add_block] at this | exact this) GW618.out)
                replace hx631_0 := (HB.out.cell (World.block_lt_of_cell? w _ hx631_0)).trans hx631_0
                replace hx631_1 := (HB.out.cell (World.block_lt_of_cell? w _ hx631_1)).trans hx631_1
                replace hx631_2 := (HB.out.cell (World.block_lt_of_cell? w _ hx631_2)).trans hx631_2
                have HR631_2 := Aside0.mk hi631_2
                have HC631_2 := Aside0.mk hl631_2
                clear hi631_2 hl631_2
                replace hx631_0 := (cell_far (p := ⟨gb630, 0, none⟩) (by first | (rw [add_block]; exact hn631_0) | (show (Addr.add _ _).block ≠ _; rw [add_block]; exact hn631_0) | exact hn631_0) (.slice Ao24 t620.length co24)).trans hx631_0
                replace hx631_1 := (cell_far (p := ⟨gb630, 0, none⟩) (by first | (rw [add_block]; exact hn631_0) | (show (Addr.add _ _).block ≠ _; rw [add_block]; exact hn631_0) | exact hn631_0) (.slice Ao24 t620.length co24)).trans hx631_1
                replace hx631_2 := (cell_far (p := ⟨gb630, 0, none⟩) (by first | (rw [add_block]; exact hn631_0) | (show (Addr.add _ _).block ≠ _; rw [add_block]; exact hn631_0) | exact hn631_0) (.slice Ao24 t620.length co24)).trans hx631_2
                replace hx631_0 := (cell_far (p := ⟨gb630, 1, none⟩) (by first | (rw [add_block]; exact hn631_1) | (show (Addr.add _ _).block ≠ _; rw [add_block]; exact hn631_1) | exact hn631_1) (.slice Ao26 t623.length co26)).trans hx631_0
                replace hx631_1 := (cell_far (p := ⟨gb630, 1, none⟩) (by first | (rw [add_block]; exact hn631_1) | (show (Addr.add _ _).block ≠ _; rw [add_block]; exact hn631_1) | exact hn631_1) (.slice Ao26 t623.length co26)).trans hx631_1
                replace hx631_2 := (cell_far (p := ⟨gb630, 1, none⟩) (by first | (rw [add_block]; exact hn631_1) | (show (Addr.add _ _).block ≠ _; rw [add_block]; exact hn631_1) | exact hn631_1) (.slice Ao26 t623.length co26)).trans hx631_2
                replace hx631_0 := (cell_far (p := ⟨gb630, 2, none⟩) (by first | (rw [add_block]; exact hn631_2) | (show (Addr.add _ _).block ≠ _; rw [add_block]; exact hn631_2) | exact hn631_2) (.int .i64 t626)).trans hx631_0
                replace hx631_1 := (cell_far (p := ⟨gb630, 2, none⟩) (by first | (rw [add_block]; exact hn631_2) | (show (Addr.add _ _).block ≠ _; rw [add_block]; exact hn631_2) | exact hn631_2) (.int .i64 t626)).trans hx631_1
                replace hx631_2 := (cell_far (p := ⟨gb630, 2, none⟩) (by first | (rw [add_block]; exact hn631_2) | (show (Addr.add _ _).block ≠ _; rw [add_block]; exact hn631_2) | exact hn631_2) (.int .i64 t626)).trans hx631_2
                replace hx631_0 := (cell_far (p := ⟨gb630, 3, none⟩) (by first | (rw [add_block]; exact hn631_3) | (show (Addr.add _ _).block ≠ _; rw [add_block]; exact hn631_3) | exact hn631_3) (.int .i64 t627)).trans hx631_0
                replace hx631_1 := (cell_far (p := ⟨gb630, 3, none⟩) (by first | (rw [add_block]; exact hn631_3) | (show (Addr.add _ _).block ≠ _; rw [add_block]; exact hn631_3) | exact hn631_3) (.int .i64 t627)).trans hx631_1
                replace hx631_2 := (cell_far (p := ⟨gb630, 3, none⟩) (by first | (rw [add_block]; exact hn631_3) | (show (Addr.add _ _).block ≠ _; rw [add_block]; exact hn631_3) | exact hn631_3) (.int .i64 t627)).trans hx631_2
                replace hx631_0 := (cell_far (p := ⟨gb618, 0, none⟩) (by first | (rw [add_block]; exact hn631_4) | (show (Addr.add _ _).block ≠ _; rw [add_block]; exact hn631_4) | exact hn631_4) (.slice Ao24 t620.length co24)).trans hx631_0
                replace hx631_1 := (cell_far (p := ⟨gb618, 0, none⟩) (by first | (rw [add_block]; exact hn631_4) | (show (Addr.add _ _).block ≠ _; rw [add_block]; exact hn631_4) | exact hn631_4) (.slice Ao24 t620.length co24)).trans hx631_1
                replace hx631_2 := (cell_far (p := ⟨gb618, 0, none⟩) (by first | (rw [add_block]; exact hn631_4) | (show (Addr.add _ _).block ≠ _; rw [add_block]; exact hn631_4) | exact hn631_4) (.slice Ao24 t620.length co24)).trans hx631_2
                replace hx631_0 := (cell_far (p := ⟨gb618, 1, none⟩) (by first | (rw [add_block]; exact hn631_5) | (show (Addr.add _ _).block ≠ _; rw [add_block]; exact hn631_5) | exact hn631_5) (.slice Ao26 t623.length co26)).trans hx631_0
                replace hx631_1 := (cell_far (p := ⟨gb618, 1, none⟩) (by first | (rw [add_block]; exact hn631_5) | (show (Addr.add _ _).block ≠ _; rw [add_block]; exact hn631_5) | exact hn631_5) (.slice Ao26 t623.length co26)).trans hx631_1
                replace hx631_2 := (cell_far (p := ⟨gb618, 1, none⟩) (by first | (rw [add_block]; exact hn631_5) | (show (Addr.add _ _).block ≠ _; rw [add_block]; exact hn631_5) | exact hn631_5) (.slice Ao26 t623.length co26)).trans hx631_2
                replace hx631_0 := (cell_far (p := ⟨gb618, 2, none⟩) (by first | (rw [add_block]; exact hn631_6) | (show (Addr.add _ _).block ≠ _; rw [add_block]; exact hn631_6) | exact hn631_6) (.int .i64 t626)).trans hx631_0
                replace hx631_1 := (cell_far (p := ⟨gb618, 2, none⟩) (by first | (rw [add_block]; exact hn631_6) | (show (Addr.add _ _).block ≠ _; rw [add_block]; exact hn631_6) | exact hn631_6) (.int .i64 t626)).trans hx631_1
                replace hx631_2 := (cell_far (p := ⟨gb618, 2, none⟩) (by first | (rw [add_block]; exact hn631_6) | (show (Addr.add _ _).block ≠ _; rw [add_block]; exact hn631_6) | exact hn631_6) (.int .i64 t626)).trans hx631_2
                replace hx631_0 := (cell_far (p := ⟨gb618, 3, none⟩) (by first | (rw [add_block]; exact hn631_7) | (show (Addr.add _ _).block ≠ _; rw [add_block]; exact hn631_7) | exact hn631_7) (.int .i64 t627)).trans hx631_0
                replace hx631_1 := (cell_far (p := ⟨gb618, 3, none⟩) (by first | (rw [add_block]; exact hn631_7) | (show (Addr.add _ _).block ≠ _; rw [add_block]; exact hn631_7) | exact hn631_7) (.int .i64 t627)).trans hx631_1
                replace hx631_2 := (cell_far (p := ⟨gb618, 3, none⟩) (by first | (rw [add_block]; exact hn631_7) | (show (Addr.add _ _).block ≠ _; rw [add_block]; exact hn631_7) | exact hn631_7) (.int .i64 t627)).trans hx631_2
                clear hn631_0
                clear hn631_1
                clear hn631_2
                clear hn631_3
                clear hn631_4
                clear hn631_5
                clear hn631_6
                clear hn631_7
                replace p631 := eq_true p631
                replace q631 := eq_true q631
                go_wp2
                go_meet
                case rel => exact ⟨_, ((t629 == 0)), (by first | rfl | (simp; done) | (simp [*]; done)), H', ⟨by have := HK1.out; first | omega | exact Nat.le_refl _⟩, ⟨by (with_reducible repeat (first | apply Kd.R_alloc | apply Kd.R_drewN | apply Kd.R_drew)); exact Kd.R_mono (Kd.R_far (p := ⟨gb618, 3, none⟩) (Kd.R_far (p := ⟨gb618, 2, none⟩) (Kd.R_far (p := ⟨gb618, 1, none⟩) (Kd.R_far (p := ⟨gb618, 0, none⟩) (Kd.R_far (p := ⟨gb630, 3, none⟩) (Kd.R_far (p := ⟨gb630, 2, none⟩) (Kd.R_far (p := ⟨gb630, 1, none⟩) (Kd.R_far (p := ⟨gb630, 0, none⟩) (Kd.R_types (Kd.R_types HO_8.out BK630.out (by decide)) BK618.out (by decide)) (fun _ hk => hk.1.2) (.slice Ao24 t620.length co24)) (fun _ hk => hk.1.2) (.slice Ao26 t623.length co26)) (fun _ hk => hk.1.2) (.int .i64 t626)) (fun _ hk => hk.1.2) (.int .i64 t627)) (fun _ hk => hk.2) (.slice Ao24 t620.length co24)) (fun _ hk => hk.2) (.slice Ao26 t623.length co26)) (fun _ hk => hk.2) (.int .i64 t626)) (fun _ hk => hk.2) (.int .i64 t627)) (fun _ hk => ⟨hk.1.1, hk.1.1⟩)⟩, ⟨by (with_reducible repeat (first | apply Kd.R_alloc | apply Kd.R_drewN | apply Kd.R_drew)); exact Kd.R_mono (Kd.R_far (p := ⟨gb618, 3, none⟩) (Kd.R_far (p := ⟨gb618, 2, none⟩) (Kd.R_far (p := ⟨gb618, 1, none⟩) (Kd.R_far (p := ⟨gb618, 0, none⟩) (Kd.R_far (p := ⟨gb630, 3, none⟩) (Kd.R_far (p := ⟨gb630, 2, none⟩) (Kd.R_far (p := ⟨gb630, 1, none⟩) (Kd.R_far (p := ⟨gb630, 0, none⟩) (Kd.R_types (Kd.R_types HO622.out BK630.out (by decide)) BK618.out (by decide)) (fun _ hk => hk.1.2) (.slice Ao24 t620.length co24)) (fun _ hk => hk.1.2) (.slice Ao26 t623.length co26)) (fun _ hk => hk.1.2) (.int .i64 t626)) (fun _ hk => hk.1.2) (.int .i64 t627)) (fun _ hk => hk.2) (.slice Ao24 t620.length co24)) (fun _ hk => hk.2) (.slice Ao26 t623.length co26)) (fun _ hk => hk.2) (.int .i64 t626)) (fun _ hk => hk.2) (.int .i64 t627)) (fun _ hk => hk.1.1)⟩, ⟨by (with_reducible repeat (first | apply Kd.V_alloc | apply Kd.V_drewN | apply Kd.V_drew)); exact Kd.V_mono (Kd.V_far (p := ⟨gb618, 3, none⟩) (Kd.V_far (p := ⟨gb618, 2, none⟩) (Kd.V_far (p := ⟨gb618, 1, none⟩) (Kd.V_far (p := ⟨gb618, 0, none⟩) (Kd.V_far (p := ⟨gb630, 3, none⟩) (Kd.V_far (p := ⟨gb630, 2, none⟩) (Kd.V_far (p := ⟨gb630, 1, none⟩) (Kd.V_far (p := ⟨gb630, 0, none⟩) (Kd.V_mono (Kd.V_mono HO625.out (fun k_ hk => (⟨hk, hk.2.2.2⟩ : _ ∧ k_ ≠ gb630))) (fun k_ hk => (⟨hk, hk.1.2.2.1⟩ : _ ∧ k_ ≠ gb618))) (fun _ hk => hk.1.2) (.slice Ao24 t620.length co24)) (fun _ hk => hk.1.2) (.slice Ao26 t623.length co26)) (fun _ hk => hk.1.2) (.int .i64 t626)) (fun _ hk => hk.1.2) (.int .i64 t627)) (fun _ hk => hk.2) (.slice Ao24 t620.length co24)) (fun _ hk => hk.2) (.slice Ao26 t623.length co26)) (fun _ hk => hk.2) (.int .i64 t626)) (fun _ hk => hk.2) (.int .i64 t627)) (fun _ hk => ⟨hk.1.1.2.1, ⟨hk.1.1.1, ⟨hk.1.1.1, ⟨hk.1.1.2.2.1, hk.1.1.2.2.2⟩⟩⟩⟩)⟩, ⟨by (with_reducible repeat (first | apply Kd.R_alloc | apply Kd.R_drewN | apply Kd.R_drew)); exact Kd.R_mono (Kd.R_far (p := ⟨gb618, 3, none⟩) (Kd.R_far (p := ⟨gb618, 2, none⟩) (Kd.R_far (p := ⟨gb618, 1, none⟩) (Kd.R_far (p := ⟨gb618, 0, none⟩) (Kd.R_far (p := ⟨gb630, 3, none⟩) (Kd.R_far (p := ⟨gb630, 2, none⟩) (Kd.R_far (p := ⟨gb630, 1, none⟩) (Kd.R_far (p := ⟨gb630, 0, none⟩) (Kd.R_types (Kd.R_types HO622.out BK630.out (by decide)) BK618.out (by decide)) (fun _ hk => hk.1.2) (.slice Ao24 t620.length co24)) (fun _ hk => hk.1.2) (.slice Ao26 t623.length co26)) (fun _ hk => hk.1.2) (.int .i64 t626)) (fun _ hk => hk.1.2) (.int .i64 t627)) (fun _ hk => hk.2) (.slice Ao24 t620.length co24)) (fun _ hk => hk.2) (.slice Ao26 t623.length co26)) (fun _ hk => hk.2) (.int .i64 t626)) (fun _ hk => hk.2) (.int .i64 t627)) (fun _ hk => hk.1.1)⟩, ⟨by (with_reducible repeat (first | apply Kd.V_alloc | apply Kd.V_drewN | apply Kd.V_drew)); exact Kd.V_mono (Kd.V_far (p := ⟨gb618, 3, none⟩) (Kd.V_far (p := ⟨gb618, 2, none⟩) (Kd.V_far (p := ⟨gb618, 1, none⟩) (Kd.V_far (p := ⟨gb618, 0, none⟩) (Kd.V_far (p := ⟨gb630, 3, none⟩) (Kd.V_far (p := ⟨gb630, 2, none⟩) (Kd.V_far (p := ⟨gb630, 1, none⟩) (Kd.V_far (p := ⟨gb630, 0, none⟩) (Kd.V_mono (Kd.V_mono HO625.out (fun k_ hk => (⟨hk, hk.2.2.2⟩ : _ ∧ k_ ≠ gb630))) (fun k_ hk => (⟨hk, hk.1.2.2.1⟩ : _ ∧ k_ ≠ gb618))) (fun _ hk => hk.1.2) (.slice Ao24 t620.length co24)) (fun _ hk => hk.1.2) (.slice Ao26 t623.length co26)) (fun _ hk => hk.1.2) (.int .i64 t626)) (fun _ hk => hk.1.2) (.int .i64 t627)) (fun _ hk => hk.2) (.slice Ao24 t620.length co24)) (fun _ hk => hk.2) (.slice Ao26 t623.length co26)) (fun _ hk => hk.2) (.int .i64 t626)) (fun _ hk => hk.2) (.int .i64 t627)) (fun _ hk => ⟨hk.1.1.2.1, ⟨hk.1.1.1, ⟨hk.1.1.1, ⟨hk.1.1.2.2.1, hk.1.1.2.2.2⟩⟩⟩⟩)⟩, ⟨by (with_reducible repeat (first | refine blk_drewN ?_ _ | refine blk_drew ?_ | refine blk_alloc ?_ _)); refine blk_put (cs := #[.slice Ao24 t620.length co24, .slice Ao26 t623.length co26, .int .i64 t626, .int .i64 x619003_1]) ?_ 3 _ rfl; (with_reducible repeat (first | refine blk_drewN ?_ _ | refine blk_drew ?_ | refine blk_alloc ?_ _)); refine blk_put (cs := #[.slice Ao24 t620.length co24, .slice Ao26 t623.length co26, .int .i64 x619002_1, .int .i64 x619003_1]) ?_ 2 _ rfl; (with_reducible repeat (first | refine blk_drewN ?_ _ | refine blk_drew ?_ | refine blk_alloc ?_ _)); refine blk_put (cs := #[.slice Ao24 t620.length co24, .slice Ao19 x619001_1.length co19, .int .i64 x619002_1, .int .i64 x619003_1]) ?_ 1 _ rfl; (with_reducible repeat (first | refine blk_drewN ?_ _ | refine blk_drew ?_ | refine blk_alloc ?_ _)); refine blk_put (cs := #[.slice Ao18 x619000_1.length co18, .slice Ao19 x619001_1.length co19, .int .i64 x619002_1, .int .i64 x619003_1]) ?_ 0 _ rfl; (with_reducible repeat (first | refine blk_drewN ?_ _ | refine blk_drew ?_ | refine blk_alloc ?_ _)); refine blk_far ?_ NB618_630.out _; (with_reducible repeat (first | refine blk_drewN ?_ _ | refine blk_drew ?_ | refine blk_alloc ?_ _)); refine blk_far ?_ NB618_630.out _; (with_reducible repeat (first | refine blk_drewN ?_ _ | refine blk_drew ?_ | refine blk_alloc ?_ _)); refine blk_far ?_ NB618_630.out _; (with_reducible repeat (first | refine blk_drewN ?_ _ | refine blk_drew ?_ | refine blk_alloc ?_ _)); refine blk_far ?_ NB618_630.out _; (with_reducible repeat (first | refine blk_drewN ?_ _ | refine blk_drew ?_ | refine blk_alloc ?_ _)); exact BK618.out⟩, ⟨by (with_reducible repeat (first | refine blk_drewN ?_ _ | refine blk_drew ?_ | refine blk_alloc ?_ _)); refine blk_far ?_ NB630_618.out _; (with_reducible repeat (first | refine blk_drewN ?_ _ | refine blk_drew ?_ | refine blk_alloc ?_ _)); refine blk_far ?_ NB630_618.out _; (with_reducible repeat (first | refine blk_drewN ?_ _ | refine blk_drew ?_ | refine blk_alloc ?_ _)); refine blk_far ?_ NB630_618.out _; (with_reducible repeat (first | refine blk_drewN ?_ _ | refine blk_drew ?_ | refine blk_alloc ?_ _)); refine blk_far ?_ NB630_618.out _; (with_reducible repeat (first | refine blk_drewN ?_ _ | refine blk_drew ?_ | refine blk_alloc ?_ _)); refine blk_put (cs := #[.slice Ao24 t620.length co24, .slice Ao26 t623.length co26, .int .i64 t626, .int .i64 0]) ?_ 3 _ rfl; (with_reducible repeat (first | refine blk_drewN ?_ _ | refine blk_drew ?_ | refine blk_alloc ?_ _)); refine blk_put (cs := #[.slice Ao24 t620.length co24, .slice Ao26 t623.length co26, .int .i64 0, .int .i64 0]) ?_ 2 _ rfl; (with_reducible repeat (first | refine blk_drewN ?_ _ | refine blk_drew ?_ | refine blk_alloc ?_ _)); refine blk_put (cs := #[.slice Ao24 t620.length co24, .slice none 0 0, .int .i64 0, .int .i64 0]) ?_ 1 _ rfl; (with_reducible repeat (first | refine blk_drewN ?_ _ | refine blk_drew ?_ | refine blk_alloc ?_ _)); refine blk_put (cs := #[.slice none 0 0, .slice none 0 0, .int .i64 0, .int .i64 0]) ?_ 0 _ rfl; (with_reducible repeat (first | refine blk_drewN ?_ _ | refine blk_drew ?_ | refine blk_alloc ?_ _)); exact BK630.out⟩, ⟨by repeat (first | (with_reducible first | exact HB.out | apply below_alloc | apply pw_below_drewN | apply below_drew1 | refine below_set ?_ GE618.out | refine below_set ?_ GE630.out) | exact HB.out)⟩⟩
              · rw [if_neg c33] at H
                have c33b0 : ((Go.bits .and .i64 ((rd_T50 l1 x9_1).f0) 3) == 0) = false := beq_eq_false_iff_ne.mpr c33
                have c33b1 : ((Go.bits .and .i64 ((rd_T50 l1 x9_1).f0) 3) != 0) = true := bne_iff_ne.mpr c33
                (first | rw [c33b0] | (simp only [i64_w, i32_w]; rw [c33b0]) | skip)
                have H' := Aside0.mk H
                clear H
                have p631 : 0 ≤ (x9_1 : Int) := of_decide_eq_true (by first | (with_reducible assumption) | assumption)
                have q631 : x9_1 < (l1.length : Int) := of_decide_eq_true (by first | (with_reducible assumption) | assumption)
                obtain ⟨ad631, A631_2, c631_2, e631, hx631_0, hx631_1, hx631_2, hl631_2, hi631_2⟩ := at_T50 HR1.out x9_1 p631 q631
                obtain rfl : ad619 = ad631 := (by injection e631)
                have hn631_0 : ad619.block ≠ gb630 := Nat.ne_of_lt (Nat.lt_of_lt_of_le (by have := World.block_lt_of_cell? _ _ hx631_0; first | rwa [add_block] at this | exact this) GW630.out)
                have hn631_1 : ad619.block ≠ gb630 := Nat.ne_of_lt (Nat.lt_of_lt_of_le (by have := World.block_lt_of_cell? _ _ hx631_0; first | rwa [add_block] at this | exact this) GW630.out)
                have hn631_2 : ad619.block ≠ gb630 := Nat.ne_of_lt (Nat.lt_of_lt_of_le (by have := World.block_lt_of_cell? _ _ hx631_0; first | rwa [add_block] at this | exact this) GW630.out)
                have hn631_3 : ad619.block ≠ gb630 := Nat.ne_of_lt (Nat.lt_of_lt_of_le (by have := World.block_lt_of_cell? _ _ hx631_0; first | rwa [add_block] at this | exact this) GW630.out)
                have hn631_4 : ad619.block ≠ gb618 := Nat.ne_of_lt (Nat.lt_of_lt_of_le (by have := World.block_lt_of_cell? _ _ hx631_0; first | rwa [add_block] at this | exact this) GW618.out)
                have hn631_5 : ad619.block ≠ gb618 := Nat.ne_of_lt (Nat.lt_of_lt_of_le (by have := World.block_lt_of_cell? _ _ hx631_0; first | rwa [add_block] at this | exact this) GW618.out)
                have hn631_6 : ad619.block ≠ gb618 := Nat.ne_of_lt (Nat.lt_of_lt_of_le (by have := World.block_lt_of_cell? _ _ hx631_0; first | rwa [add_block] at this | exact this) GW618.out)
                have hn631_7 : ad619.block ≠ gb618 := Nat.ne_of_lt (Nat.lt_of_lt_of_le (by have := World.block_lt_of_cell? _ _ hx631_0; first | rwa [add_block] at this | exact this) GW618.out)
                replace hx631_0 := (HB.out.cell (World.block_lt_of_cell? w _ hx631_0)).trans hx631_0
                replace hx631_1 := (HB.out.cell (World.block_lt_of_cell? w _ hx631_1)).trans hx631_1
                replace hx631_2 := (HB.out.cell (World.block_lt_of_cell? w _ hx631_2)).trans hx631_2
                have HR631_2 := Aside0.mk hi631_2
                have HC631_2 := Aside0.mk hl631_2
                clear hi631_2 hl631_2
                replace hx631_0 := (cell_far (p := ⟨gb630, 0, none⟩) (by first | (rw [add_block]; exact hn631_0) | (show (Addr.add _ _).block ≠ _; rw [add_block]; exact hn631_0) | exact hn631_0) (.slice Ao24 t620.length co24)).trans hx631_0
                replace hx631_1 := (cell_far (p := ⟨gb630, 0, none⟩) (by first | (rw [add_block]; exact hn631_0) | (show (Addr.add _ _).block ≠ _; rw [add_block]; exact hn631_0) | exact hn631_0) (.slice Ao24 t620.length co24)).trans hx631_1
                replace hx631_2 := (cell_far (p := ⟨gb630, 0, none⟩) (by first | (rw [add_block]; exact hn631_0) | (show (Addr.add _ _).block ≠ _; rw [add_block]; exact hn631_0) | exact hn631_0) (.slice Ao24 t620.length co24)).trans hx631_2
                replace hx631_0 := (cell_far (p := ⟨gb630, 1, none⟩) (by first | (rw [add_block]; exact hn631_1) | (show (Addr.add _ _).block ≠ _; rw [add_block]; exact hn631_1) | exact hn631_1) (.slice Ao26 t623.length co26)).trans hx631_0
                replace hx631_1 := (cell_far (p := ⟨gb630, 1, none⟩) (by first | (rw [add_block]; exact hn631_1) | (show (Addr.add _ _).block ≠ _; rw [add_block]; exact hn631_1) | exact hn631_1) (.slice Ao26 t623.length co26)).trans hx631_1
                replace hx631_2 := (cell_far (p := ⟨gb630, 1, none⟩) (by first | (rw [add_block]; exact hn631_1) | (show (Addr.add _ _).block ≠ _; rw [add_block]; exact hn631_1) | exact hn631_1) (.slice Ao26 t623.length co26)).trans hx631_2
                replace hx631_0 := (cell_far (p := ⟨gb630, 2, none⟩) (by first | (rw [add_block]; exact hn631_2) | (show (Addr.add _ _).block ≠ _; rw [add_block]; exact hn631_2) | exact hn631_2) (.int .i64 t626)).trans hx631_0
                replace hx631_1 := (cell_far (p := ⟨gb630, 2, none⟩) (by first | (rw [add_block]; exact hn631_2) | (show (Addr.add _ _).block ≠ _; rw [add_block]; exact hn631_2) | exact hn631_2) (.int .i64 t626)).trans hx631_1
                replace hx631_2 := (cell_far (p := ⟨gb630, 2, none⟩) (by first | (rw [add_block]; exact hn631_2) | (show (Addr.add _ _).block ≠ _; rw [add_block]; exact hn631_2) | exact hn631_2) (.int .i64 t626)).trans hx631_2
                replace hx631_0 := (cell_far (p := ⟨gb630, 3, none⟩) (by first | (rw [add_block]; exact hn631_3) | (show (Addr.add _ _).block ≠ _; rw [add_block]; exact hn631_3) | exact hn631_3) (.int .i64 t627)).trans hx631_0
                replace hx631_1 := (cell_far (p := ⟨gb630, 3, none⟩) (by first | (rw [add_block]; exact hn631_3) | (show (Addr.add _ _).block ≠ _; rw [add_block]; exact hn631_3) | exact hn631_3) (.int .i64 t627)).trans hx631_1
                replace hx631_2 := (cell_far (p := ⟨gb630, 3, none⟩) (by first | (rw [add_block]; exact hn631_3) | (show (Addr.add _ _).block ≠ _; rw [add_block]; exact hn631_3) | exact hn631_3) (.int .i64 t627)).trans hx631_2
                replace hx631_0 := (cell_far (p := ⟨gb618, 0, none⟩) (by first | (rw [add_block]; exact hn631_4) | (show (Addr.add _ _).block ≠ _; rw [add_block]; exact hn631_4) | exact hn631_4) (.slice Ao24 t620.length co24)).trans hx631_0
                replace hx631_1 := (cell_far (p := ⟨gb618, 0, none⟩) (by first | (rw [add_block]; exact hn631_4) | (show (Addr.add _ _).block ≠ _; rw [add_block]; exact hn631_4) | exact hn631_4) (.slice Ao24 t620.length co24)).trans hx631_1
                replace hx631_2 := (cell_far (p := ⟨gb618, 0, none⟩) (by first | (rw [add_block]; exact hn631_4) | (show (Addr.add _ _).block ≠ _; rw [add_block]; exact hn631_4) | exact hn631_4) (.slice Ao24 t620.length co24)).trans hx631_2
                replace hx631_0 := (cell_far (p := ⟨gb618, 1, none⟩) (by first | (rw [add_block]; exact hn631_5) | (show (Addr.add _ _).block ≠ _; rw [add_block]; exact hn631_5) | exact hn631_5) (.slice Ao26 t623.length co26)).trans hx631_0
                replace hx631_1 := (cell_far (p := ⟨gb618, 1, none⟩) (by first | (rw [add_block]; exact hn631_5) | (show (Addr.add _ _).block ≠ _; rw [add_block]; exact hn631_5) | exact hn631_5) (.slice Ao26 t623.length co26)).trans hx631_1
                replace hx631_2 := (cell_far (p := ⟨gb618, 1, none⟩) (by first | (rw [add_block]; exact hn631_5) | (show (Addr.add _ _).block ≠ _; rw [add_block]; exact hn631_5) | exact hn631_5) (.slice Ao26 t623.length co26)).trans hx631_2
                replace hx631_0 := (cell_far (p := ⟨gb618, 2, none⟩) (by first | (rw [add_block]; exact hn631_6) | (show (Addr.add _ _).block ≠ _; rw [add_block]; exact hn631_6) | exact hn631_6) (.int .i64 t626)).trans hx631_0
                replace hx631_1 := (cell_far (p := ⟨gb618, 2, none⟩) (by first | (rw [add_block]; exact hn631_6) | (show (Addr.add _ _).block ≠ _; rw [add_block]; exact hn631_6) | exact hn631_6) (.int .i64 t626)).trans hx631_1
                replace hx631_2 := (cell_far (p := ⟨gb618, 2, none⟩) (by first | (rw [add_block]; exact hn631_6) | (show (Addr.add _ _).block ≠ _; rw [add_block]; exact hn631_6) | exact hn631_6) (.int .i64 t626)).trans hx631_2
                replace hx631_0 := (cell_far (p := ⟨gb618, 3, none⟩) (by first | (rw [add_block]; exact hn631_7) | (show (Addr.add _ _).block ≠ _; rw [add_block]; exact hn631_7) | exact hn631_7) (.int .i64 t627)).trans hx631_0
                replace hx631_1 := (cell_far (p := ⟨gb618, 3, none⟩) (by first | (rw [add_block]; exact hn631_7) | (show (Addr.add _ _).block ≠ _; rw [add_block]; exact hn631_7) | exact hn631_7) (.int .i64 t627)).trans hx631_1
                replace hx631_2 := (cell_far (p := ⟨gb618, 3, none⟩) (by first | (rw [add_block]; exact hn631_7) | (show (Addr.add _ _).block ≠ _; rw [add_block]; exact hn631_7) | exact hn631_7) (.int .i64 t627)).trans hx631_2
                clear hn631_0
                clear hn631_1
                clear hn631_2
                clear hn631_3
                clear hn631_4
                clear hn631_5
                clear hn631_6
                clear hn631_7
                replace p631 := eq_true p631
                replace q631 := eq_true q631
                go_wp2
                go_meet
                case rel => exact ⟨_, (false), (by first | rfl | (simp; done) | (simp [*]; done)), H', ⟨by have := HK1.out; first | omega | exact Nat.le_refl _⟩, ⟨by (with_reducible repeat (first | apply Kd.R_alloc | apply Kd.R_drewN | apply Kd.R_drew)); exact Kd.R_mono (Kd.R_far (p := ⟨gb618, 3, none⟩) (Kd.R_far (p := ⟨gb618, 2, none⟩) (Kd.R_far (p := ⟨gb618, 1, none⟩) (Kd.R_far (p := ⟨gb618, 0, none⟩) (Kd.R_far (p := ⟨gb630, 3, none⟩) (Kd.R_far (p := ⟨gb630, 2, none⟩) (Kd.R_far (p := ⟨gb630, 1, none⟩) (Kd.R_far (p := ⟨gb630, 0, none⟩) (Kd.R_types (Kd.R_types HO_8.out BK630.out (by decide)) BK618.out (by decide)) (fun _ hk => hk.1.2) (.slice Ao24 t620.length co24)) (fun _ hk => hk.1.2) (.slice Ao26 t623.length co26)) (fun _ hk => hk.1.2) (.int .i64 t626)) (fun _ hk => hk.1.2) (.int .i64 t627)) (fun _ hk => hk.2) (.slice Ao24 t620.length co24)) (fun _ hk => hk.2) (.slice Ao26 t623.length co26)) (fun _ hk => hk.2) (.int .i64 t626)) (fun _ hk => hk.2) (.int .i64 t627)) (fun _ hk => ⟨hk.1.1, hk.1.1⟩)⟩, ⟨by (with_reducible repeat (first | apply Kd.R_alloc | apply Kd.R_drewN | apply Kd.R_drew)); exact Kd.R_mono (Kd.R_far (p := ⟨gb618, 3, none⟩) (Kd.R_far (p := ⟨gb618, 2, none⟩) (Kd.R_far (p := ⟨gb618, 1, none⟩) (Kd.R_far (p := ⟨gb618, 0, none⟩) (Kd.R_far (p := ⟨gb630, 3, none⟩) (Kd.R_far (p := ⟨gb630, 2, none⟩) (Kd.R_far (p := ⟨gb630, 1, none⟩) (Kd.R_far (p := ⟨gb630, 0, none⟩) (Kd.R_types (Kd.R_types HO622.out BK630.out (by decide)) BK618.out (by decide)) (fun _ hk => hk.1.2) (.slice Ao24 t620.length co24)) (fun _ hk => hk.1.2) (.slice Ao26 t623.length co26)) (fun _ hk => hk.1.2) (.int .i64 t626)) (fun _ hk => hk.1.2) (.int .i64 t627)) (fun _ hk => hk.2) (.slice Ao24 t620.length co24)) (fun _ hk => hk.2) (.slice Ao26 t623.length co26)) (fun _ hk => hk.2) (.int .i64 t626)) (fun _ hk => hk.2) (.int .i64 t627)) (fun _ hk => hk.1.1)⟩, ⟨by (with_reducible repeat (first | apply Kd.V_alloc | apply Kd.V_drewN | apply Kd.V_drew)); exact Kd.V_mono (Kd.V_far (p := ⟨gb618, 3, none⟩) (Kd.V_far (p := ⟨gb618, 2, none⟩) (Kd.V_far (p := ⟨gb618, 1, none⟩) (Kd.V_far (p := ⟨gb618, 0, none⟩) (Kd.V_far (p := ⟨gb630, 3, none⟩) (Kd.V_far (p := ⟨gb630, 2, none⟩) (Kd.V_far (p := ⟨gb630, 1, none⟩) (Kd.V_far (p := ⟨gb630, 0, none⟩) (Kd.V_mono (Kd.V_mono HO625.out (fun k_ hk => (⟨hk, hk.2.2.2⟩ : _ ∧ k_ ≠ gb630))) (fun k_ hk => (⟨hk, hk.1.2.2.1⟩ : _ ∧ k_ ≠ gb618))) (fun _ hk => hk.1.2) (.slice Ao24 t620.length co24)) (fun _ hk => hk.1.2) (.slice Ao26 t623.length co26)) (fun _ hk => hk.1.2) (.int .i64 t626)) (fun _ hk => hk.1.2) (.int .i64 t627)) (fun _ hk => hk.2) (.slice Ao24 t620.length co24)) (fun _ hk => hk.2) (.slice Ao26 t623.length co26)) (fun _ hk => hk.2) (.int .i64 t626)) (fun _ hk => hk.2) (.int .i64 t627)) (fun _ hk => ⟨hk.1.1.2.1, ⟨hk.1.1.1, ⟨hk.1.1.1, ⟨hk.1.1.2.2.1, hk.1.1.2.2.2⟩⟩⟩⟩)⟩, ⟨by (with_reducible repeat (first | apply Kd.R_alloc | apply Kd.R_drewN | apply Kd.R_drew)); exact Kd.R_mono (Kd.R_far (p := ⟨gb618, 3, none⟩) (Kd.R_far (p := ⟨gb618, 2, none⟩) (Kd.R_far (p := ⟨gb618, 1, none⟩) (Kd.R_far (p := ⟨gb618, 0, none⟩) (Kd.R_far (p := ⟨gb630, 3, none⟩) (Kd.R_far (p := ⟨gb630, 2, none⟩) (Kd.R_far (p := ⟨gb630, 1, none⟩) (Kd.R_far (p := ⟨gb630, 0, none⟩) (Kd.R_types (Kd.R_types HO622.out BK630.out (by decide)) BK618.out (by decide)) (fun _ hk => hk.1.2) (.slice Ao24 t620.length co24)) (fun _ hk => hk.1.2) (.slice Ao26 t623.length co26)) (fun _ hk => hk.1.2) (.int .i64 t626)) (fun _ hk => hk.1.2) (.int .i64 t627)) (fun _ hk => hk.2) (.slice Ao24 t620.length co24)) (fun _ hk => hk.2) (.slice Ao26 t623.length co26)) (fun _ hk => hk.2) (.int .i64 t626)) (fun _ hk => hk.2) (.int .i64 t627)) (fun _ hk => hk.1.1)⟩, ⟨by (with_reducible repeat (first | apply Kd.V_alloc | apply Kd.V_drewN | apply Kd.V_drew)); exact Kd.V_mono (Kd.V_far (p := ⟨gb618, 3, none⟩) (Kd.V_far (p := ⟨gb618, 2, none⟩) (Kd.V_far (p := ⟨gb618, 1, none⟩) (Kd.V_far (p := ⟨gb618, 0, none⟩) (Kd.V_far (p := ⟨gb630, 3, none⟩) (Kd.V_far (p := ⟨gb630, 2, none⟩) (Kd.V_far (p := ⟨gb630, 1, none⟩) (Kd.V_far (p := ⟨gb630, 0, none⟩) (Kd.V_mono (Kd.V_mono HO625.out (fun k_ hk => (⟨hk, hk.2.2.2⟩ : _ ∧ k_ ≠ gb630))) (fun k_ hk => (⟨hk, hk.1.2.2.1⟩ : _ ∧ k_ ≠ gb618))) (fun _ hk => hk.1.2) (.slice Ao24 t620.length co24)) (fun _ hk => hk.1.2) (.slice Ao26 t623.length co26)) (fun _ hk => hk.1.2) (.int .i64 t626)) (fun _ hk => hk.1.2) (.int .i64 t627)) (fun _ hk => hk.2) (.slice Ao24 t620.length co24)) (fun _ hk => hk.2) (.slice Ao26 t623.length co26)) (fun _ hk => hk.2) (.int .i64 t626)) (fun _ hk => hk.2) (.int .i64 t627)) (fun _ hk => ⟨hk.1.1.2.1, ⟨hk.1.1.1, ⟨hk.1.1.1, ⟨hk.1.1.2.2.1, hk.1.1.2.2.2⟩⟩⟩⟩)⟩, ⟨by (with_reducible repeat (first | refine blk_drewN ?_ _ | refine blk_drew ?_ | refine blk_alloc ?_ _)); refine blk_put (cs := #[.slice Ao24 t620.length co24, .slice Ao26 t623.length co26, .int .i64 t626, .int .i64 x619003_1]) ?_ 3 _ rfl; (with_reducible repeat (first | refine blk_drewN ?_ _ | refine blk_drew ?_ | refine blk_alloc ?_ _)); refine blk_put (cs := #[.slice Ao24 t620.length co24, .slice Ao26 t623.length co26, .int .i64 x619002_1, .int .i64 x619003_1]) ?_ 2 _ rfl; (with_reducible repeat (first | refine blk_drewN ?_ _ | refine blk_drew ?_ | refine blk_alloc ?_ _)); refine blk_put (cs := #[.slice Ao24 t620.length co24, .slice Ao19 x619001_1.length co19, .int .i64 x619002_1, .int .i64 x619003_1]) ?_ 1 _ rfl; (with_reducible repeat (first | refine blk_drewN ?_ _ | refine blk_drew ?_ | refine blk_alloc ?_ _)); refine blk_put (cs := #[.slice Ao18 x619000_1.length co18, .slice Ao19 x619001_1.length co19, .int .i64 x619002_1, .int .i64 x619003_1]) ?_ 0 _ rfl; (with_reducible repeat (first | refine blk_drewN ?_ _ | refine blk_drew ?_ | refine blk_alloc ?_ _)); refine blk_far ?_ NB618_630.out _; (with_reducible repeat (first | refine blk_drewN ?_ _ | refine blk_drew ?_ | refine blk_alloc ?_ _)); refine blk_far ?_ NB618_630.out _; (with_reducible repeat (first | refine blk_drewN ?_ _ | refine blk_drew ?_ | refine blk_alloc ?_ _)); refine blk_far ?_ NB618_630.out _; (with_reducible repeat (first | refine blk_drewN ?_ _ | refine blk_drew ?_ | refine blk_alloc ?_ _)); refine blk_far ?_ NB618_630.out _; (with_reducible repeat (first | refine blk_drewN ?_ _ | refine blk_drew ?_ | refine blk_alloc ?_ _)); exact BK618.out⟩, ⟨by (with_reducible repeat (first | refine blk_drewN ?_ _ | refine blk_drew ?_ | refine blk_alloc ?_ _)); refine blk_far ?_ NB630_618.out _; (with_reducible repeat (first | refine blk_drewN ?_ _ | refine blk_drew ?_ | refine blk_alloc ?_ _)); refine blk_far ?_ NB630_618.out _; (with_reducible repeat (first | refine blk_drewN ?_ _ | refine blk_drew ?_ | refine blk_alloc ?_ _)); refine blk_far ?_ NB630_618.out _; (with_reducible repeat (first | refine blk_drewN ?_ _ | refine blk_drew ?_ | refine blk_alloc ?_ _)); refine blk_far ?_ NB630_618.out _; (with_reducible repeat (first | refine blk_drewN ?_ _ | refine blk_drew ?_ | refine blk_alloc ?_ _)); refine blk_put (cs := #[.slice Ao24 t620.length co24, .slice Ao26 t623.length co26, .int .i64 t626, .int .i64 0]) ?_ 3 _ rfl; (with_reducible repeat (first | refine blk_drewN ?_ _ | refine blk_drew ?_ | refine blk_alloc ?_ _)); refine blk_put (cs := #[.slice Ao24 t620.length co24, .slice Ao26 t623.length co26, .int .i64 0, .int .i64 0]) ?_ 2 _ rfl; (with_reducible repeat (first | refine blk_drewN ?_ _ | refine blk_drew ?_ | refine blk_alloc ?_ _)); refine blk_put (cs := #[.slice Ao24 t620.length co24, .slice none 0 0, .int .i64 0, .int .i64 0]) ?_ 1 _ rfl; (with_reducible repeat (first | refine blk_drewN ?_ _ | refine blk_drew ?_ | refine blk_alloc ?_ _)); refine blk_put (cs := #[.slice none 0 0, .slice none 0 0, .int .i64 0, .int .i64 0]) ?_ 0 _ rfl; (with_reducible repeat (first | refine blk_drewN ?_ _ | refine blk_drew ?_ | refine blk_alloc ?_ _)); exact BK630.out⟩, ⟨by repeat (first | (with_reducible first | exact HB.out | apply below_alloc | apply pw_below_drewN | apply below_drew1 | refine below_set ?_ GE618.out | refine below_set ?_ GE630.out) | exact HB.out)⟩⟩
            case rest =>
              clear HC17
              try clear c1
              try clear p2
              try clear c3
              try clear c5
              try clear c6
              try clear p6
              try clear q6
              try clear hx6
              try clear c9
              try clear c10
              try clear c14
              try clear c14b0
              try clear c15
              try clear c15b0
              try clear c17
              try clear c19
              try clear c30
              try clear c33
              try clear c33b0
              try clear c33b1
              try clear hcz12_0
              try clear hcz12_1
              try clear hcz12_2
              try clear hcz12_3
              try clear hcz31_0
              try clear hcz31_1
              try clear hcz31_2
              try clear hcz31_3
              try clear hcz32_0
              try clear hcz32_1
              try clear hcz32_2
              try clear hcz32_3
              try clear hfz12_0
              try clear hfz12_1
              try clear hfz12_2
              try clear hfz12_3
              try clear hfz31_0
              try clear hfz31_1
              try clear hfz31_2
              try clear hfz31_3
              try clear hfz32_0
              try clear hfz32_1
              try clear hfz32_2
              try clear hfz32_3
              try clear hx619_0
              try clear hx619_1
              try clear hx619_2
              try clear hx631_0
              try clear hx631_1
              try clear hx631_2
              try clear p2
              try clear p619
              try clear p631
              try clear q619
              try clear q631
              obtain ⟨kq, x49_16, rfl, HA, HJ16, HO_8, HO_619000, HO_619001, HO_631000, HO_631001, BK618, BK630, HB⟩ := hcut
              cases kq with
              | zero => exact absurd HA.out (by simp [cordwoodlaw21_SnapsOnce.j1])
              | succ kj16 =>
                have H := HA.out
                clear HA
                simp only [cordwoodlaw21_SnapsOnce.j1] at H
                have HC34 := Aside0.mk H
                clear H
                go_upto_if 49 with (fail)
                go_cut [7, 8] (fun v7 v8 wc => ∃ (kq : Nat) (x7_33 : Int) (x8_33 : List Int), v7 = .int .i64 x7_33 ∧ Aside0 (cordwoodlaw21_SnapsOnce.j2 kq a0 l1 t608 x7_33 x8_33 x9_1 t620 t623 t626 t627 = some r) ∧ Aside0 (kq ≤ kj16) ∧ Aside0 (Kd.R (Kd.int .i64) 3 wc w.heap.size (fun k_ => some k_ ≠ ((.slice Ao24 t620.length co24) : Value).ownBlock ∧ some k_ ≠ ((.slice Ao24 t620.length co24) : Value).ownBlock) v8 x8_33) ∧ Aside0 (Kd.R (Kd.int .i64) 3 wc w.heap.size (fun k_ => some k_ ≠ (v8 : Value).ownBlock) (.slice Ao24 t620.length co24) t620) ∧ Aside0 (Kd.V (Kd.slice 72 k72) 31 wc w.heap.size (fun k_ => some k_ ≠ (v8 : Value).ownBlock ∧ some k_ ≠ ((.slice Ao24 t620.length co24) : Value).ownBlock ∧ some k_ ≠ ((.slice Ao24 t620.length co24) : Value).ownBlock ∧ k_ ≠ gb618 ∧ k_ ≠ gb630) (.slice Ao26 t623.length co26) t623) ∧ Aside0 (Kd.R (Kd.int .i64) 3 wc w.heap.size (fun k_ => some k_ ≠ (v8 : Value).ownBlock) (.slice Ao24 t620.length co24) t620) ∧ Aside0 (Kd.V (Kd.slice 72 k72) 31 wc w.heap.size (fun k_ => some k_ ≠ (v8 : Value).ownBlock ∧ some k_ ≠ ((.slice Ao24 t620.length co24) : Value).ownBlock ∧ some k_ ≠ ((.slice Ao24 t620.length co24) : Value).ownBlock ∧ k_ ≠ gb618 ∧ k_ ≠ gb630) (.slice Ao26 t623.length co26) t623) ∧ Aside0 (wc.heap[gb618]? = some (.cells #[(.slice Ao24 t620.length co24), (.slice Ao26 t623.length co26), .int .i64 t626, .int .i64 t627] 28 (0, 0))) ∧ Aside0 (wc.heap[gb630]? = some (.cells #[(.slice Ao24 t620.length co24), (.slice Ao26 t623.length co26), .int .i64 t626, .int .i64 t627] 28 (0, 0))) ∧ Aside0 (Below w.heap.size w wc))
                case first =>
                  have H := HC34.out
                  clear HC34
                  by_cases c35 : x49_16 = true
                  · subst c35
                    have H1 : (if t628 ≤ x7_1 then (some false) else (if x8_1.length < 17592186044416 then (cordwoodlaw21_SnapsOnce.j2 kj16 a0 l1 t608 t628 (x8_1 ++ [t628]) x9_1 t620 t623 t626 t627) else (none))) = some r := by rw [if_pos rfl] at H; exact H
                    clear H
                    have H := H1
                    clear H1
                    by_cases c36 : t628 ≤ x7_1
                    · rw [if_pos c36] at H
                      have c36b0 : decide (t628 ≤ x7_1) = true := decide_eq_true c36
                      clear c36
                      (first | rw [c36b0] | (simp only [i64_w, i32_w]; rw [c36b0]) | skip)
                      obtain rfl := Option.some.inj H
                      go_wp2
                      go_ret
                      exact ⟨by first | rfl | (simp [errW_none, errW_some] <;> rfl) | (simp [*, errW_none, errW_some] <;> rfl), by repeat (first | (with_reducible first | exact HB.out | apply below_alloc | apply pw_below_drewN | apply below_drew1 | refine below_set ?_ GE618.out | refine below_set ?_ GE630.out) | exact HB.out)⟩
                    · rw [if_neg c36] at H
                      have c36b0 : decide (t628 ≤ x7_1) = false := decide_eq_false c36
                      clear c36
                      (first | rw [c36b0] | (simp only [i64_w, i32_w]; rw [c36b0]) | skip)
                      by_cases c37 : x8_1.length < 17592186044416
                      · rw [if_pos c37] at H
                        have LMc37 := Aside0.mk c37
                        clear c37
                        obtain ⟨y632, hy632⟩ : ∃ y_ : List Int, y_ = (x8_1 ++ [t628]) := ⟨_, rfl⟩
                        replace H : (cordwoodlaw21_SnapsOnce.j2 kj16 a0 l1 t608 t628 y632 x9_1 t620 t623 t626 t627) = some r := by first | (rw [hy632]; with_reducible exact H) | (have H2_ := (Option.bind_some _ _).symm.trans H; rw [hy632]; with_reducible exact H2_) | (have H2_ := (Option.bind_some _ _).symm.trans H; with_reducible exact H2_) | with_reducible exact H | (rw [hy632]; exact H) | exact H
                        have Ny632 := Aside0.mk hy632
                        clear hy632
                        have H' := Aside0.mk H
                        clear H
                        go_wp2_with (first | ((with_reducible refine gate_builtin (b := .append) (xs := #[.tmp 54, .tmp 56]) rfl ?_); at_builtin; refine Kd.R_append (Kd.int .i64) (w0 := w) w.heap.size rfl (.tmp 54) (.tmp 56) 24 3 (.int .i64 0) 8 rfl Try.underlying24 info3 rfl (by decide) (by omega) u8 x8_1 t628 [.int .i64 t628] (fun k_ => some k_ ≠ (.slice Ao24 t620.length co24 : Value).ownBlock ∧ some k_ ≠ (.slice Ao24 t620.length co24 : Value).ownBlock) (fun _ => False) rfl rfl ?aP (fun _ hk => hk.elim) ?aF ?aO ?aB ?aS ?aL ?_; (case aP => exact rfl); (case aB => exact (by repeat (first | (with_reducible first | exact HB.out | apply below_alloc | apply pw_below_drewN | apply below_drew1 | refine below_set ?_ GE618.out | refine below_set ?_ GE630.out) | exact HB.out))); (case aF => exact (fun k_ hk => ⟨Kd.fresh' (Kd.R_lt (by (with_reducible repeat (first | apply Kd.R_alloc | apply Kd.R_drewN | apply Kd.R_drew)); exact HO_619000.out)) k_ hk, Kd.fresh' (Kd.R_lt (by (with_reducible repeat (first | apply Kd.R_alloc | apply Kd.R_drewN | apply Kd.R_drew)); exact HO_631000.out)) k_ hk⟩)); (case aO => exact (by (with_reducible repeat (first | apply Kd.R_alloc | apply Kd.R_drewN | apply Kd.R_drew)); exact HO_8.out)); (case aS => exact (below_size (by repeat (first | (with_reducible first | exact HB.out | apply below_alloc | apply pw_below_drewN | apply below_drew1 | refine below_set ?_ GE618.out | refine below_set ?_ GE630.out) | exact HB.out)))); (case aL => have := LMc37.out; omega); intro v633 w38 ho hb hg hat; rw [← Ny632.out] at ho; have n0_ := Aside0.mk (Kd.R_after (ok := (fun _ => True)) (by (with_reducible repeat (first | apply Kd.R_alloc | apply Kd.R_drewN | apply Kd.R_drew)); exact Kd.R_mono HO_619000.out (fun _ hk => ⟨trivial, hk⟩)) hg hat); have n1_ := Aside0.mk (Kd.V_afterv (ok := (fun k_ => some k_ ≠ (.slice Ao24 t620.length co24 : Value).ownBlock ∧ some k_ ≠ (.slice Ao24 t620.length co24 : Value).ownBlock ∧ k_ ≠ gb618 ∧ k_ ≠ gb630)) (by (with_reducible repeat (first | apply Kd.V_alloc | apply Kd.V_drewN | apply Kd.V_drew)); exact Kd.V_mono HO_619001.out (fun _ hk => ⟨⟨hk.2.1, ⟨hk.2.2.1, ⟨hk.2.2.2.1, hk.2.2.2.2⟩⟩⟩, hk.1⟩)) hg hat); have n2_ := Aside0.mk (Kd.R_after (ok := (fun _ => True)) (by (with_reducible repeat (first | apply Kd.R_alloc | apply Kd.R_drewN | apply Kd.R_drew)); exact Kd.R_mono HO_631000.out (fun _ hk => ⟨trivial, hk⟩)) hg hat); have n3_ := Aside0.mk (Kd.V_afterv (ok := (fun k_ => some k_ ≠ (.slice Ao24 t620.length co24 : Value).ownBlock ∧ some k_ ≠ (.slice Ao24 t620.length co24 : Value).ownBlock ∧ k_ ≠ gb618 ∧ k_ ≠ gb630)) (by (with_reducible repeat (first | apply Kd.V_alloc | apply Kd.V_drewN | apply Kd.V_drew)); exact Kd.V_mono HO_631001.out (fun _ hk => ⟨⟨hk.2.1, ⟨hk.2.2.1, ⟨hk.2.2.2.1, hk.2.2.2.2⟩⟩⟩, hk.1⟩)) hg hat); have n4_ := Aside0.mk (blk_grown (g := gb618) (o := .cells #[.slice Ao24 t620.length co24, .slice Ao26 t623.length co26, .int .i64 t626, .int .i64 t627] 28 (0, 0)) (by (with_reducible repeat (first | refine blk_drewN ?_ _ | refine blk_drew ?_ | refine blk_alloc ?_ _)); exact BK618.out) hg (Kd.R_ne HO_8.out BK618.out (by decide))); have n5_ := Aside0.mk (blk_grown (g := gb630) (o := .cells #[.slice Ao24 t620.length co24, .slice Ao26 t623.length co26, .int .i64 t626, .int .i64 t627] 28 (0, 0)) (by (with_reducible repeat (first | refine blk_drewN ?_ _ | refine blk_drew ?_ | refine blk_alloc ?_ _)); exact BK630.out) hg (Kd.R_ne HO_8.out BK630.out (by decide))); have n6_ := Aside0.mk (hb); have n7_ := Aside0.mk (ho); clear HO_619000; clear HO_619001; clear HO_631000; clear HO_631001; clear BK618; clear BK630; clear HB; clear HO_8; have HO_619000 := n0_; have HO_619001 := n1_; have HO_631000 := n2_; have HO_631001 := n3_; have BK618 := n4_; have BK630 := n5_; have HB := n6_; have HO634 := n7_; clear n0_ n1_ n2_ n3_ n4_ n5_ n6_ n7_; clear ho hb hg hat))
                        go_meet
                        case rel => exact ⟨_, (t628), (y632), (by first | rfl | (simp; done) | (simp [*]; done)), H', ⟨by have := HK1.out; have := HJ16.out; first | omega | exact Nat.le_refl _⟩, ⟨by (with_reducible repeat (first | apply Kd.R_alloc | apply Kd.R_drewN | apply Kd.R_drew)); exact HO634.out⟩, ⟨by (with_reducible repeat (first | apply Kd.R_alloc | apply Kd.R_drewN | apply Kd.R_drew)); exact Kd.R_mono HO_619000.out (fun _ hk => hk.2)⟩, ⟨by (with_reducible repeat (first | apply Kd.V_alloc | apply Kd.V_drewN | apply Kd.V_drew)); exact Kd.V_mono HO_619001.out (fun _ hk => ⟨hk.2, ⟨hk.1.1, ⟨hk.1.2.1, ⟨hk.1.2.2.1, hk.1.2.2.2⟩⟩⟩⟩)⟩, ⟨by (with_reducible repeat (first | apply Kd.R_alloc | apply Kd.R_drewN | apply Kd.R_drew)); exact Kd.R_mono HO_631000.out (fun _ hk => hk.2)⟩, ⟨by (with_reducible repeat (first | apply Kd.V_alloc | apply Kd.V_drewN | apply Kd.V_drew)); exact Kd.V_mono HO_631001.out (fun _ hk => ⟨hk.2, ⟨hk.1.1, ⟨hk.1.2.1, ⟨hk.1.2.2.1, hk.1.2.2.2⟩⟩⟩⟩)⟩, ⟨by (with_reducible repeat (first | refine blk_drewN ?_ _ | refine blk_drew ?_ | refine blk_alloc ?_ _)); exact BK618.out⟩, ⟨by (with_reducible repeat (first | refine blk_drewN ?_ _ | refine blk_drew ?_ | refine blk_alloc ?_ _)); exact BK630.out⟩, ⟨by repeat (first | (with_reducible first | exact HB.out | apply below_alloc | apply pw_below_drewN | apply below_drew1 | refine below_set ?_ GE618.out | refine below_set ?_ GE630.out) | exact HB.out)⟩⟩
                      · rw [if_neg c37] at H
                        exact absurd H (by simp)
                  · replace c35 := Bool.eq_false_iff.mpr c35
                    subst c35
                    have H1 : (cordwoodlaw21_SnapsOnce.j2 kj16 a0 l1 t608 x7_1 x8_1 x9_1 t620 t623 t626 t627) = some r := by rw [if_neg (show ¬ (false = true) by decide)] at H; exact H
                    clear H
                    have H := H1
                    clear H1
                    have H' := Aside0.mk H
                    clear H
                    go_wp2
                    go_meet
                    case rel => exact ⟨_, (x7_1), (x8_1), (by first | rfl | (simp; done) | (simp [*]; done)), H', ⟨by have := HK1.out; have := HJ16.out; first | omega | exact Nat.le_refl _⟩, ⟨by (with_reducible repeat (first | apply Kd.R_alloc | apply Kd.R_drewN | apply Kd.R_drew)); exact HO_8.out⟩, ⟨by (with_reducible repeat (first | apply Kd.R_alloc | apply Kd.R_drewN | apply Kd.R_drew)); exact HO_619000.out⟩, ⟨by (with_reducible repeat (first | apply Kd.V_alloc | apply Kd.V_drewN | apply Kd.V_drew)); exact HO_619001.out⟩, ⟨by (with_reducible repeat (first | apply Kd.R_alloc | apply Kd.R_drewN | apply Kd.R_drew)); exact HO_631000.out⟩, ⟨by (with_reducible repeat (first | apply Kd.V_alloc | apply Kd.V_drewN | apply Kd.V_drew)); exact HO_631001.out⟩, ⟨by (with_reducible repeat (first | refine blk_drewN ?_ _ | refine blk_drew ?_ | refine blk_alloc ?_ _)); exact BK618.out⟩, ⟨by (with_reducible repeat (first | refine blk_drewN ?_ _ | refine blk_drew ?_ | refine blk_alloc ?_ _)); exact BK630.out⟩, ⟨by repeat (first | (with_reducible first | exact HB.out | apply below_alloc | apply pw_below_drewN | apply below_drew1 | refine below_set ?_ GE618.out | refine below_set ?_ GE630.out) | exact HB.out)⟩⟩
                case rest =>
                  clear HC34
                  try clear c1
                  try clear p2
                  try clear c3
                  try clear c5
                  try clear c6
                  try clear p6
                  try clear q6
                  try clear hx6
                  try clear c9
                  try clear c10
                  try clear c14
                  try clear c14b0
                  try clear c15
                  try clear c15b0
                  try clear c17
                  try clear c19
                  try clear c30
                  try clear c33
                  try clear c33b0
                  try clear c33b1
                  try clear c35
                  try clear c36
                  try clear c36b0
                  try clear c37
                  try clear hcz12_0
                  try clear hcz12_1
                  try clear hcz12_2
                  try clear hcz12_3
                  try clear hcz31_0
                  try clear hcz31_1
                  try clear hcz31_2
                  try clear hcz31_3
                  try clear hcz32_0
                  try clear hcz32_1
                  try clear hcz32_2
                  try clear hcz32_3
                  try clear hfz12_0
                  try clear hfz12_1
                  try clear hfz12_2
                  try clear hfz12_3
                  try clear hfz31_0
                  try clear hfz31_1
                  try clear hfz31_2
                  try clear hfz31_3
                  try clear hfz32_0
                  try clear hfz32_1
                  try clear hfz32_2
                  try clear hfz32_3
                  try clear hx619_0
                  try clear hx619_1
                  try clear hx619_2
                  try clear hx631_0
                  try clear hx631_1
                  try clear hx631_2
                  try clear p2
                  try clear p6
                  try clear p619
                  try clear p631
                  try clear q6
                  try clear q619
                  try clear q631
                  obtain ⟨kq, x7_33, x8_33, rfl, HA, HJ33, HO_8, HO_619000, HO_619001, HO_631000, HO_631001, BK618, BK630, HB⟩ := hcut
                  cases kq with
                  | zero => exact absurd HA.out (by simp [cordwoodlaw21_SnapsOnce.j2])
                  | succ kj33 =>
                    have H := HA.out
                    clear HA
                    simp only [cordwoodlaw21_SnapsOnce.j2] at H
                    replace H := Option.bind_eq_some_iff.mp H
                    obtain ⟨t635, A390, H⟩ := H
                    replace H : (cordwoodlaw21_SnapsOnce.l1 kj33 a0 l1 t608 x7_33 x8_33 x9_1 t635 0 t620 t623 t626 t627) = some r := H
                    have A39 := Aside0.mk A390
                    clear A390
                    have H' := Aside0.mk H
                    clear H
                    have hnb40 := NB618_630.out
                    have hnc40 := NB630_618.out
                    have hcz41_0 : wc.cell? ⟨gb618, 0, none⟩ = some (.slice Ao24 t620.length co24) := (blk_cell BK618.out 0).trans rfl
                    have hcz41_1 : wc.cell? ⟨gb618, 1, none⟩ = some (.slice Ao26 t623.length co26) := (blk_cell BK618.out 1).trans rfl
                    have hcz41_2 : wc.cell? ⟨gb618, 2, none⟩ = some (.int .i64 t626) := (blk_cell BK618.out 2).trans rfl
                    have hcz41_3 : wc.cell? ⟨gb618, 3, none⟩ = some (.int .i64 t627) := (blk_cell BK618.out 3).trans rfl
                    have hfz41_0 := blk_frozen BK618.out 0
                    have hfz41_1 := blk_frozen BK618.out 1
                    have hfz41_2 := blk_frozen BK618.out 2
                    have hfz41_3 := blk_frozen BK618.out 3
                    go_wp2_with (first | ((with_reducible refine gate_callee (f := 15) rfl ?_); refine goesL_ (some 59) rfl rfl Try.func15 (by kernel_rfl) rfl #[.agg #[.slice Ao24 t620.length co24, .slice Ao26 t623.length co26, .int .i64 t626, .int .i64 t627]] rfl (by (try simp only [List.map_toArray, List.map_cons, List.map_nil]); first | done | rfl | (simp only [List.length_drop, List.length_take]; rfl)) ?_; (with_reducible refine (snaps_IDs.calls _ _ t620 _ _ t623 t626 t627 t635 _ ?side1 ?side2 ?side3 ?side4 A39.out).mono ?_); (case side1 => repeat (first | exact (Kd.R_reads' HO_619000.out).2.2 | (with_reducible refine Kd.C_alloc ?_ _) | (with_reducible refine Kd.C_drewN ?_ _) | (with_reducible refine Kd.C_drew ?_))); (case side2 => exact (Kd.R_reads' HO_619000.out).2.1); (case side3 => repeat (first | exact (Kd.V_reads' HO_619001.out).2.2 | (with_reducible refine Kd.C_alloc ?_ _) | (with_reducible refine Kd.C_drewN ?_ _) | (with_reducible refine Kd.C_drew ?_))); (case side4 => exact (Kd.V_reads' HO_619001.out).2.1); rintro e w42 ⟨v636, rfl, ho0, hb⟩; refine ⟨_, rfl, ?_⟩; have n0_ := Aside0.mk (Kd.R_elder' (by (with_reducible repeat (first | apply Kd.R_alloc | apply Kd.R_drewN | apply Kd.R_drew)); exact HO_8.out) (Kd.R_base ho0) hb); have n1_ := Aside0.mk (Kd.R_elder' (by (with_reducible repeat (first | apply Kd.R_alloc | apply Kd.R_drewN | apply Kd.R_drew)); exact HO_619000.out) (Kd.R_base ho0) hb); have n2_ := Aside0.mk (Kd.V_elder' (by (with_reducible repeat (first | apply Kd.V_alloc | apply Kd.V_drewN | apply Kd.V_drew)); exact HO_619001.out) (Kd.R_base ho0) hb); have n3_ := Aside0.mk (Kd.R_elder' (by (with_reducible repeat (first | apply Kd.R_alloc | apply Kd.R_drewN | apply Kd.R_drew)); exact HO_631000.out) (Kd.R_base ho0) hb); have n4_ := Aside0.mk (Kd.V_elder' (by (with_reducible repeat (first | apply Kd.V_alloc | apply Kd.V_drewN | apply Kd.V_drew)); exact HO_631001.out) (Kd.R_base ho0) hb); have n5_ := Aside0.mk (Kd.R_lower (Kd.R_new' (Kd.R_new' (Kd.R_new' ho0 (Kd.R_lt (by (with_reducible repeat (first | apply Kd.R_alloc | apply Kd.R_drewN | apply Kd.R_drew)); exact HO_8.out))) (Kd.R_lt (by (with_reducible repeat (first | apply Kd.R_alloc | apply Kd.R_drewN | apply Kd.R_drew)); exact HO_619000.out))) (Kd.R_lt (by (with_reducible repeat (first | apply Kd.R_alloc | apply Kd.R_drewN | apply Kd.R_drew)); exact HO_631000.out))) (below_size (by repeat (first | (with_reducible first | exact HB.out | apply below_alloc | apply pw_below_drewN | apply below_drew1 | refine below_set ?_ GE618.out | refine below_set ?_ GE630.out) | exact HB.out)))); have n6_ := Aside0.mk (blk_below (g := gb618) (o := .cells #[.slice Ao24 t620.length co24, .slice Ao26 t623.length co26, .int .i64 t626, .int .i64 t627] 28 (0, 0)) (by (with_reducible repeat (first | refine blk_drewN ?_ _ | refine blk_drew ?_ | refine blk_alloc ?_ _)); exact BK618.out) hb); have n7_ := Aside0.mk (blk_below (g := gb630) (o := .cells #[.slice Ao24 t620.length co24, .slice Ao26 t623.length co26, .int .i64 t626, .int .i64 t627] 28 (0, 0)) (by (with_reducible repeat (first | refine blk_drewN ?_ _ | refine blk_drew ?_ | refine blk_alloc ?_ _)); exact BK630.out) hb); have n8_ := Aside0.mk (below_step (by repeat (first | (with_reducible first | exact HB.out | apply below_alloc | apply pw_below_drewN | apply below_drew1 | refine below_set ?_ GE618.out | refine below_set ?_ GE630.out) | exact HB.out)) hb); clear HO_8; clear HO_619000; clear HO_619001; clear HO_631000; clear HO_631001; clear BK618; clear BK630; clear HB; have HO_8 := n0_; have HO_619000 := n1_; have HO_619001 := n2_; have HO_631000 := n3_; have HO_631001 := n4_; have HO637 := n5_; have BK618 := n6_; have BK630 := n7_; have HB := n8_; clear n0_ n1_ n2_ n3_ n4_ n5_ n6_ n7_ n8_; (try clear hb); (try clear hb2); (try clear hk); (try clear hi); (try clear ho0)))
                    go_loopg [14] kj33 (fun kq v14 w' => ∃ (x14_4 : Int), v14 = .int .i64 x14_4 ∧ Aside0 (cordwoodlaw21_SnapsOnce.l1 kq a0 l1 t608 x7_33 x8_33 x9_1 t635 x14_4 t620 t623 t626 t627 = some r) ∧ Aside0 (kq ≤ kj33) ∧ Aside0 (Kd.R (Kd.int .i64) 3 w' w.heap.size (fun k_ => some k_ ≠ (v636 : Value).ownBlock ∧ some k_ ≠ ((.slice Ao24 t620.length co24) : Value).ownBlock ∧ some k_ ≠ ((.slice Ao24 t620.length co24) : Value).ownBlock) u8 x8_33) ∧ Aside0 (Kd.R (Kd.int .i64) 3 w' w.heap.size (fun k_ => some k_ ≠ (u8 : Value).ownBlock ∧ some k_ ≠ ((.slice Ao24 t620.length co24) : Value).ownBlock ∧ some k_ ≠ ((.slice Ao24 t620.length co24) : Value).ownBlock) v636 t635) ∧ Aside0 (Kd.R (Kd.int .i64) 3 w' w.heap.size (fun k_ => some k_ ≠ (u8 : Value).ownBlock ∧ some k_ ≠ (v636 : Value).ownBlock) (.slice Ao24 t620.length co24) t620) ∧ Aside0 (Kd.V (Kd.slice 72 k72) 31 w' w.heap.size (fun k_ => some k_ ≠ (u8 : Value).ownBlock ∧ some k_ ≠ (v636 : Value).ownBlock ∧ some k_ ≠ ((.slice Ao24 t620.length co24) : Value).ownBlock ∧ some k_ ≠ ((.slice Ao24 t620.length co24) : Value).ownBlock ∧ k_ ≠ gb618 ∧ k_ ≠ gb630) (.slice Ao26 t623.length co26) t623) ∧ Aside0 (Kd.R (Kd.int .i64) 3 w' w.heap.size (fun k_ => some k_ ≠ (u8 : Value).ownBlock ∧ some k_ ≠ (v636 : Value).ownBlock) (.slice Ao24 t620.length co24) t620) ∧ Aside0 (Kd.V (Kd.slice 72 k72) 31 w' w.heap.size (fun k_ => some k_ ≠ (u8 : Value).ownBlock ∧ some k_ ≠ (v636 : Value).ownBlock ∧ some k_ ≠ ((.slice Ao24 t620.length co24) : Value).ownBlock ∧ some k_ ≠ ((.slice Ao24 t620.length co24) : Value).ownBlock ∧ k_ ≠ gb618 ∧ k_ ≠ gb630) (.slice Ao26 t623.length co26) t623) ∧ Aside0 (w'.heap[gb618]? = some (.cells #[(.slice Ao24 t620.length co24), (.slice Ao26 t623.length co26), .int .i64 t626, .int .i64 t627] 28 (0, 0))) ∧ Aside0 (w'.heap[gb630]? = some (.cells #[(.slice Ao24 t620.length co24), (.slice Ao26 t623.length co26), .int .i64 t626, .int .i64 t627] 28 (0, 0))) ∧ Aside0 (Below w.heap.size w w'))
                    case atStart => exact ⟨(0), (by first | rfl | (simp; done) | (simp [*]; done)), H', ⟨Nat.le_refl _⟩, ⟨by (with_reducible repeat (first | apply Kd.R_alloc | apply Kd.R_drewN | apply Kd.R_drew)); exact Kd.R_mono HO_8.out (fun _ hk => ⟨hk.2, ⟨hk.1.1, hk.1.2⟩⟩)⟩, ⟨by (with_reducible repeat (first | apply Kd.R_alloc | apply Kd.R_drewN | apply Kd.R_drew)); exact Kd.R_mono HO637.out (fun _ hk => ⟨hk.1.1.2, ⟨hk.1.2, hk.2⟩⟩)⟩, ⟨by (with_reducible repeat (first | apply Kd.R_alloc | apply Kd.R_drewN | apply Kd.R_drew)); exact HO_619000.out⟩, ⟨by (with_reducible repeat (first | apply Kd.V_alloc | apply Kd.V_drewN | apply Kd.V_drew)); exact Kd.V_mono HO_619001.out (fun _ hk => ⟨hk.1.1, ⟨hk.2, ⟨hk.1.2.1, ⟨hk.1.2.2.1, ⟨hk.1.2.2.2.1, hk.1.2.2.2.2⟩⟩⟩⟩⟩)⟩, ⟨by (with_reducible repeat (first | apply Kd.R_alloc | apply Kd.R_drewN | apply Kd.R_drew)); exact HO_631000.out⟩, ⟨by (with_reducible repeat (first | apply Kd.V_alloc | apply Kd.V_drewN | apply Kd.V_drew)); exact Kd.V_mono HO_631001.out (fun _ hk => ⟨hk.1.1, ⟨hk.2, ⟨hk.1.2.1, ⟨hk.1.2.2.1, ⟨hk.1.2.2.2.1, hk.1.2.2.2.2⟩⟩⟩⟩⟩)⟩, ⟨by (with_reducible repeat (first | refine blk_drewN ?_ _ | refine blk_drew ?_ | refine blk_alloc ?_ _)); exact BK618.out⟩, ⟨by (with_reducible repeat (first | refine blk_drewN ?_ _ | refine blk_drew ?_ | refine blk_alloc ?_ _)); exact BK630.out⟩, ⟨by repeat (first | (with_reducible first | exact HB.out | apply below_alloc | apply pw_below_drewN | apply below_drew1 | refine below_set ?_ GE618.out | refine below_set ?_ GE630.out) | exact HB.out)⟩⟩
                    case round =>
                      clear H'
                      try clear c1
                      try clear p2
                      try clear c3
                      try clear c4
                      try clear c5
                      try clear c6
                      try clear p6
                      try clear q6
                      try clear hx6
                      try clear c9
                      try clear c10
                      try clear c14
                      try clear c14b0
                      try clear c15
                      try clear c15b0
                      try clear c17
                      try clear c19
                      try clear c30
                      try clear c33
                      try clear c33b0
                      try clear c33b1
                      try clear c35
                      try clear c36
                      try clear c36b0
                      try clear c37
                      try clear c40
                      try clear hcz12_0
                      try clear hcz12_1
                      try clear hcz12_2
                      try clear hcz12_3
                      try clear hcz31_0
                      try clear hcz31_1
                      try clear hcz31_2
                      try clear hcz31_3
                      try clear hcz32_0
                      try clear hcz32_1
                      try clear hcz32_2
                      try clear hcz32_3
                      try clear hcz41_0
                      try clear hcz41_1
                      try clear hcz41_2
                      try clear hcz41_3
                      try clear hfz12_0
                      try clear hfz12_1
                      try clear hfz12_2
                      try clear hfz12_3
                      try clear hfz31_0
                      try clear hfz31_1
                      try clear hfz31_2
                      try clear hfz31_3
                      try clear hfz32_0
                      try clear hfz32_1
                      try clear hfz32_2
                      try clear hfz32_3
                      try clear hfz41_0
                      try clear hfz41_1
                      try clear hfz41_2
                      try clear hfz41_3
                      try clear hx619_0
                      try clear hx619_1
                      try clear hx619_2
                      try clear hx631_0
                      try clear hx631_1
                      try clear hx631_2
                      try clear p2
                      try clear p6
                      try clear p619
                      try clear p631
                      try clear q6
                      try clear q619
                      try clear q631
                      obtain ⟨x14_4, rfl, HA, HK4, HO_8, HO_13, HO_619000, HO_619001, HO_631000, HO_631001, BK618, BK630, HB⟩ := hrel
                      cases gk with
                      | zero => exact absurd HA.out (by simp [cordwoodlaw21_SnapsOnce.l1])
                      | succ k4 =>
                        have H := HA.out
                        clear HA
                        simp only [cordwoodlaw21_SnapsOnce.l1] at H
                        by_cases c43 : x14_4 < (t635.length : Int)
                        · rw [if_pos c43] at H
                          have c43b0 : decide (x14_4 < (t635.length : Int)) = true := decide_eq_true c43
                          clear c43
                          have HC44 := Aside0.mk H
                          clear H
                          obtain ⟨Ao45, co45, eo45⟩ := Kd.R_slice HO_13.out
                          subst eo45
                          go_upto_region 21 with (fail)
                          go_cut [88] (fun v88 wc => ∃ (kq : Nat) (x88_43 : Bool), v88 = .bool x88_43 ∧ Aside0 (cordwoodlaw21_SnapsOnce.j4 kq a0 l1 t608 x7_33 x8_33 x9_1 t635 x14_4 x88_43 t620 t623 t626 t627 = some r) ∧ Aside0 (kq ≤ k4) ∧ Aside0 (Kd.R (Kd.int .i64) 3 wc w.heap.size (fun k_ => some k_ ≠ ((.slice Ao45 t635.length co45) : Value).ownBlock ∧ some k_ ≠ ((.slice Ao24 t620.length co24) : Value).ownBlock ∧ some k_ ≠ ((.slice Ao24 t620.length co24) : Value).ownBlock) u8 x8_33) ∧ Aside0 (Kd.R (Kd.int .i64) 3 wc w.heap.size (fun k_ => some k_ ≠ (u8 : Value).ownBlock ∧ some k_ ≠ ((.slice Ao24 t620.length co24) : Value).ownBlock ∧ some k_ ≠ ((.slice Ao24 t620.length co24) : Value).ownBlock) (.slice Ao45 t635.length co45) t635) ∧ Aside0 (Kd.R (Kd.int .i64) 3 wc w.heap.size (fun k_ => some k_ ≠ (u8 : Value).ownBlock ∧ some k_ ≠ ((.slice Ao45 t635.length co45) : Value).ownBlock) (.slice Ao24 t620.length co24) t620) ∧ Aside0 (Kd.V (Kd.slice 72 k72) 31 wc w.heap.size (fun k_ => some k_ ≠ (u8 : Value).ownBlock ∧ some k_ ≠ ((.slice Ao45 t635.length co45) : Value).ownBlock ∧ some k_ ≠ ((.slice Ao24 t620.length co24) : Value).ownBlock ∧ some k_ ≠ ((.slice Ao24 t620.length co24) : Value).ownBlock ∧ k_ ≠ gb618 ∧ k_ ≠ gb630) (.slice Ao26 t623.length co26) t623) ∧ Aside0 (Kd.R (Kd.int .i64) 3 wc w.heap.size (fun k_ => some k_ ≠ (u8 : Value).ownBlock ∧ some k_ ≠ ((.slice Ao45 t635.length co45) : Value).ownBlock) (.slice Ao24 t620.length co24) t620) ∧ Aside0 (Kd.V (Kd.slice 72 k72) 31 wc w.heap.size (fun k_ => some k_ ≠ (u8 : Value).ownBlock ∧ some k_ ≠ ((.slice Ao45 t635.length co45) : Value).ownBlock ∧ some k_ ≠ ((.slice Ao24 t620.length co24) : Value).ownBlock ∧ some k_ ≠ ((.slice Ao24 t620.length co24) : Value).ownBlock ∧ k_ ≠ gb618 ∧ k_ ≠ gb630) (.slice Ao26 t623.length co26) t623) ∧ Aside0 (wc.heap[gb618]? = some (.cells #[(.slice Ao24 t620.length co24), (.slice Ao26 t623.length co26), .int .i64 t626, .int .i64 t627] 28 (0, 0))) ∧ Aside0 (wc.heap[gb630]? = some (.cells #[(.slice Ao24 t620.length co24), (.slice Ao26 t623.length co26), .int .i64 t626, .int .i64 t627] 28 (0, 0))) ∧ Aside0 (Below w.heap.size w wc))
                          case first =>
                            have H := HC44.out
                            clear HC44
                            by_cases c46 : 0 ≤ x14_4
                            · rw [if_pos c46] at H
                              have c46b0 : decide (0 ≤ x14_4) = true := decide_eq_true c46
                              clear c46
                              (first | rw [c46b0] | (simp only [i64_w, i32_w]; rw [c46b0]) | skip)
                              replace H := Option.bind_eq_some_iff.mp H
                              obtain ⟨t639, A470, H⟩ := H
                              replace H : (if t639 = true then (if x14_4 > 0 then (if 0 ≤ (wrap64 (x14_4 - 1)) then (if (wrap64 (x14_4 - 1)) < (t635.length : Int) then (cordwoodlaw21_SnapsOnce.j4 k4 a0 l1 t608 x7_33 x8_33 x9_1 t635 x14_4 (decide ((rd t635 (wrap64 (x14_4 - 1))) ≥ (rd t635 x14_4))) t620 t623 t626 t627) else (none)) else (none)) else (cordwoodlaw21_SnapsOnce.j4 k4 a0 l1 t608 x7_33 x8_33 x9_1 t635 x14_4 false t620 t623 t626 t627)) else (cordwoodlaw21_SnapsOnce.j4 k4 a0 l1 t608 x7_33 x8_33 x9_1 t635 x14_4 true t620 t623 t626 t627)) = some r := H
                              have A47 := Aside0.mk A470
                              clear A470
                              by_cases c48 : t639 = true
                              · subst c48
                                have H1 : (if x14_4 > 0 then (if 0 ≤ (wrap64 (x14_4 - 1)) then (if (wrap64 (x14_4 - 1)) < (t635.length : Int) then (cordwoodlaw21_SnapsOnce.j4 k4 a0 l1 t608 x7_33 x8_33 x9_1 t635 x14_4 (decide ((rd t635 (wrap64 (x14_4 - 1))) ≥ (rd t635 x14_4))) t620 t623 t626 t627) else (none)) else (none)) else (cordwoodlaw21_SnapsOnce.j4 k4 a0 l1 t608 x7_33 x8_33 x9_1 t635 x14_4 false t620 t623 t626 t627)) = some r := by rw [if_pos rfl] at H; exact H
                                clear H
                                have H := H1
                                clear H1
                                by_cases c49 : x14_4 > 0
                                · rw [if_pos c49] at H
                                  have c49b0 : decide (0 < x14_4) = true := decide_eq_true c49
                                  clear c49
                                  obtain ⟨ji50, hji50⟩ : ∃ j_ : Int, (wrap64 (x14_4 - 1)) = j_ := ⟨_, rfl⟩
                                  replace H : (if 0 ≤ (ji50) then (if (ji50) < (t635.length : Int) then (cordwoodlaw21_SnapsOnce.j4 k4 a0 l1 t608 x7_33 x8_33 x9_1 t635 x14_4 (decide ((rd t635 (ji50)) ≥ (rd t635 x14_4))) t620 t623 t626 t627) else (none)) else (none)) = some r := by first | (rw [hji50] at H; exact H) | (simp only [hji50] at H ⊢; exact H)
                                  (try rw [hji50] at A47)
                                  have hji50w : (IntKind.i64.wrap (x14_4 - 1)) = ji50 := (i64_w _).trans hji50
                                  by_cases c51 : 0 ≤ (ji50)
                                  · rw [if_pos c51] at H
                                    have c51b0 : decide (0 ≤ (ji50)) = true := decide_eq_true c51
                                    clear c51
                                    by_cases c52 : (ji50) < (t635.length : Int)
                                    · rw [if_pos c52] at H
                                      have c52b0 : decide ((ji50) < (t635.length : Int)) = true := decide_eq_true c52
                                      clear c52
                                      have H' := Aside0.mk H
                                      clear H
                                      try go_wp2
                                      have n0_ := Aside0.mk (Kd.R_drew HO_8.out)
                                      have n1_ := Aside0.mk (Kd.R_drew HO_13.out)
                                      have n2_ := Aside0.mk (Kd.R_drew HO_619000.out)
                                      have n3_ := Aside0.mk (Kd.V_drew HO_619001.out)
                                      have n4_ := Aside0.mk (Kd.R_drew HO_631000.out)
                                      have n5_ := Aside0.mk (Kd.V_drew HO_631001.out)
                                      have n6_ := Aside0.mk (blk_drew BK618.out)
                                      have n7_ := Aside0.mk (blk_drew BK630.out)
                                      have n8_ := Aside0.mk (below_drew1 HB.out)
                                      clear HO_8
                                      clear HO_13
                                      clear HO_619000
                                      clear HO_619001
                                      clear HO_631000
                                      clear HO_631001
                                      clear BK618
                                      clear BK630
                                      clear HB
                                      have HO_8 := n0_
                                      have HO_13 := n1_
                                      have HO_619000 := n2_
                                      have HO_619001 := n3_
                                      have HO_631000 := n4_
                                      have HO_631001 := n5_
                                      have BK618 := n6_
                                      have BK630 := n7_
                                      have HB := n8_
                                      clear n0_ n1_ n2_ n3_ n4_ n5_ n6_ n7_ n8_
                                      have p638 : 0 ≤ (x14_4 : Int) := of_decide_eq_true (by first | (with_reducible assumption) | assumption)
                                      have q638 : x14_4 < (t635.length : Int) := of_decide_eq_true (by first | (with_reducible assumption) | assumption)
                                      obtain ⟨ad638, e638, hx638_0⟩ := Kd.at_int (Kd.R_reads' HO_13.out).2.2 x14_4 p638 q638
                                      cases e638
                                      replace p638 := eq_true p638
                                      replace q638 := eq_true q638
                                      obtain ⟨Ao54, co54, eo54⟩ := Kd.R_slice HO_8.out
                                      (first | subst eo54 | (injection eo54 with f1_ f2_ f3_; have f4_ := f1_.symm; have f5_ := f3_.symm; clear f1_ f2_ f3_; subst f4_; subst f5_))
                                      have p640 : 0 ≤ ((ji50) : Int) := of_decide_eq_true (by first | (with_reducible assumption) | assumption)
                                      have q640 : (ji50) < (t635.length : Int) := of_decide_eq_true (by first | (with_reducible assumption) | assumption)
                                      obtain ⟨ad640, e640, hx640_0⟩ := Kd.at_int (Kd.R_reads' HO_13.out).2.2 (ji50) p640 q640
                                      obtain rfl : ad638 = ad640 := (by injection e640)
                                      replace p640 := eq_true p640
                                      replace q640 := eq_true q640
                                      have p641 : 0 ≤ (x14_4 : Int) := of_decide_eq_true (by first | (with_reducible assumption) | assumption)
                                      have q641 : x14_4 < (t635.length : Int) := of_decide_eq_true (by first | (with_reducible assumption) | assumption)
                                      obtain ⟨ad641, e641, hx641_0⟩ := Kd.at_int (Kd.R_reads' HO_13.out).2.2 x14_4 p641 q641
                                      obtain rfl : ad638 = ad641 := (by injection e641)
                                      replace p641 := eq_true p641
                                      replace q641 := eq_true q641
                                      refine start_ (n := 23) (S := fun w' => w'.cell? (ad638.add (x14_4).toNat) = some (.int .i64 (rd t635 x14_4)) ∧ w'.cell? (ad638.add ((ji50)).toNat) = some (.int .i64 (rd t635 (ji50))) ∧ w'.cell? (ad638.add (x14_4).toNat) = some (.int .i64 (rd t635 x14_4))) (ds := []) #[false, false, false, false, false, false, false, false, false, false, false, false, false, false, false, false, false, false, false, false, false, false, false] (by kernel_rfl) rfl rfl ⟨hx638_0, hx640_0, hx641_0⟩ (fun hHeld => ?_); refine with_tabW cordwoodlaw21_SnapsOnce.tab21 cordwoodlaw21_SnapsOnce.bits21 (fun HT_ HW_ => ?_)
                                      generalize wr.drew = w53 at HO_8 HO_13 HO_619000 HO_619001 HO_631000 HO_631001 BK618 BK630 HB hx638_0 hx640_0 hx641_0 hHeld ⊢
                                      refine pure_ (i := 0) (N := some 66) (v := ?_) (a' := ?_) #[true, false, false, false, false, false, false, false, false, false, false, false, false, false, false, false, false, false, false, false, false, false, false] rfl rfl (any_of HT_.out (by kernel_rfl)) (fun _ _ _ h => h) (Or.inl ⟨by rfl, ?_⟩) ?_ ?_
                                      rotate_left
                                      · intro w'
                                        go_simp
                                        with_reducible rfl
                                      rotate_left
                                      · simp only [Act.put, List.setIfInBounds_toArray, List.set_cons_zero, List.set_cons_succ, i64_w, i32_w]
                                        rfl
                                      refine pure_ (i := 1) (N := some 67) (v := ?_) (a' := ?_) #[true, true, false, false, false, false, false, false, false, false, false, false, false, false, false, false, false, false, false, false, false, false, false] rfl rfl (any_of HT_.out (by kernel_rfl)) (fun _ _ _ h => h) (Or.inl ⟨by rfl, ?_⟩) ?_ ?_
                                      rotate_left
                                      · intro w'
                                        go_simp
                                        with_reducible rfl
                                      rotate_left
                                      · simp only [Act.put, List.setIfInBounds_toArray, List.set_cons_zero, List.set_cons_succ, i64_w, i32_w]
                                        rfl
                                      refine pure_ (i := 2) (N := some 68) (v := ?_) (a' := ?_) #[true, true, true, false, false, false, false, false, false, false, false, false, false, false, false, false, false, false, false, false, false, false, false] rfl rfl (any_of HT_.out (by kernel_rfl)) (fun _ _ _ h => h) (Or.inl ⟨by rfl, ?_⟩) ?_ ?_
                                      rotate_left
                                      · intro w'
                                        go_simp
                                        with_reducible rfl
                                      rotate_left
                                      · simp only [Act.put, List.setIfInBounds_toArray, List.set_cons_zero, List.set_cons_succ, i64_w, i32_w]
                                        rfl
                                      refine pure_ (i := 3) (N := some 69) (v := ?_) (a' := ?_) #[true, true, true, true, false, false, false, false, false, false, false, false, false, false, false, false, false, false, false, false, false, false, false] rfl rfl (any_of HT_.out (by kernel_rfl)) (fun _ _ _ h => h) (Or.inl ⟨by rfl, ?_⟩) ?_ ?_
                                      rotate_left
                                      · intro w'
                                        go_simp
                                        with_reducible rfl
                                      rotate_left
                                      · simp only [Act.put, List.setIfInBounds_toArray, List.set_cons_zero, List.set_cons_succ, i64_w, i32_w]
                                        rfl
                                      refine take_ (i := 4) (N := some 70) (v := ?_) (a' := ?_) #[true, true, true, true, true, false, false, false, false, false, false, false, false, false, false, false, false, false, false, false, false, false, false] rfl rfl (take_ofW HT_.out HW_.out (by kernel_rfl)) (fun _ _ _ h => h) (Or.inl ⟨by rfl, ?_⟩) hHeld ?_ ?_
                                      rotate_left
                                      · rintro w' ⟨s0, s1, s2⟩
                                        go_simp
                                        with_reducible rfl
                                      rotate_left
                                      · simp only [Act.put, List.setIfInBounds_toArray, List.set_cons_zero, List.set_cons_succ, i64_w, i32_w]
                                        rfl
                                      refine one_ (i := 5) (N := some 71) #[true, true, true, true, true, true, false, false, false, false, false, false, false, false, false, false, false, false, false, false, false, false, false] rfl rfl (one_of HT_.out (by kernel_rfl)) (by decide) (fun K hK => ?_)
                                      refine goes_ Try.func24 (by kernel_rfl) rfl #[.slice Ao54 x8_33.length co54, .int .i64 (rd t635 x14_4)] (by rfl) rfl rfl (by (try simp only [List.map_toArray, List.map_cons, List.map_nil]); first | done | rfl | (simp only [List.length_drop, List.length_take]; rfl)) ?_
                                      with_reducible refine (cordwoodref08_Has.calls k4 _ _ x8_33 (rd t635 x14_4) true _ ?side1 ?side2 A47.out).mono ?_
                                      (case side1 => repeat (first | exact (Kd.R_reads' HO_8.out).2.2 | (with_reducible refine Kd.C_alloc ?_ _) | (with_reducible refine Kd.C_drewN ?_ _) | (with_reducible refine Kd.C_drew ?_)))
                                      (case side2 => exact (Kd.R_reads' HO_8.out).2.1)
                                      rintro e w' ⟨rfl, ⟨nd, rfl⟩⟩
                                      refine ⟨_, rfl, ?_⟩
                                      refine hK.out _ _ ⟨hHeld.1, hHeld.2.1, hHeld.2.2⟩ (fun hHeld => ?_)
                                      clear hK K
                                      refine norm_ (a' := ?_) ?_ ?_
                                      rotate_left
                                      · show Act.put _ (some 71) _ = _
                                        simp only [Act.put, List.setIfInBounds_toArray, List.set_cons_zero, List.set_cons_succ, i64_w, i32_w]
                                        rfl
                                      refine pure_ (i := 6) (N := some 72) (v := ?_) (a' := ?_) #[true, true, true, true, true, true, true, false, false, false, false, false, false, false, false, false, false, false, false, false, false, false, false] rfl rfl (any_of HT_.out (by kernel_rfl)) (fun _ _ _ h => h) (Or.inl ⟨by rfl, ?_⟩) ?_ ?_
                                      rotate_left
                                      · intro w'
                                        go_simp
                                        with_reducible rfl
                                      rotate_left
                                      · simp only [Act.put, List.setIfInBounds_toArray, List.set_cons_zero, List.set_cons_succ, i64_w, i32_w]
                                        rfl
                                      refine pure_ (i := 7) (N := some 73) (v := ?_) (a' := ?_) #[true, true, true, true, true, true, true, true, false, false, false, false, false, false, false, false, false, false, false, false, false, false, false] rfl rfl (any_of HT_.out (by kernel_rfl)) (fun _ _ _ h => h) (Or.inl ⟨by rfl, ?_⟩) ?_ ?_
                                      rotate_left
                                      · intro w'
                                        go_simp
                                        with_reducible rfl
                                      rotate_left
                                      · simp only [Act.put, List.setIfInBounds_toArray, List.set_cons_zero, List.set_cons_succ, i64_w, i32_w]
                                        rfl
                                      refine pure_ (i := 8) (N := some 74) (v := ?_) (a' := ?_) #[true, true, true, true, true, true, true, true, true, false, false, false, false, false, false, false, false, false, false, false, false, false, false] rfl rfl (any_of HT_.out (by kernel_rfl)) (fun _ _ _ h => h) (Or.inl ⟨by rfl, ?_⟩) ?_ ?_
                                      rotate_left
                                      · intro w'
                                        go_simp
                                        with_reducible rfl
                                      rotate_left
                                      · simp only [Act.put, List.setIfInBounds_toArray, List.set_cons_zero, List.set_cons_succ, i64_w, i32_w]
                                        rfl
                                      refine pure_ (i := 9) (N := some 75) (v := ?_) (a' := ?_) #[true, true, true, true, true, true, true, true, true, true, false, false, false, false, false, false, false, false, false, false, false, false, false] rfl rfl (any_of HT_.out (by kernel_rfl)) (fun _ _ _ h => h) (Or.inl ⟨by rfl, ?_⟩) ?_ ?_
                                      rotate_left
                                      · intro w'
                                        go_simp
                                        with_reducible rfl
                                      rotate_left
                                      · simp only [Act.put, List.setIfInBounds_toArray, List.set_cons_zero, List.set_cons_succ, i64_w, i32_w]
                                        rfl
                                      refine pure_ (i := 10) (N := some 76) (v := ?_) (a' := ?_) #[true, true, true, true, true, true, true, true, true, true, true, false, false, false, false, false, false, false, false, false, false, false, false] rfl rfl (any_of HT_.out (by kernel_rfl)) (fun _ _ _ h => h) (Or.inl ⟨by rfl, ?_⟩) ?_ ?_
                                      rotate_left
                                      · intro w'
                                        go_simp
                                        with_reducible rfl
                                      rotate_left
                                      · simp only [Act.put, List.setIfInBounds_toArray, List.set_cons_zero, List.set_cons_succ, i64_w, i32_w]
                                        rfl
                                      refine pure_ (i := 11) (N := some 77) (v := ?_) (a' := ?_) #[true, true, true, true, true, true, true, true, true, true, true, true, false, false, false, false, false, false, false, false, false, false, false] rfl rfl (any_of HT_.out (by kernel_rfl)) (fun _ _ _ h => h) (Or.inl ⟨by rfl, ?_⟩) ?_ ?_
                                      rotate_left
                                      · intro w'
                                        go_simp
                                        with_reducible rfl
                                      rotate_left
                                      · simp only [Act.put, List.setIfInBounds_toArray, List.set_cons_zero, List.set_cons_succ, i64_w, i32_w]
                                        rfl
                                      refine pure_ (i := 12) (N := some 78) (v := ?_) (a' := ?_) #[true, true, true, true, true, true, true, true, true, true, true, true, true, false, false, false, false, false, false, false, false, false, false] rfl rfl (any_of HT_.out (by kernel_rfl)) (fun _ _ _ h => h) (Or.inl ⟨by rfl, ?_⟩) ?_ ?_
                                      rotate_left
                                      · intro w'
                                        go_simp
                                        with_reducible rfl
                                      rotate_left
                                      · simp only [Act.put, List.setIfInBounds_toArray, List.set_cons_zero, List.set_cons_succ, i64_w, i32_w]
                                        rfl
                                      refine pure_ (i := 13) (N := some 79) (v := ?_) (a' := ?_) #[true, true, true, true, true, true, true, true, true, true, true, true, true, true, false, false, false, false, false, false, false, false, false] rfl rfl (any_of HT_.out (by kernel_rfl)) (fun _ _ _ h => h) (Or.inl ⟨by rfl, ?_⟩) ?_ ?_
                                      rotate_left
                                      · intro w'
                                        go_simp
                                        with_reducible rfl
                                      rotate_left
                                      · simp only [Act.put, List.setIfInBounds_toArray, List.set_cons_zero, List.set_cons_succ, i64_w, i32_w]
                                        rfl
                                      refine pure_ (i := 14) (N := some 80) (v := ?_) (a' := ?_) #[true, true, true, true, true, true, true, true, true, true, true, true, true, true, true, false, false, false, false, false, false, false, false] rfl rfl (any_of HT_.out (by kernel_rfl)) (fun _ _ _ h => h) (Or.inl ⟨by rfl, ?_⟩) ?_ ?_
                                      rotate_left
                                      · intro w'
                                        go_simp
                                        with_reducible rfl
                                      rotate_left
                                      · simp only [Act.put, List.setIfInBounds_toArray, List.set_cons_zero, List.set_cons_succ, i64_w, i32_w]
                                        rfl
                                      refine pure_ (i := 16) (N := some 82) (v := ?_) (a' := ?_) #[true, true, true, true, true, true, true, true, true, true, true, true, true, true, true, false, true, false, false, false, false, false, false] rfl rfl (any_of HT_.out (by kernel_rfl)) (fun _ _ _ h => h) (Or.inl ⟨by rfl, ?_⟩) ?_ ?_
                                      rotate_left
                                      · intro w'
                                        go_simp
                                        with_reducible rfl
                                      rotate_left
                                      · simp only [Act.put, List.setIfInBounds_toArray, List.set_cons_zero, List.set_cons_succ, i64_w, i32_w]
                                        rfl
                                      refine pure_ (i := 17) (N := some 83) (v := ?_) (a' := ?_) #[true, true, true, true, true, true, true, true, true, true, true, true, true, true, true, false, true, true, false, false, false, false, false] rfl rfl (any_of HT_.out (by kernel_rfl)) (fun _ _ _ h => h) (Or.inl ⟨by rfl, ?_⟩) ?_ ?_
                                      rotate_left
                                      · intro w'
                                        go_simp
                                        with_reducible rfl
                                      rotate_left
                                      · simp only [Act.put, List.setIfInBounds_toArray, List.set_cons_zero, List.set_cons_succ, i64_w, i32_w]
                                        rfl
                                      refine pure_ (i := 18) (N := some 84) (v := ?_) (a' := ?_) #[true, true, true, true, true, true, true, true, true, true, true, true, true, true, true, false, true, true, true, false, false, false, false] rfl rfl (any_of HT_.out (by kernel_rfl)) (fun _ _ _ h => h) (Or.inl ⟨by rfl, ?_⟩) ?_ ?_
                                      rotate_left
                                      · intro w'
                                        go_simp
                                        with_reducible rfl
                                      rotate_left
                                      · simp only [Act.put, List.setIfInBounds_toArray, List.set_cons_zero, List.set_cons_succ, i64_w, i32_w]
                                        rfl
                                      refine take_ (i := 15) (N := some 81) (v := ?_) (a' := ?_) #[true, true, true, true, true, true, true, true, true, true, true, true, true, true, true, true, true, true, true, false, false, false, false] rfl rfl (take_ofW HT_.out HW_.out (by kernel_rfl)) (fun _ _ _ h => h) (Or.inl ⟨by rfl, ?_⟩) hHeld ?_ ?_
                                      rotate_left
                                      · rintro w' ⟨s0, s1, s2⟩
                                        go_simp
                                        with_reducible rfl
                                      rotate_left
                                      · simp only [Act.put, List.setIfInBounds_toArray, List.set_cons_zero, List.set_cons_succ, i64_w, i32_w]
                                        rfl
                                      refine take_ (i := 19) (N := some 85) (v := ?_) (a' := ?_) #[true, true, true, true, true, true, true, true, true, true, true, true, true, true, true, true, true, true, true, true, false, false, false] rfl rfl (take_ofW HT_.out HW_.out (by kernel_rfl)) (fun _ _ _ h => h) (Or.inl ⟨by rfl, ?_⟩) hHeld ?_ ?_
                                      rotate_left
                                      · rintro w' ⟨s0, s1, s2⟩
                                        go_simp
                                        with_reducible rfl
                                      rotate_left
                                      · simp only [Act.put, List.setIfInBounds_toArray, List.set_cons_zero, List.set_cons_succ, i64_w, i32_w]
                                        rfl
                                      refine pure_ (i := 20) (N := some 86) (v := ?_) (a' := ?_) #[true, true, true, true, true, true, true, true, true, true, true, true, true, true, true, true, true, true, true, true, true, false, false] rfl rfl (any_of HT_.out (by kernel_rfl)) (fun _ _ _ h => h) (Or.inl ⟨by rfl, ?_⟩) ?_ ?_
                                      rotate_left
                                      · intro w'
                                        go_simp
                                        with_reducible rfl
                                      rotate_left
                                      · simp only [Act.put, List.setIfInBounds_toArray, List.set_cons_zero, List.set_cons_succ, i64_w, i32_w]
                                        rfl
                                      refine pure_ (i := 21) (N := some 87) (v := ?_) (a' := ?_) #[true, true, true, true, true, true, true, true, true, true, true, true, true, true, true, true, true, true, true, true, true, true, false] rfl rfl (any_of HT_.out (by kernel_rfl)) (fun _ _ _ h => h) (Or.inl ⟨by rfl, ?_⟩) ?_ ?_
                                      rotate_left
                                      · intro w'
                                        go_simp
                                        with_reducible rfl
                                      rotate_left
                                      · simp only [Act.put, List.setIfInBounds_toArray, List.set_cons_zero, List.set_cons_succ, i64_w, i32_w]
                                        rfl
                                      refine pure_ (i := 22) (N := some 88) (v := ?_) (a' := ?_) #[true, true, true, true, true, true, true, true, true, true, true, true, true, true, true, true, true, true, true, true, true, true, true] rfl rfl (any_of HT_.out (by kernel_rfl)) (fun _ _ _ h => h) (Or.inl ⟨by rfl, ?_⟩) ?_ ?_
                                      rotate_left
                                      · intro w'
                                        go_simp
                                        with_reducible rfl
                                      rotate_left
                                      · simp only [Act.put, List.setIfInBounds_toArray, List.set_cons_zero, List.set_cons_succ, i64_w, i32_w]
                                        rfl
                                      refine done_ (done_of HT_.out (by kernel_rfl)) ?_
                                      try go_wp2
                                      go_meet
                                      case rel => exact ⟨_, (decide ((rd t635 (ji50)) ≥ (rd t635 x14_4))), (by first | rfl | (simp; done) | (simp only [← hji50] <;> (first | rfl | simp)) | (simp [*]; done)), H', ⟨by have := HK1.out; have := HJ16.out; have := HJ33.out; have := HK4.out; first | omega | exact Nat.le_refl _⟩, ⟨by (with_reducible repeat (first | apply Kd.R_alloc | apply Kd.R_drewN | apply Kd.R_drew)); exact HO_8.out⟩, ⟨by (with_reducible repeat (first | apply Kd.R_alloc | apply Kd.R_drewN | apply Kd.R_drew)); exact HO_13.out⟩, ⟨by (with_reducible repeat (first | apply Kd.R_alloc | apply Kd.R_drewN | apply Kd.R_drew)); exact HO_619000.out⟩, ⟨by (with_reducible repeat (first | apply Kd.V_alloc | apply Kd.V_drewN | apply Kd.V_drew)); exact HO_619001.out⟩, ⟨by (with_reducible repeat (first | apply Kd.R_alloc | apply Kd.R_drewN | apply Kd.R_drew)); exact HO_631000.out⟩, ⟨by (with_reducible repeat (first | apply Kd.V_alloc | apply Kd.V_drewN | apply Kd.V_drew)); exact HO_631001.out⟩, ⟨by (with_reducible repeat (first | refine blk_drewN ?_ _ | refine blk_drew ?_ | refine blk_alloc ?_ _)); exact BK618.out⟩, ⟨by (with_reducible repeat (first | refine blk_drewN ?_ _ | refine blk_drew ?_ | refine blk_alloc ?_ _)); exact BK630.out⟩, ⟨by repeat (first | (with_reducible first | exact HB.out | apply below_alloc | apply pw_below_drewN | apply below_drew1 | refine below_set ?_ GE618.out | refine below_set ?_ GE630.out) | exact HB.out)⟩⟩
                                    · rw [if_neg c52] at H
                                      exact absurd H (by simp)
                                  · rw [if_neg c51] at H
                                    exact absurd H (by simp)
                                · rw [if_neg c49] at H
                                  have c49b0 : decide (0 < x14_4) = false := decide_eq_false c49
                                  clear c49
                                  have H' := Aside0.mk H
                                  clear H
                                  try go_wp2
                                  have n0_ := Aside0.mk (Kd.R_drew HO_8.out)
                                  have n1_ := Aside0.mk (Kd.R_drew HO_13.out)
                                  have n2_ := Aside0.mk (Kd.R_drew HO_619000.out)
                                  have n3_ := Aside0.mk (Kd.V_drew HO_619001.out)
                                  have n4_ := Aside0.mk (Kd.R_drew HO_631000.out)
                                  have n5_ := Aside0.mk (Kd.V_drew HO_631001.out)
                                  have n6_ := Aside0.mk (blk_drew BK618.out)
                                  have n7_ := Aside0.mk (blk_drew BK630.out)
                                  have n8_ := Aside0.mk (below_drew1 HB.out)
                                  clear HO_8
                                  clear HO_13
                                  clear HO_619000
                                  clear HO_619001
                                  clear HO_631000
                                  clear HO_631001
                                  clear BK618
                                  clear BK630
                                  clear HB
                                  have HO_8 := n0_
                                  have HO_13 := n1_
                                  have HO_619000 := n2_
                                  have HO_619001 := n3_
                                  have HO_631000 := n4_
                                  have HO_631001 := n5_
                                  have BK618 := n6_
                                  have BK630 := n7_
                                  have HB := n8_
                                  clear n0_ n1_ n2_ n3_ n4_ n5_ n6_ n7_ n8_
                                  have p638 : 0 ≤ (x14_4 : Int) := of_decide_eq_true (by first | (with_reducible assumption) | assumption)
                                  have q638 : x14_4 < (t635.length : Int) := of_decide_eq_true (by first | (with_reducible assumption) | assumption)
                                  obtain ⟨ad638, e638, hx638_0⟩ := Kd.at_int (Kd.R_reads' HO_13.out).2.2 x14_4 p638 q638
                                  cases e638
                                  replace p638 := eq_true p638
                                  replace q638 := eq_true q638
                                  obtain ⟨Ao56, co56, eo56⟩ := Kd.R_slice HO_8.out
                                  (first | subst eo56 | (injection eo56 with f1_ f2_ f3_; have f4_ := f1_.symm; have f5_ := f3_.symm; clear f1_ f2_ f3_; subst f4_; subst f5_))
                                  refine start_ (n := 23) (S := fun w' => w'.cell? (ad638.add (x14_4).toNat) = some (.int .i64 (rd t635 x14_4))) (ds := []) #[false, false, false, false, false, false, false, false, false, false, false, false, false, false, false, false, false, false, false, false, false, false, false] (by kernel_rfl) rfl rfl (hx638_0) (fun hHeld => ?_); refine with_tabW cordwoodlaw21_SnapsOnce.tab21 cordwoodlaw21_SnapsOnce.bits21 (fun HT_ HW_ => ?_)
                                  generalize wr.drew = w55 at HO_8 HO_13 HO_619000 HO_619001 HO_631000 HO_631001 BK618 BK630 HB hx638_0 hHeld ⊢
                                  refine pure_ (i := 0) (N := some 66) (v := ?_) (a' := ?_) #[true, false, false, false, false, false, false, false, false, false, false, false, false, false, false, false, false, false, false, false, false, false, false] rfl rfl (any_of HT_.out (by kernel_rfl)) (fun _ _ _ h => h) (Or.inl ⟨by rfl, ?_⟩) ?_ ?_
                                  rotate_left
                                  · intro w'
                                    go_simp
                                    with_reducible rfl
                                  rotate_left
                                  · simp only [Act.put, List.setIfInBounds_toArray, List.set_cons_zero, List.set_cons_succ, i64_w, i32_w]
                                    rfl
                                  refine pure_ (i := 1) (N := some 67) (v := ?_) (a' := ?_) #[true, true, false, false, false, false, false, false, false, false, false, false, false, false, false, false, false, false, false, false, false, false, false] rfl rfl (any_of HT_.out (by kernel_rfl)) (fun _ _ _ h => h) (Or.inl ⟨by rfl, ?_⟩) ?_ ?_
                                  rotate_left
                                  · intro w'
                                    go_simp
                                    with_reducible rfl
                                  rotate_left
                                  · simp only [Act.put, List.setIfInBounds_toArray, List.set_cons_zero, List.set_cons_succ, i64_w, i32_w]
                                    rfl
                                  refine pure_ (i := 2) (N := some 68) (v := ?_) (a' := ?_) #[true, true, true, false, false, false, false, false, false, false, false, false, false, false, false, false, false, false, false, false, false, false, false] rfl rfl (any_of HT_.out (by kernel_rfl)) (fun _ _ _ h => h) (Or.inl ⟨by rfl, ?_⟩) ?_ ?_
                                  rotate_left
                                  · intro w'
                                    go_simp
                                    with_reducible rfl
                                  rotate_left
                                  · simp only [Act.put, List.setIfInBounds_toArray, List.set_cons_zero, List.set_cons_succ, i64_w, i32_w]
                                    rfl
                                  refine pure_ (i := 3) (N := some 69) (v := ?_) (a' := ?_) #[true, true, true, true, false, false, false, false, false, false, false, false, false, false, false, false, false, false, false, false, false, false, false] rfl rfl (any_of HT_.out (by kernel_rfl)) (fun _ _ _ h => h) (Or.inl ⟨by rfl, ?_⟩) ?_ ?_
                                  rotate_left
                                  · intro w'
                                    go_simp
                                    with_reducible rfl
                                  rotate_left
                                  · simp only [Act.put, List.setIfInBounds_toArray, List.set_cons_zero, List.set_cons_succ, i64_w, i32_w]
                                    rfl
                                  refine take_ (i := 4) (N := some 70) (v := ?_) (a' := ?_) #[true, true, true, true, true, false, false, false, false, false, false, false, false, false, false, false, false, false, false, false, false, false, false] rfl rfl (take_ofW HT_.out HW_.out (by kernel_rfl)) (fun _ _ _ h => h) (Or.inl ⟨by rfl, ?_⟩) hHeld ?_ ?_
                                  rotate_left
                                  · intro w' s0
                                    go_simp
                                    with_reducible rfl
                                  rotate_left
                                  · simp only [Act.put, List.setIfInBounds_toArray, List.set_cons_zero, List.set_cons_succ, i64_w, i32_w]
                                    rfl
                                  refine one_ (i := 5) (N := some 71) #[true, true, true, true, true, true, false, false, false, false, false, false, false, false, false, false, false, false, false, false, false, false, false] rfl rfl (one_of HT_.out (by kernel_rfl)) (by decide) (fun K hK => ?_)
                                  refine goes_ Try.func24 (by kernel_rfl) rfl #[.slice Ao56 x8_33.length co56, .int .i64 (rd t635 x14_4)] (by rfl) rfl rfl (by (try simp only [List.map_toArray, List.map_cons, List.map_nil]); first | done | rfl | (simp only [List.length_drop, List.length_take]; rfl)) ?_
                                  with_reducible refine (cordwoodref08_Has.calls k4 _ _ x8_33 (rd t635 x14_4) true _ ?side1 ?side2 A47.out).mono ?_
                                  (case side1 => repeat (first | exact (Kd.R_reads' HO_8.out).2.2 | (with_reducible refine Kd.C_alloc ?_ _) | (with_reducible refine Kd.C_drewN ?_ _) | (with_reducible refine Kd.C_drew ?_)))
                                  (case side2 => exact (Kd.R_reads' HO_8.out).2.1)
                                  rintro e w' ⟨rfl, ⟨nd, rfl⟩⟩
                                  refine ⟨_, rfl, ?_⟩
                                  refine hK.out _ _ (hHeld) (fun hHeld => ?_)
                                  clear hK K
                                  refine norm_ (a' := ?_) ?_ ?_
                                  rotate_left
                                  · show Act.put _ (some 71) _ = _
                                    simp only [Act.put, List.setIfInBounds_toArray, List.set_cons_zero, List.set_cons_succ, i64_w, i32_w]
                                    rfl
                                  refine pure_ (i := 6) (N := some 72) (v := ?_) (a' := ?_) #[true, true, true, true, true, true, true, false, false, false, false, false, false, false, false, false, false, false, false, false, false, false, false] rfl rfl (any_of HT_.out (by kernel_rfl)) (fun _ _ _ h => h) (Or.inl ⟨by rfl, ?_⟩) ?_ ?_
                                  rotate_left
                                  · intro w'
                                    go_simp
                                    with_reducible rfl
                                  rotate_left
                                  · simp only [Act.put, List.setIfInBounds_toArray, List.set_cons_zero, List.set_cons_succ, i64_w, i32_w]
                                    rfl
                                  refine pure_ (i := 7) (N := some 73) (v := ?_) (a' := ?_) #[true, true, true, true, true, true, true, true, false, false, false, false, false, false, false, false, false, false, false, false, false, false, false] rfl rfl (any_of HT_.out (by kernel_rfl)) (fun _ _ _ h => h) (Or.inl ⟨by rfl, ?_⟩) ?_ ?_
                                  rotate_left
                                  · intro w'
                                    go_simp
                                    with_reducible rfl
                                  rotate_left
                                  · simp only [Act.put, List.setIfInBounds_toArray, List.set_cons_zero, List.set_cons_succ, i64_w, i32_w]
                                    rfl
                                  refine pure_ (i := 8) (N := some 74) (v := ?_) (a' := ?_) #[true, true, true, true, true, true, true, true, true, false, false, false, false, false, false, false, false, false, false, false, false, false, false] rfl rfl (any_of HT_.out (by kernel_rfl)) (fun _ _ _ h => h) (Or.inl ⟨by rfl, ?_⟩) ?_ ?_
                                  rotate_left
                                  · intro w'
                                    go_simp
                                    with_reducible rfl
                                  rotate_left
                                  · simp only [Act.put, List.setIfInBounds_toArray, List.set_cons_zero, List.set_cons_succ, i64_w, i32_w]
                                    rfl
                                  refine pure_ (i := 9) (N := some 75) (v := ?_) (a' := ?_) #[true, true, true, true, true, true, true, true, true, true, false, false, false, false, false, false, false, false, false, false, false, false, false] rfl rfl (any_of HT_.out (by kernel_rfl)) (fun _ _ _ h => h) (Or.inl ⟨by rfl, ?_⟩) ?_ ?_
                                  rotate_left
                                  · intro w'
                                    go_simp
                                    with_reducible rfl
                                  rotate_left
                                  · simp only [Act.put, List.setIfInBounds_toArray, List.set_cons_zero, List.set_cons_succ, i64_w, i32_w]
                                    rfl
                                  refine pure_ (i := 10) (N := some 76) (v := ?_) (a' := ?_) #[true, true, true, true, true, true, true, true, true, true, true, false, false, false, false, false, false, false, false, false, false, false, false] rfl rfl (any_of HT_.out (by kernel_rfl)) (fun _ _ _ h => h) (Or.inl ⟨by rfl, ?_⟩) ?_ ?_
                                  rotate_left
                                  · intro w'
                                    go_simp
                                    with_reducible rfl
                                  rotate_left
                                  · simp only [Act.put, List.setIfInBounds_toArray, List.set_cons_zero, List.set_cons_succ, i64_w, i32_w]
                                    rfl
                                  refine pure_ (i := 11) (N := some 77) (v := undef) (a' := ?_) #[true, true, true, true, true, true, true, true, true, true, true, true, false, false, false, false, false, false, false, false, false, false, false] rfl rfl (any_of HT_.out (by kernel_rfl)) (fun _ _ _ h => h) (Or.inr ⟨by rfl, rfl⟩) ?_ ?_
                                  rotate_left
                                  · simp only [Act.put, List.setIfInBounds_toArray, List.set_cons_zero, List.set_cons_succ, i64_w, i32_w]
                                    rfl
                                  refine pure_ (i := 12) (N := some 78) (v := undef) (a' := ?_) #[true, true, true, true, true, true, true, true, true, true, true, true, true, false, false, false, false, false, false, false, false, false, false] rfl rfl (any_of HT_.out (by kernel_rfl)) (fun _ _ _ h => h) (Or.inr ⟨by rfl, rfl⟩) ?_ ?_
                                  rotate_left
                                  · simp only [Act.put, List.setIfInBounds_toArray, List.set_cons_zero, List.set_cons_succ, i64_w, i32_w]
                                    rfl
                                  refine pure_ (i := 13) (N := some 79) (v := undef) (a' := ?_) #[true, true, true, true, true, true, true, true, true, true, true, true, true, true, false, false, false, false, false, false, false, false, false] rfl rfl (any_of HT_.out (by kernel_rfl)) (fun _ _ _ h => h) (Or.inr ⟨by rfl, rfl⟩) ?_ ?_
                                  rotate_left
                                  · simp only [Act.put, List.setIfInBounds_toArray, List.set_cons_zero, List.set_cons_succ, i64_w, i32_w]
                                    rfl
                                  refine pure_ (i := 14) (N := some 80) (v := undef) (a' := ?_) #[true, true, true, true, true, true, true, true, true, true, true, true, true, true, true, false, false, false, false, false, false, false, false] rfl rfl (any_of HT_.out (by kernel_rfl)) (fun _ _ _ h => h) (Or.inr ⟨by rfl, rfl⟩) ?_ ?_
                                  rotate_left
                                  · simp only [Act.put, List.setIfInBounds_toArray, List.set_cons_zero, List.set_cons_succ, i64_w, i32_w]
                                    rfl
                                  refine pure_ (i := 15) (N := some 81) (v := undef) (a' := ?_) #[true, true, true, true, true, true, true, true, true, true, true, true, true, true, true, true, false, false, false, false, false, false, false] rfl rfl (any_of HT_.out (by kernel_rfl)) (fun _ _ _ h => h) (Or.inr ⟨by rfl, rfl⟩) ?_ ?_
                                  rotate_left
                                  · simp only [Act.put, List.setIfInBounds_toArray, List.set_cons_zero, List.set_cons_succ, i64_w, i32_w]
                                    rfl
                                  refine pure_ (i := 16) (N := some 82) (v := undef) (a' := ?_) #[true, true, true, true, true, true, true, true, true, true, true, true, true, true, true, true, true, false, false, false, false, false, false] rfl rfl (any_of HT_.out (by kernel_rfl)) (fun _ _ _ h => h) (Or.inr ⟨by rfl, rfl⟩) ?_ ?_
                                  rotate_left
                                  · simp only [Act.put, List.setIfInBounds_toArray, List.set_cons_zero, List.set_cons_succ, i64_w, i32_w]
                                    rfl
                                  refine pure_ (i := 17) (N := some 83) (v := undef) (a' := ?_) #[true, true, true, true, true, true, true, true, true, true, true, true, true, true, true, true, true, true, false, false, false, false, false] rfl rfl (any_of HT_.out (by kernel_rfl)) (fun _ _ _ h => h) (Or.inr ⟨by rfl, rfl⟩) ?_ ?_
                                  rotate_left
                                  · simp only [Act.put, List.setIfInBounds_toArray, List.set_cons_zero, List.set_cons_succ, i64_w, i32_w]
                                    rfl
                                  refine pure_ (i := 18) (N := some 84) (v := undef) (a' := ?_) #[true, true, true, true, true, true, true, true, true, true, true, true, true, true, true, true, true, true, true, false, false, false, false] rfl rfl (any_of HT_.out (by kernel_rfl)) (fun _ _ _ h => h) (Or.inr ⟨by rfl, rfl⟩) ?_ ?_
                                  rotate_left
                                  · simp only [Act.put, List.setIfInBounds_toArray, List.set_cons_zero, List.set_cons_succ, i64_w, i32_w]
                                    rfl
                                  refine pure_ (i := 19) (N := some 85) (v := undef) (a' := ?_) #[true, true, true, true, true, true, true, true, true, true, true, true, true, true, true, true, true, true, true, true, false, false, false] rfl rfl (any_of HT_.out (by kernel_rfl)) (fun _ _ _ h => h) (Or.inr ⟨by rfl, rfl⟩) ?_ ?_
                                  rotate_left
                                  · simp only [Act.put, List.setIfInBounds_toArray, List.set_cons_zero, List.set_cons_succ, i64_w, i32_w]
                                    rfl
                                  refine pure_ (i := 20) (N := some 86) (v := undef) (a' := ?_) #[true, true, true, true, true, true, true, true, true, true, true, true, true, true, true, true, true, true, true, true, true, false, false] rfl rfl (any_of HT_.out (by kernel_rfl)) (fun _ _ _ h => h) (Or.inr ⟨by rfl, rfl⟩) ?_ ?_
                                  rotate_left
                                  · simp only [Act.put, List.setIfInBounds_toArray, List.set_cons_zero, List.set_cons_succ, i64_w, i32_w]
                                    rfl
                                  refine pure_ (i := 21) (N := some 87) (v := ?_) (a' := ?_) #[true, true, true, true, true, true, true, true, true, true, true, true, true, true, true, true, true, true, true, true, true, true, false] rfl rfl (any_of HT_.out (by kernel_rfl)) (fun _ _ _ h => h) (Or.inl ⟨by rfl, ?_⟩) ?_ ?_
                                  rotate_left
                                  · intro w'
                                    go_simp
                                    with_reducible rfl
                                  rotate_left
                                  · simp only [Act.put, List.setIfInBounds_toArray, List.set_cons_zero, List.set_cons_succ, i64_w, i32_w]
                                    rfl
                                  refine pure_ (i := 22) (N := some 88) (v := ?_) (a' := ?_) #[true, true, true, true, true, true, true, true, true, true, true, true, true, true, true, true, true, true, true, true, true, true, true] rfl rfl (any_of HT_.out (by kernel_rfl)) (fun _ _ _ h => h) (Or.inl ⟨by rfl, ?_⟩) ?_ ?_
                                  rotate_left
                                  · intro w'
                                    go_simp
                                    with_reducible rfl
                                  rotate_left
                                  · simp only [Act.put, List.setIfInBounds_toArray, List.set_cons_zero, List.set_cons_succ, i64_w, i32_w]
                                    rfl
                                  refine done_ (done_of HT_.out (by kernel_rfl)) ?_
                                  try go_wp2
                                  go_meet
                                  case rel => exact ⟨_, (false), (by first | rfl | (simp; done) | (simp [*]; done)), H', ⟨by have := HK1.out; have := HJ16.out; have := HJ33.out; have := HK4.out; first | omega | exact Nat.le_refl _⟩, ⟨by (with_reducible repeat (first | apply Kd.R_alloc | apply Kd.R_drewN | apply Kd.R_drew)); exact HO_8.out⟩, ⟨by (with_reducible repeat (first | apply Kd.R_alloc | apply Kd.R_drewN | apply Kd.R_drew)); exact HO_13.out⟩, ⟨by (with_reducible repeat (first | apply Kd.R_alloc | apply Kd.R_drewN | apply Kd.R_drew)); exact HO_619000.out⟩, ⟨by (with_reducible repeat (first | apply Kd.V_alloc | apply Kd.V_drewN | apply Kd.V_drew)); exact HO_619001.out⟩, ⟨by (with_reducible repeat (first | apply Kd.R_alloc | apply Kd.R_drewN | apply Kd.R_drew)); exact HO_631000.out⟩, ⟨by (with_reducible repeat (first | apply Kd.V_alloc | apply Kd.V_drewN | apply Kd.V_drew)); exact HO_631001.out⟩, ⟨by (with_reducible repeat (first | refine blk_drewN ?_ _ | refine blk_drew ?_ | refine blk_alloc ?_ _)); exact BK618.out⟩, ⟨by (with_reducible repeat (first | refine blk_drewN ?_ _ | refine blk_drew ?_ | refine blk_alloc ?_ _)); exact BK630.out⟩, ⟨by repeat (first | (with_reducible first | exact HB.out | apply below_alloc | apply pw_below_drewN | apply below_drew1 | refine below_set ?_ GE618.out | refine below_set ?_ GE630.out) | exact HB.out)⟩⟩
                              · replace c48 := Bool.eq_false_iff.mpr c48
                                subst c48
                                have H1 : (cordwoodlaw21_SnapsOnce.j4 k4 a0 l1 t608 x7_33 x8_33 x9_1 t635 x14_4 true t620 t623 t626 t627) = some r := by rw [if_neg (show ¬ (false = true) by decide)] at H; exact H
                                clear H
                                have H := H1
                                clear H1
                                have H' := Aside0.mk H
                                clear H
                                try go_wp2
                                have n0_ := Aside0.mk (Kd.R_drew HO_8.out)
                                have n1_ := Aside0.mk (Kd.R_drew HO_13.out)
                                have n2_ := Aside0.mk (Kd.R_drew HO_619000.out)
                                have n3_ := Aside0.mk (Kd.V_drew HO_619001.out)
                                have n4_ := Aside0.mk (Kd.R_drew HO_631000.out)
                                have n5_ := Aside0.mk (Kd.V_drew HO_631001.out)
                                have n6_ := Aside0.mk (blk_drew BK618.out)
                                have n7_ := Aside0.mk (blk_drew BK630.out)
                                have n8_ := Aside0.mk (below_drew1 HB.out)
                                clear HO_8
                                clear HO_13
                                clear HO_619000
                                clear HO_619001
                                clear HO_631000
                                clear HO_631001
                                clear BK618
                                clear BK630
                                clear HB
                                have HO_8 := n0_
                                have HO_13 := n1_
                                have HO_619000 := n2_
                                have HO_619001 := n3_
                                have HO_631000 := n4_
                                have HO_631001 := n5_
                                have BK618 := n6_
                                have BK630 := n7_
                                have HB := n8_
                                clear n0_ n1_ n2_ n3_ n4_ n5_ n6_ n7_ n8_
                                have p638 : 0 ≤ (x14_4 : Int) := of_decide_eq_true (by first | (with_reducible assumption) | assumption)
                                have q638 : x14_4 < (t635.length : Int) := of_decide_eq_true (by first | (with_reducible assumption) | assumption)
                                obtain ⟨ad638, e638, hx638_0⟩ := Kd.at_int (Kd.R_reads' HO_13.out).2.2 x14_4 p638 q638
                                cases e638
                                replace p638 := eq_true p638
                                replace q638 := eq_true q638
                                obtain ⟨Ao58, co58, eo58⟩ := Kd.R_slice HO_8.out
                                (first | subst eo58 | (injection eo58 with f1_ f2_ f3_; have f4_ := f1_.symm; have f5_ := f3_.symm; clear f1_ f2_ f3_; subst f4_; subst f5_))
                                refine start_ (n := 23) (S := fun w' => w'.cell? (ad638.add (x14_4).toNat) = some (.int .i64 (rd t635 x14_4))) (ds := []) #[false, false, false, false, false, false, false, false, false, false, false, false, false, false, false, false, false, false, false, false, false, false, false] (by kernel_rfl) rfl rfl (hx638_0) (fun hHeld => ?_); refine with_tabW cordwoodlaw21_SnapsOnce.tab21 cordwoodlaw21_SnapsOnce.bits21 (fun HT_ HW_ => ?_)
                                generalize wr.drew = w57 at HO_8 HO_13 HO_619000 HO_619001 HO_631000 HO_631001 BK618 BK630 HB hx638_0 hHeld ⊢
                                refine pure_ (i := 0) (N := some 66) (v := ?_) (a' := ?_) #[true, false, false, false, false, false, false, false, false, false, false, false, false, false, false, false, false, false, false, false, false, false, false] rfl rfl (any_of HT_.out (by kernel_rfl)) (fun _ _ _ h => h) (Or.inl ⟨by rfl, ?_⟩) ?_ ?_
                                rotate_left
                                · intro w'
                                  go_simp
                                  with_reducible rfl
                                rotate_left
                                · simp only [Act.put, List.setIfInBounds_toArray, List.set_cons_zero, List.set_cons_succ, i64_w, i32_w]
                                  rfl
                                refine pure_ (i := 1) (N := some 67) (v := ?_) (a' := ?_) #[true, true, false, false, false, false, false, false, false, false, false, false, false, false, false, false, false, false, false, false, false, false, false] rfl rfl (any_of HT_.out (by kernel_rfl)) (fun _ _ _ h => h) (Or.inl ⟨by rfl, ?_⟩) ?_ ?_
                                rotate_left
                                · intro w'
                                  go_simp
                                  with_reducible rfl
                                rotate_left
                                · simp only [Act.put, List.setIfInBounds_toArray, List.set_cons_zero, List.set_cons_succ, i64_w, i32_w]
                                  rfl
                                refine pure_ (i := 2) (N := some 68) (v := ?_) (a' := ?_) #[true, true, true, false, false, false, false, false, false, false, false, false, false, false, false, false, false, false, false, false, false, false, false] rfl rfl (any_of HT_.out (by kernel_rfl)) (fun _ _ _ h => h) (Or.inl ⟨by rfl, ?_⟩) ?_ ?_
                                rotate_left
                                · intro w'
                                  go_simp
                                  with_reducible rfl
                                rotate_left
                                · simp only [Act.put, List.setIfInBounds_toArray, List.set_cons_zero, List.set_cons_succ, i64_w, i32_w]
                                  rfl
                                refine pure_ (i := 3) (N := some 69) (v := ?_) (a' := ?_) #[true, true, true, true, false, false, false, false, false, false, false, false, false, false, false, false, false, false, false, false, false, false, false] rfl rfl (any_of HT_.out (by kernel_rfl)) (fun _ _ _ h => h) (Or.inl ⟨by rfl, ?_⟩) ?_ ?_
                                rotate_left
                                · intro w'
                                  go_simp
                                  with_reducible rfl
                                rotate_left
                                · simp only [Act.put, List.setIfInBounds_toArray, List.set_cons_zero, List.set_cons_succ, i64_w, i32_w]
                                  rfl
                                refine take_ (i := 4) (N := some 70) (v := ?_) (a' := ?_) #[true, true, true, true, true, false, false, false, false, false, false, false, false, false, false, false, false, false, false, false, false, false, false] rfl rfl (take_ofW HT_.out HW_.out (by kernel_rfl)) (fun _ _ _ h => h) (Or.inl ⟨by rfl, ?_⟩) hHeld ?_ ?_
                                rotate_left
                                · intro w' s0
                                  go_simp
                                  with_reducible rfl
                                rotate_left
                                · simp only [Act.put, List.setIfInBounds_toArray, List.set_cons_zero, List.set_cons_succ, i64_w, i32_w]
                                  rfl
                                refine one_ (i := 5) (N := some 71) #[true, true, true, true, true, true, false, false, false, false, false, false, false, false, false, false, false, false, false, false, false, false, false] rfl rfl (one_of HT_.out (by kernel_rfl)) (by decide) (fun K hK => ?_)
                                refine goes_ Try.func24 (by kernel_rfl) rfl #[.slice Ao58 x8_33.length co58, .int .i64 (rd t635 x14_4)] (by rfl) rfl rfl (by (try simp only [List.map_toArray, List.map_cons, List.map_nil]); first | done | rfl | (simp only [List.length_drop, List.length_take]; rfl)) ?_
                                with_reducible refine (cordwoodref08_Has.calls k4 _ _ x8_33 (rd t635 x14_4) false _ ?side1 ?side2 A47.out).mono ?_
                                (case side1 => repeat (first | exact (Kd.R_reads' HO_8.out).2.2 | (with_reducible refine Kd.C_alloc ?_ _) | (with_reducible refine Kd.C_drewN ?_ _) | (with_reducible refine Kd.C_drew ?_)))
                                (case side2 => exact (Kd.R_reads' HO_8.out).2.1)
                                rintro e w' ⟨rfl, ⟨nd, rfl⟩⟩
                                refine ⟨_, rfl, ?_⟩
                                refine hK.out _ _ (hHeld) (fun hHeld => ?_)
                                clear hK K
                                refine norm_ (a' := ?_) ?_ ?_
                                rotate_left
                                · show Act.put _ (some 71) _ = _
                                  simp only [Act.put, List.setIfInBounds_toArray, List.set_cons_zero, List.set_cons_succ, i64_w, i32_w]
                                  rfl
                                refine pure_ (i := 6) (N := some 72) (v := ?_) (a' := ?_) #[true, true, true, true, true, true, true, false, false, false, false, false, false, false, false, false, false, false, false, false, false, false, false] rfl rfl (any_of HT_.out (by kernel_rfl)) (fun _ _ _ h => h) (Or.inl ⟨by rfl, ?_⟩) ?_ ?_
                                rotate_left
                                · intro w'
                                  go_simp
                                  with_reducible rfl
                                rotate_left
                                · simp only [Act.put, List.setIfInBounds_toArray, List.set_cons_zero, List.set_cons_succ, i64_w, i32_w]
                                  rfl
                                refine pure_ (i := 7) (N := some 73) (v := ?_) (a' := ?_) #[true, true, true, true, true, true, true, true, false, false, false, false, false, false, false, false, false, false, false, false, false, false, false] rfl rfl (any_of HT_.out (by kernel_rfl)) (fun _ _ _ h => h) (Or.inl ⟨by rfl, ?_⟩) ?_ ?_
                                rotate_left
                                · intro w'
                                  go_simp
                                  with_reducible rfl
                                rotate_left
                                · simp only [Act.put, List.setIfInBounds_toArray, List.set_cons_zero, List.set_cons_succ, i64_w, i32_w]
                                  rfl
                                refine pure_ (i := 8) (N := some 74) (v := undef) (a' := ?_) #[true, true, true, true, true, true, true, true, true, false, false, false, false, false, false, false, false, false, false, false, false, false, false] rfl rfl (any_of HT_.out (by kernel_rfl)) (fun _ _ _ h => h) (Or.inr ⟨by rfl, rfl⟩) ?_ ?_
                                rotate_left
                                · simp only [Act.put, List.setIfInBounds_toArray, List.set_cons_zero, List.set_cons_succ, i64_w, i32_w]
                                  rfl
                                refine pure_ (i := 9) (N := some 75) (v := undef) (a' := ?_) #[true, true, true, true, true, true, true, true, true, true, false, false, false, false, false, false, false, false, false, false, false, false, false] rfl rfl (any_of HT_.out (by kernel_rfl)) (fun _ _ _ h => h) (Or.inr ⟨by rfl, rfl⟩) ?_ ?_
                                rotate_left
                                · simp only [Act.put, List.setIfInBounds_toArray, List.set_cons_zero, List.set_cons_succ, i64_w, i32_w]
                                  rfl
                                refine pure_ (i := 10) (N := some 76) (v := undef) (a' := ?_) #[true, true, true, true, true, true, true, true, true, true, true, false, false, false, false, false, false, false, false, false, false, false, false] rfl rfl (any_of HT_.out (by kernel_rfl)) (fun _ _ _ h => h) (Or.inr ⟨by rfl, rfl⟩) ?_ ?_
                                rotate_left
                                · simp only [Act.put, List.setIfInBounds_toArray, List.set_cons_zero, List.set_cons_succ, i64_w, i32_w]
                                  rfl
                                refine pure_ (i := 11) (N := some 77) (v := undef) (a' := ?_) #[true, true, true, true, true, true, true, true, true, true, true, true, false, false, false, false, false, false, false, false, false, false, false] rfl rfl (any_of HT_.out (by kernel_rfl)) (fun _ _ _ h => h) (Or.inr ⟨by rfl, rfl⟩) ?_ ?_
                                rotate_left
                                · simp only [Act.put, List.setIfInBounds_toArray, List.set_cons_zero, List.set_cons_succ, i64_w, i32_w]
                                  rfl
                                refine pure_ (i := 12) (N := some 78) (v := undef) (a' := ?_) #[true, true, true, true, true, true, true, true, true, true, true, true, true, false, false, false, false, false, false, false, false, false, false] rfl rfl (any_of HT_.out (by kernel_rfl)) (fun _ _ _ h => h) (Or.inr ⟨by rfl, rfl⟩) ?_ ?_
                                rotate_left
                                · simp only [Act.put, List.setIfInBounds_toArray, List.set_cons_zero, List.set_cons_succ, i64_w, i32_w]
                                  rfl
                                refine pure_ (i := 13) (N := some 79) (v := undef) (a' := ?_) #[true, true, true, true, true, true, true, true, true, true, true, true, true, true, false, false, false, false, false, false, false, false, false] rfl rfl (any_of HT_.out (by kernel_rfl)) (fun _ _ _ h => h) (Or.inr ⟨by rfl, rfl⟩) ?_ ?_
                                rotate_left
                                · simp only [Act.put, List.setIfInBounds_toArray, List.set_cons_zero, List.set_cons_succ, i64_w, i32_w]
                                  rfl
                                refine pure_ (i := 14) (N := some 80) (v := undef) (a' := ?_) #[true, true, true, true, true, true, true, true, true, true, true, true, true, true, true, false, false, false, false, false, false, false, false] rfl rfl (any_of HT_.out (by kernel_rfl)) (fun _ _ _ h => h) (Or.inr ⟨by rfl, rfl⟩) ?_ ?_
                                rotate_left
                                · simp only [Act.put, List.setIfInBounds_toArray, List.set_cons_zero, List.set_cons_succ, i64_w, i32_w]
                                  rfl
                                refine pure_ (i := 15) (N := some 81) (v := undef) (a' := ?_) #[true, true, true, true, true, true, true, true, true, true, true, true, true, true, true, true, false, false, false, false, false, false, false] rfl rfl (any_of HT_.out (by kernel_rfl)) (fun _ _ _ h => h) (Or.inr ⟨by rfl, rfl⟩) ?_ ?_
                                rotate_left
                                · simp only [Act.put, List.setIfInBounds_toArray, List.set_cons_zero, List.set_cons_succ, i64_w, i32_w]
                                  rfl
                                refine pure_ (i := 16) (N := some 82) (v := undef) (a' := ?_) #[true, true, true, true, true, true, true, true, true, true, true, true, true, true, true, true, true, false, false, false, false, false, false] rfl rfl (any_of HT_.out (by kernel_rfl)) (fun _ _ _ h => h) (Or.inr ⟨by rfl, rfl⟩) ?_ ?_
                                rotate_left
                                · simp only [Act.put, List.setIfInBounds_toArray, List.set_cons_zero, List.set_cons_succ, i64_w, i32_w]
                                  rfl
                                refine pure_ (i := 17) (N := some 83) (v := undef) (a' := ?_) #[true, true, true, true, true, true, true, true, true, true, true, true, true, true, true, true, true, true, false, false, false, false, false] rfl rfl (any_of HT_.out (by kernel_rfl)) (fun _ _ _ h => h) (Or.inr ⟨by rfl, rfl⟩) ?_ ?_
                                rotate_left
                                · simp only [Act.put, List.setIfInBounds_toArray, List.set_cons_zero, List.set_cons_succ, i64_w, i32_w]
                                  rfl
                                refine pure_ (i := 18) (N := some 84) (v := undef) (a' := ?_) #[true, true, true, true, true, true, true, true, true, true, true, true, true, true, true, true, true, true, true, false, false, false, false] rfl rfl (any_of HT_.out (by kernel_rfl)) (fun _ _ _ h => h) (Or.inr ⟨by rfl, rfl⟩) ?_ ?_
                                rotate_left
                                · simp only [Act.put, List.setIfInBounds_toArray, List.set_cons_zero, List.set_cons_succ, i64_w, i32_w]
                                  rfl
                                refine pure_ (i := 19) (N := some 85) (v := undef) (a' := ?_) #[true, true, true, true, true, true, true, true, true, true, true, true, true, true, true, true, true, true, true, true, false, false, false] rfl rfl (any_of HT_.out (by kernel_rfl)) (fun _ _ _ h => h) (Or.inr ⟨by rfl, rfl⟩) ?_ ?_
                                rotate_left
                                · simp only [Act.put, List.setIfInBounds_toArray, List.set_cons_zero, List.set_cons_succ, i64_w, i32_w]
                                  rfl
                                refine pure_ (i := 20) (N := some 86) (v := undef) (a' := ?_) #[true, true, true, true, true, true, true, true, true, true, true, true, true, true, true, true, true, true, true, true, true, false, false] rfl rfl (any_of HT_.out (by kernel_rfl)) (fun _ _ _ h => h) (Or.inr ⟨by rfl, rfl⟩) ?_ ?_
                                rotate_left
                                · simp only [Act.put, List.setIfInBounds_toArray, List.set_cons_zero, List.set_cons_succ, i64_w, i32_w]
                                  rfl
                                refine pure_ (i := 21) (N := some 87) (v := undef) (a' := ?_) #[true, true, true, true, true, true, true, true, true, true, true, true, true, true, true, true, true, true, true, true, true, true, false] rfl rfl (any_of HT_.out (by kernel_rfl)) (fun _ _ _ h => h) (Or.inr ⟨by rfl, rfl⟩) ?_ ?_
                                rotate_left
                                · simp only [Act.put, List.setIfInBounds_toArray, List.set_cons_zero, List.set_cons_succ, i64_w, i32_w]
                                  rfl
                                refine pure_ (i := 22) (N := some 88) (v := ?_) (a' := ?_) #[true, true, true, true, true, true, true, true, true, true, true, true, true, true, true, true, true, true, true, true, true, true, true] rfl rfl (any_of HT_.out (by kernel_rfl)) (fun _ _ _ h => h) (Or.inl ⟨by rfl, ?_⟩) ?_ ?_
                                rotate_left
                                · intro w'
                                  go_simp
                                  with_reducible rfl
                                rotate_left
                                · simp only [Act.put, List.setIfInBounds_toArray, List.set_cons_zero, List.set_cons_succ, i64_w, i32_w]
                                  rfl
                                refine done_ (done_of HT_.out (by kernel_rfl)) ?_
                                try go_wp2
                                go_meet
                                case rel => exact ⟨_, (true), (by first | rfl | (simp; done) | (simp [*]; done)), H', ⟨by have := HK1.out; have := HJ16.out; have := HJ33.out; have := HK4.out; first | omega | exact Nat.le_refl _⟩, ⟨by (with_reducible repeat (first | apply Kd.R_alloc | apply Kd.R_drewN | apply Kd.R_drew)); exact HO_8.out⟩, ⟨by (with_reducible repeat (first | apply Kd.R_alloc | apply Kd.R_drewN | apply Kd.R_drew)); exact HO_13.out⟩, ⟨by (with_reducible repeat (first | apply Kd.R_alloc | apply Kd.R_drewN | apply Kd.R_drew)); exact HO_619000.out⟩, ⟨by (with_reducible repeat (first | apply Kd.V_alloc | apply Kd.V_drewN | apply Kd.V_drew)); exact HO_619001.out⟩, ⟨by (with_reducible repeat (first | apply Kd.R_alloc | apply Kd.R_drewN | apply Kd.R_drew)); exact HO_631000.out⟩, ⟨by (with_reducible repeat (first | apply Kd.V_alloc | apply Kd.V_drewN | apply Kd.V_drew)); exact HO_631001.out⟩, ⟨by (with_reducible repeat (first | refine blk_drewN ?_ _ | refine blk_drew ?_ | refine blk_alloc ?_ _)); exact BK618.out⟩, ⟨by (with_reducible repeat (first | refine blk_drewN ?_ _ | refine blk_drew ?_ | refine blk_alloc ?_ _)); exact BK630.out⟩, ⟨by repeat (first | (with_reducible first | exact HB.out | apply below_alloc | apply pw_below_drewN | apply below_drew1 | refine below_set ?_ GE618.out | refine below_set ?_ GE630.out) | exact HB.out)⟩⟩
                            · rw [if_neg c46] at H
                              exact absurd H (by simp)
                          case rest =>
                            clear HC44
                            try clear c2
                            try clear p2
                            try clear c4
                            try clear c5
                            try clear p6
                            try clear q6
                            try clear hx6
                            try clear c24
                            try clear c46
                            try clear c48
                            try clear c49
                            try clear c49b0
                            try clear c51
                            try clear c52
                            try clear hx638_0
                            try clear hx640_0
                            try clear hx641_0
                            try clear p638
                            try clear p640
                            try clear p641
                            try clear q638
                            try clear q640
                            try clear q641
                            obtain ⟨kq, x88_43, rfl, HA, HJ43, HO_8, HO_13, HO_619000, HO_619001, HO_631000, HO_631001, BK618, BK630, HB⟩ := hcut
                            cases kq with
                            | zero => exact absurd HA.out (by simp [cordwoodlaw21_SnapsOnce.j4])
                            | succ kj43 =>
                              have H := HA.out
                              clear HA
                              simp only [cordwoodlaw21_SnapsOnce.j4] at H
                              by_cases c59 : x88_43 = true
                              · subst c59
                                have H1 : (some false) = some r := by rw [if_pos rfl] at H; exact H
                                clear H
                                have H := H1
                                clear H1
                                obtain rfl := Option.some.inj H
                                go_wp2
                                go_ret
                                exact ⟨by first | rfl | (simp [errW_none, errW_some] <;> rfl) | (simp [*, errW_none, errW_some] <;> rfl), by repeat (first | (with_reducible first | exact HB.out | apply below_alloc | apply pw_below_drewN | apply below_drew1 | refine below_set ?_ GE618.out | refine below_set ?_ GE630.out) | exact HB.out)⟩
                              · replace c59 := Bool.eq_false_iff.mpr c59
                                subst c59
                                have H1 : (cordwoodlaw21_SnapsOnce.l1 kj43 a0 l1 t608 x7_33 x8_33 x9_1 t635 (wrap64 (x14_4 + 1)) t620 t623 t626 t627) = some r := by rw [if_neg (show ¬ (false = true) by decide)] at H; exact H
                                clear H
                                have H := H1
                                clear H1
                                have H' := Aside0.mk H
                                clear H
                                go_wp2
                                go_roundg kj43
                                case measure => have := HK1.out; have := HJ16.out; have := HJ33.out; have := HK4.out; have := HJ43.out; omega
                                case rel => exact ⟨(wrap64 (x14_4 + 1)), (by first | rfl | (simp; done) | (simp [*]; done)), H', ⟨by have := HK1.out; have := HJ16.out; have := HJ33.out; have := HK4.out; have := HJ43.out; omega⟩, ⟨by (with_reducible repeat (first | apply Kd.R_alloc | apply Kd.R_drewN | apply Kd.R_drew)); exact HO_8.out⟩, ⟨by (with_reducible repeat (first | apply Kd.R_alloc | apply Kd.R_drewN | apply Kd.R_drew)); exact HO_13.out⟩, ⟨by (with_reducible repeat (first | apply Kd.R_alloc | apply Kd.R_drewN | apply Kd.R_drew)); exact HO_619000.out⟩, ⟨by (with_reducible repeat (first | apply Kd.V_alloc | apply Kd.V_drewN | apply Kd.V_drew)); exact HO_619001.out⟩, ⟨by (with_reducible repeat (first | apply Kd.R_alloc | apply Kd.R_drewN | apply Kd.R_drew)); exact HO_631000.out⟩, ⟨by (with_reducible repeat (first | apply Kd.V_alloc | apply Kd.V_drewN | apply Kd.V_drew)); exact HO_631001.out⟩, ⟨by (with_reducible repeat (first | refine blk_drewN ?_ _ | refine blk_drew ?_ | refine blk_alloc ?_ _)); exact BK618.out⟩, ⟨by (with_reducible repeat (first | refine blk_drewN ?_ _ | refine blk_drew ?_ | refine blk_alloc ?_ _)); exact BK630.out⟩, ⟨by repeat (first | (with_reducible first | exact HB.out | apply below_alloc | apply pw_below_drewN | apply below_drew1 | refine below_set ?_ GE618.out | refine below_set ?_ GE630.out) | exact HB.out)⟩⟩
                        · rw [if_neg c43] at H
                          have c43b0 : decide (x14_4 < (t635.length : Int)) = false := decide_eq_false c43
                          clear c43
                          obtain ⟨ji60, hji60⟩ : ∃ j_ : Int, (mx a0 0) = j_ := ⟨_, rfl⟩
                          replace H : (if (t635.length : Int) > (mn (ji60) 64) then (some false) else (cordwoodlaw21_SnapsOnce.l0 k4 a0 l1 t608 x7_33 x8_33 (wrap64 (x9_1 + 1)) t620 t623 t626 t627)) = some r := by first | (rw [hji60] at H; exact H) | (simp only [hji60] at H ⊢; exact H)
                          (try (have hji60l : 0 ≤ ji60 := by (rw [← hji60]; unfold mx; (repeat' split) <;> omega)))
                          (try (have hji60m : 0 ≤ ji60 := by omega))
                          have hji60_ : (if a0 < 0 then 0 else a0) = ji60 := hji60
                          obtain ⟨ji61, hji61⟩ : ∃ j_ : Int, (mn (ji60) 64) = j_ := ⟨_, rfl⟩
                          replace H : (if (t635.length : Int) > (ji61) then (some false) else (cordwoodlaw21_SnapsOnce.l0 k4 a0 l1 t608 x7_33 x8_33 (wrap64 (x9_1 + 1)) t620 t623 t626 t627)) = some r := by first | (rw [hji61] at H; exact H) | (simp only [hji61] at H ⊢; exact H)
                          have hji61_ : (if 64 < (ji60) then 64 else (ji60)) = ji61 := hji61
                          by_cases c62 : (t635.length : Int) > (ji61)
                          · rw [if_pos c62] at H
                            have c62b0 : decide ((ji61) < (t635.length : Int)) = true := decide_eq_true c62
                            clear c62
                            obtain rfl := Option.some.inj H
                            obtain ⟨Ao63, co63, eo63⟩ := Kd.R_slice HO_13.out
                            subst eo63
                            go_wp2
                            go_ret
                            exact ⟨by first | rfl | (simp [errW_none, errW_some] <;> rfl) | (simp only [← hji60, ← hji61]; first | rfl | (simp [errW_none, errW_some] <;> rfl)) | (simp [*, errW_none, errW_some] <;> rfl), by repeat (first | (with_reducible first | exact HB.out | apply below_alloc | apply pw_below_drewN | apply below_drew1 | refine below_set ?_ GE618.out | refine below_set ?_ GE630.out) | exact HB.out)⟩
                          · rw [if_neg c62] at H
                            have c62b0 : decide ((ji61) < (t635.length : Int)) = false := decide_eq_false c62
                            clear c62
                            have H' := Aside0.mk H
                            clear H
                            obtain ⟨Ao64, co64, eo64⟩ := Kd.R_slice HO_13.out
                            subst eo64
                            go_wp2
                            go_roundg k4
                            case measure => have := HK1.out; have := HJ16.out; have := HJ33.out; have := HK4.out; omega
                            case rel => exact ⟨(x7_33), (x8_33), (wrap64 (x9_1 + 1)), (t620), (t623), (t626), (t627), (.slice Ao24 t620.length co24), (.slice Ao26 t623.length co26), (by first | rfl | (simp; done) | (simp [*]; done)), (by first | rfl | (simp; done) | (simp [*]; done)), H', ⟨by have := HK1.out; have := HJ16.out; have := HJ33.out; have := HK4.out; omega⟩, ⟨by (with_reducible repeat (first | apply Kd.R_alloc | apply Kd.R_drewN | apply Kd.R_drew)); exact Kd.R_mono HO_8.out (fun _ hk => hk.2.1)⟩, ⟨by (with_reducible repeat (first | apply Kd.R_alloc | apply Kd.R_drewN | apply Kd.R_drew)); exact Kd.R_mono HO_619000.out (fun _ hk => hk.1)⟩, ⟨by (with_reducible repeat (first | apply Kd.V_alloc | apply Kd.V_drewN | apply Kd.V_drew)); exact Kd.V_mono HO_619001.out (fun _ hk => ⟨hk.1, ⟨hk.2.2.1, hk.2.2.2.2.1⟩⟩)⟩, ⟨by (with_reducible repeat (first | refine blk_drewN ?_ _ | refine blk_drew ?_ | refine blk_alloc ?_ _)); exact BK618.out⟩, ⟨by repeat (first | (with_reducible first | exact HB.out | apply below_alloc | apply pw_below_drewN | apply below_drew1 | refine below_set ?_ GE618.out | refine below_set ?_ GE630.out) | exact HB.out)⟩⟩
          · rw [if_neg c15] at H
            exact absurd H (by simp)
        · rw [if_neg c14] at H
          have c14b0 : decide (x9_1 < (l1.length : Int)) = false := decide_eq_false c14
          clear c14
          obtain rfl := Option.some.inj H
          go_wp2
          go_ret
          exact ⟨by first | rfl | (simp [errW_none, errW_some] <;> rfl) | (simp [*, errW_none, errW_some] <;> rfl), by repeat (first | (with_reducible first | exact HB.out | apply below_alloc | apply pw_below_drewN | apply below_drew1 | refine below_set ?_ GE618.out) | exact HB.out)⟩
  · replace c5 := Bool.eq_false_iff.mpr c5
    subst c5
    have H1 : (some t608) = some r := by rw [if_neg (show ¬ (false = true) by decide)] at H; exact H
    clear H
    have H := H1
    clear H1
    obtain rfl := Option.some.inj H
    go_enter Try.func6, Try.ntmps6
    go_wp2_with (first | ((with_reducible refine gate_callee (f := 9) rfl ?_); refine goesL_ (some 15) rfl rfl Try.func9 (by kernel_rfl) rfl #[] rfl (by (try simp only [List.map_toArray, List.map_cons, List.map_nil]); first | done | rfl | (simp only [List.length_drop, List.length_take]; rfl)) ?_; (with_reducible refine (cordwoodlaw21_awake.calls k  t608 _ A3.out).mono ?_); rintro e w65 ⟨rfl, hb⟩; refine ⟨_, rfl, ?_⟩; have n0_ := Aside0.mk (below_step (by repeat (first | (with_reducible first | exact HB.out | apply below_alloc | apply pw_below_drewN | apply below_drew1) | exact HB.out)) hb); clear HB; have HB := n0_; clear n0_; (try clear hb); (try clear hb2); (try clear hk); (try clear hi)) | ((with_reducible refine gate_callee (f := 17) rfl ?_); refine goesL_ (some 17) rfl rfl Try.func17 (by kernel_rfl) rfl #[.slice A1 l1.length c1] rfl (by (try simp only [List.map_toArray, List.map_cons, List.map_nil]); first | done | rfl | (simp only [List.length_drop, List.length_take]; rfl)) ?_; (with_reducible refine (cordwoodlaw21_small.calls k _ _ l1 false _ ?side1 ?side2 A4.out).mono ?_); (case side1 => repeat (first | exact (Kd.C_below HR1.out HB.out) | (with_reducible refine Kd.C_alloc ?_ _) | (with_reducible refine Kd.C_drewN ?_ _) | (with_reducible refine Kd.C_drew ?_))); (case side2 => exact HC1.out); rintro e w66 ⟨rfl, hb⟩; refine ⟨_, rfl, ?_⟩; have n0_ := Aside0.mk (below_step (by repeat (first | (with_reducible first | exact HB.out | apply below_alloc | apply pw_below_drewN | apply below_drew1) | exact HB.out)) hb); clear HB; have HB := n0_; clear n0_; (try clear hb); (try clear hb2); (try clear hk); (try clear hi)))
    go_ret
    exact ⟨by first | rfl | (simp [errW_none, errW_some] <;> rfl) | (simp [*, errW_none, errW_some] <;> rfl), by repeat (first | (with_reducible first | exact HB.out | apply below_alloc | apply pw_below_drewN | apply below_drew1) | exact HB.out)⟩

end Go.Proofs.Ytkabbahfaeeihaa.Q
