/- What awake's calls answer, in plain lists. -/
import Derived.Test.YtkabbahfaeeihaaQ13
namespace Go.Proofs.Ytkabbahfaeeihaa.Q
open Go.RowKit Go.Proofs.YtkabbahfaeeihaaW.PrintWords Go.Proofs.YtkabbahfaeeihaaW.PrintLast Go.Proofs.YtkabbahfaeeihaaW.PrintMore
set_option linter.unusedSimpArgs false

theorem awake_new : snaps_New.f 1 = some ([], [], 1, 0) := by simp [snaps_New.f]; decide
theorem keep_one (n last : Int) (h : 0 < n) (x : List S72) : snaps_Keep.f [] [] n last x = some ([wrap64 (last + 1)], [x], n, wrap64 (last + 1), wrap64 (last + 1), 0) := by
  simp [snaps_Keep.f, api_Node_keep.f, slices_Clone_int_int.f, api_Node_38.f, show ¬ n ≤ 0 by omega]
theorem keep_full (x : List S72) : snaps_Keep.f [1] [[]] 1 1 x = some ([], [], 0, 0, 0, 10) := by
  simp [snaps_Keep.f, api_Node_keep.f]
theorem wrap64_small {n : Int} (h : 0 ≤ n) (h2 : n ≤ 9223372036854775807) : wrap64 n = n := by unfold wrap64; omega
theorem forget_one (k : Nat) {r} (h : snaps_Forget.f k [1] [[]] 1 1 1 = some r) : r = ([], [], 1, 1, 0) := by
  cases k with
  | zero => simp [snaps_Forget.f, api_Node_place.f, slices_Index_int_int.f, slices_Index_int_int.l0] at h
  | succ k => 
    simp [snaps_Forget.f, api_Node_place.f, slices_Index_int_int.f, slices_Index_int_int.l0, rd, api_Node_without.f, slices_Clone_int_int.f, api_Node_38.f, wrap64] at h
    exact h.symm
theorem get_none (k : Nat) {r} (h : snaps_Get.f k [] [] 1 1 1 = some r) : r.2 = 13 := by
  cases k with
  | zero => simp [snaps_Get.f, api_Node_place.f, slices_Index_int_int.f, slices_Index_int_int.l0] at h
  | succ k => 
    simp [snaps_Get.f, api_Node_place.f, slices_Index_int_int.f, slices_Index_int_int.l0] at h
    rw [← h]
end Go.Proofs.Ytkabbahfaeeihaa.Q
