/- The functions' contracts in the words of the hand-made walks (Hw). -/
import Derived.Test.YtkabbahfaeeihaaHw
import Derived.Test.YtkabbahfaeeihaaQ1
import Derived.Test.YtkabbahfaeeihaaQ5
import Derived.Test.YtkabbahfaeeihaaQ8
import Derived.Test.YtkabbahfaeeihaaQ11
import Derived.Test.YtkabbahfaeeihaaQ12
import Derived.Test.YtkabbahfaeeihaaQ23
namespace Go.Proofs.Ytkabbahfaeeihaa.Q
open Go.RowKit Go.Proofs.YtkabbahfaeeihaaW.PrintWords Go.Proofs.YtkabbahfaeeihaaW.PrintLast Go.Proofs.YtkabbahfaeeihaaW.PrintMore
set_option linter.unusedVariables false
set_option linter.unusedSimpArgs false
variable {w W : World} {L : List Box} {v u : Value} {ids : List Int} {rows : List (List S72)} {room last : Int} {l : List S72} {r1 : List Int} {r2 : List (List S72)} {r3 r4 r5 r6 : Int}

theorem tb_mk {W' : World} {v0 v1 : Value} {e0 e1 b0 b1 : Nat} {ok0 ok1 : Nat → Prop} (hF : Fr w L W) (h0 : Kd.V (Kd.int .i64) e0 W' b0 ok0 v0 ids) (h1 : Kd.V (Kd.slice 72 k72) e1 W' b1 ok1 v1 rows)
    (o0 : ∀ k, ok0 k → Off L k ∨ W.heap.size ≤ k) (o1 : ∀ k, ok1 k → Off L k ∨ W.heap.size ≤ k) : Tb L W' (.agg #[v0, v1, .int .i64 room, .int .i64 last]) ids rows room last := by
  obtain ⟨A0, c0, rfl⟩ := Kd.V_slice h0
  obtain ⟨A1, c1, rfl⟩ := Kd.V_slice h1
  exact ⟨A0, c0, A1, c1, rfl, hF.vw h0 o0, hF.vw h1 o1⟩
theorem new_c (a0 : Int) (hF : Fr w L W) : Calls Try.prog 10 #[.int .i64 a0] W fun e W' => ∃ v, e = .returned v ∧ Tb L W' v [] [] (mx 0 (mn a0 64)) 0 ∧ Fr w L W' ∧ Mv L W L W' := by
  refine (snaps_New.calls a0 _ _ _ _ W rfl).mono ?_
  rintro e W' ⟨v0, v1, rfl, h0, h1, hb⟩
  exact ⟨_, rfl, tb_mk hF (Kd.R_V (base' := 0) (Kd.R_bound h0)) (Kd.R_V (base' := 0) (Kd.R_bound h1)) (fun k hk => .inr hk.2.1) (fun k hk => .inr hk.2.1), hF.below hb⟩
theorem keep_c (hF : Fr w L W) (hT : Tb L W v ids rows room last) (hl : Vw k72 L W u l) (h : snaps_Keep.f ids rows room last l = some (r1, r2, r3, r4, r5, r6)) :
    Calls Try.prog 12 #[v, u] W fun e W' => ∃ v', e = .returned (.tuple #[v', .int .i64 r5, .int .i64 r6]) ∧ Tb L W' v' r1 r2 r3 r4 ∧ Fr w L W' ∧ Mv L W L W' := by
  obtain ⟨A0, c0, A1, c1, rfl, h0, h1⟩ := hT.out
  obtain ⟨A, c, rfl, _⟩ := hl.sl
  refine (snaps_Keep.calls A0 c0 ids (Off L) A1 c1 rows room last (Off L) A c l r1 r2 r3 r4 r5 r6 W (Kd.F_now (Kd.V_F h0.out)) (Kd.V_at h0.out).2.1 h1.out hl.out h).mono ?_
  rintro e W' ⟨v0, v1, rfl, g0, g1, hb⟩
  exact ⟨_, rfl, tb_mk hF (Kd.R_V (base' := 0) g0) (Kd.N_V (base' := 0) g1) (fun k hk => .inr hk) (fun k hk => hk.1.elim (fun h => .inl (h.elim id id)) .inr), hF.below hb⟩
theorem forget_c {k : Nat} {id : Int} (hF : Fr w L W) (hT : Tb L W v ids rows room last) (h : snaps_Forget.f k ids rows room last id = some (r1, r2, r3, r4, r5)) :
    Calls Try.prog 16 #[v, .int .i64 id] W fun e W' => ∃ v', e = .returned (.tuple #[v', .int .i64 r5]) ∧ Tb L W' v' r1 r2 r3 r4 ∧ Fr w L W' ∧ Mv L W L W' := by
  obtain ⟨A0, c0, A1, c1, rfl, h0, h1⟩ := hT.out
  refine (snaps_Forget.calls k A0 c0 ids (Off L) A1 c1 rows room last id r1 r2 r3 r4 r5 W (Kd.F_now (Kd.V_F h0.out)) (Kd.V_at h0.out).2.1 h1.out h).mono ?_
  rintro e W' ⟨v0, v1, rfl, g0, g1, hb⟩
  exact ⟨_, rfl, tb_mk hF (Kd.R_V (base' := 0) g0) (Kd.N_V (base' := 0) g1) (fun k hk => .inr hk) (fun k hk => hk.1.elim .inl .inr), hF.below hb⟩
/-- without: as Forget's, of the inner table. -/
theorem without_c {k : Int} (hF : Fr w L W) (hT : Tb L W v ids rows room last) (h : api_Node_without.f ids rows room last k = some (r1, r2, r3, r4)) :
    Calls Try.prog 31 #[v, .int .i64 k] W fun e W' => ∃ v', e = .returned v' ∧ Tb L W' v' r1 r2 r3 r4 ∧ Fr w L W' ∧ Mv L W L W' := by
  obtain ⟨A0, c0, A1, c1, rfl, h0, h1⟩ := hT.out
  refine (api_Node_without.calls A0 c0 ids (Off L) A1 c1 rows room last k r1 r2 r3 r4 W (Kd.F_now (Kd.V_F h0.out)) (Kd.V_at h0.out).2.1 h1.out h).mono ?_
  rintro e W' ⟨v0, v1, rfl, g0, g1, hb⟩
  exact ⟨_, rfl, tb_mk hF (Kd.R_V (base' := 0) g0) (Kd.N_V (base' := 0) g1) (fun k hk => .inr hk) (fun k hk => hk.1.elim .inl .inr), hF.below hb⟩
theorem get_c {k : Nat} {id : Int} (hF : Fr w L W) (hT : Tb L W v ids rows room last) (h : snaps_Get.f k ids rows room last id = some (l, r6)) :
    Calls Try.prog 13 #[v, .int .i64 id] W fun e W' => ∃ v', e = .returned (.tuple #[v', .int .i64 r6]) ∧ Vw k72 L W' v' l ∧ Fr w L W' ∧ Mv L W L W' := by
  obtain ⟨A0, c0, A1, c1, rfl, h0, h1⟩ := hT.out
  refine (snaps_Get.calls k A0 c0 ids (Off L) A1 c1 rows room last id l r6 W (Kd.F_now (Kd.V_F h0.out)) (Kd.V_at h0.out).2.1 h1.out h).mono ?_
  rintro e W' ⟨v0, rfl, g0, hb⟩
  exact ⟨_, rfl, hF.vw g0 (fun k hk => hk.elim .inl .inr), hF.below hb⟩
theorem ids_c (hF : Fr w L W) (hT : Tb L W v ids rows room last) (h : snaps_IDs.f ids rows room last = some r1) :
    Calls Try.prog 15 #[v] W fun e W' => ∃ v', e = .returned v' ∧ Vw (Kd.int .i64) L W' v' r1 ∧ Fr w L W' ∧ Mv L W L W' := by
  obtain ⟨A0, c0, A1, c1, rfl, h0, h1⟩ := hT.out
  refine (snaps_IDs.calls A0 c0 ids A1 c1 rows room last r1 W (Kd.F_now (Kd.V_F h0.out)) (Kd.V_at h0.out).2.1 (Kd.F_now (Kd.V_F h1.out)) (Kd.V_at h1.out).2.1 h).mono ?_
  rintro e W' ⟨v0, rfl, g0, hb⟩
  exact ⟨_, rfl, hF.vw (Kd.R_V (base' := 0) (Kd.R_bound g0)) (fun k hk => .inr hk.2.1), hF.below hb⟩
end Go.Proofs.Ytkabbahfaeeihaa.Q
