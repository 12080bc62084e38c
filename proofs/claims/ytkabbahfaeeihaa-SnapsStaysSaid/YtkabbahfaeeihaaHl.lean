/- The words of the laws' walks by hand: the functions that only look, and the parameters' elements. -/
import Derived.Test.YtkabbahfaeeihaaHd
import Derived.Test.YtkabbahfaeeihaaQ19
namespace Go.Proofs.Ytkabbahfaeeihaa.Q
open Go.RowKit Go.Proofs.YtkabbahfaeeihaaW.PrintWords Go.Proofs.YtkabbahfaeeihaaW.PrintLast Go.Proofs.YtkabbahfaeeihaaW.PrintMore
set_option linter.unusedVariables false
set_option linter.unusedSimpArgs false
variable {w W : World} {L : List Box} {v u : Value} {ids : List Int} {rows : List (List S72)} {room last : Int} {l : List S72}

theorem Fr.mv {w W : World} {L : List Box} (h : Fr w L W) : Mv [] w L W := ⟨h.bel.size, fun k hk _ => ⟨h.far k hk, h.bel.block k hk⟩⟩
theorem Vw.arg {α : Type} {d : Kd α} (hd : Kd.Heap d) {w : World} {A : Option Addr} {n c : Nat} {xs : List α} (h : d.C w A n xs) (hc : n ≤ c) (hn : n = xs.length) : Vw d [] w (.slice A n c) xs := by
  subst hn
  exact ⟨A, c, rfl, hc, Kd.F_mono (Kd.C_F hd h) (fun _ _ hm => absurd hm List.not_mem_nil)⟩
/-- A step of a script, as it is read wherever the frame has come to. -/
theorem step_at {w : World} {A : Option Addr} {n : Nat} {l : List S50} (h : Kd.C k50 w A n l) (i : Int) (h0 : 0 ≤ i) (h1 : i < n) :
    ∃ ad A2 c2, A = some ad ∧ ∀ L W, Fr w L W → W.cell? (ad.add (i.toNat * 3)) = some (.int .i64 (rd_T50 l i).f0) ∧ W.cell? ⟨(ad.add (i.toNat * 3)).block, (ad.add (i.toNat * 3)).off + 1, none⟩ = some (.int .i64 (rd_T50 l i).f1)
      ∧ W.cell? ⟨(ad.add (i.toNat * 3)).block, (ad.add (i.toNat * 3)).off + 2, none⟩ = some (.slice A2 (rd_T50 l i).f2.length c2) ∧ Vw k72 L W (.slice A2 (rd_T50 l i).f2.length c2) (rd_T50 l i).f2 := by
  obtain ⟨ad, A2, c2, e, x0, x1, x2, hl, hC⟩ := at_T50 h i h0 h1
  refine ⟨ad, A2, c2, e, fun L W hF => ?_⟩
  have q : ∀ {a : Addr} {u : Value}, w.cell? a = some u → W.cell? a = some u := fun hx => (hF.bel.cell (World.block_lt_of_cell? w _ hx)).trans hx
  exact ⟨q x0, q x1, q x2, (Vw.arg k72_heap hC hl rfl).mv hF.mv⟩
theorem small_c {k : Nat} {l : List S50} {A : Option Addr} {c : Nat} {b : Bool} (hF : Fr w L W) (hC : Kd.C k50 w A l.length l) (hc : l.length ≤ c) (h : cordwoodlaw21_small.f k l = some b) :
    Calls Try.prog 17 #[.slice A l.length c] W fun e W' => e = .returned (.bool b) ∧ Fr w L W' ∧ Mv L W L W' := by
  refine (cordwoodlaw21_small.calls k A c l b W (Kd.C_below hC hF.bel) hc h).mono ?_
  rintro e W' ⟨he, hb⟩
  exact ⟨he, hF.below hb⟩
theorem few_c {k : Nat} {b : Bool} (hF : Fr w L W) (hl : Vw k72 L W v l) (h : cordwoodref10_Few.f k l = some b) :
    Calls Try.prog 11 #[v] W fun e W' => e = .returned (.bool b) ∧ Fr w L W' ∧ Mv L W L W' := by
  obtain ⟨A, c, rfl, hle, hC⟩ := hl.sl
  refine (cordwoodref10_Few.calls k A c l b W hC hle h).mono ?_
  rintro e W' ⟨he, hb⟩
  exact ⟨he, hF.below hb⟩
theorem same_c {k : Nat} {b : Bool} {l' : List S72} (hF : Fr w L W) (hl : Vw k72 L W v l) (hl' : Vw k72 L W u l') (h : cordwoodref10_Same.f k l l' = some b) :
    Calls Try.prog 14 #[v, u] W fun e W' => e = .returned (.bool b) ∧ Fr w L W' ∧ Mv L W L W' := by
  obtain ⟨A, c, rfl, hle, hC⟩ := hl.sl
  obtain ⟨A', c', rfl, hle', hC'⟩ := hl'.sl
  refine (cordwoodref10_Same.calls k A c l A' c' l' b W hC hle hC' hle' h).mono ?_
  rintro e W' ⟨he, hb⟩
  exact ⟨he, hF.below hb⟩
theorem ints_c {k : Nat} {b : Bool} {x y : List Int} (hF : Fr w L W) (hl : Vw (Kd.int .i64) L W v x) (hl' : Vw (Kd.int .i64) L W u y) (h : cordwoodref02_Ints.f k x y = some b) :
    Calls Try.prog 22 #[v, u] W fun e W' => e = .returned (.bool b) ∧ Fr w L W' ∧ Mv L W L W' := by
  obtain ⟨A, c, rfl, hle, hC⟩ := hl.sl
  obtain ⟨A', c', rfl, hle', hC'⟩ := hl'.sl
  refine (cordwoodref02_Ints.calls k A c x A' c' y b W hC hle hC' hle' h).mono ?_
  rintro e W' ⟨he, ⟨n, rfl⟩⟩
  exact ⟨he, hF.drewN n, (Mv.refl _ _).drewN n⟩
theorem Vw.tail1 {L : List Box} {W : World} {A : Option Addr} {n c : Nat} {xs : List Int} (h : Vw (Kd.int .i64) L W (.slice A n c) xs) (hl : 1 ≤ n) :
    ∃ A1 n1 c1, Vw (Kd.int .i64) L W (.slice A1 n1 c1) (xs.drop 1) ∧ ∀ W' : World, (Instr.slice 24 (.slice A n c) (some (.int .i64 1)) none none).run Try.prog W' = .ok (.slice A1 n1 c1) W' := by
  obtain ⟨rfl, hc, hF⟩ := Kd.V_at h.out
  obtain ⟨i0, hi0, _, hsz, _⟩ := info_parts info3
  have hcut := cut_from (P := Try.prog) 24 3 .i64 Try.underlying24 hi0 1 hsz A xs.length c 1 (by omega) (by omega)
  have hr := Kd.F_cut (m := (1 : Int).toNat) (c := c) hF (by simp; omega) hc
  have e : xs.length - (1 : Int).toNat = (xs.drop 1).length := by simp
  rw [e] at hcut
  exact ⟨_, _, _, ⟨_, _, rfl, by simp; omega, hr⟩, hcut⟩
/-- The frame behind a region that calls 'done': the table's box, and the new one. -/
structure AtStep (w : World) (g : Nat) (a0 : Int) (l : List S50) (i : Value) (W : World) : Prop where
  out : ∃ (j : Nat) (v : Value) (ids : List Int) (rows : List (List S72)) (room last : Int), i = .int .i64 (j : Int) ∧ j ≤ l.length ∧ Fr w [(g, v, 28)] W ∧ Tb [(g, v, 28)] W v ids rows room last ∧ ∃ gv, Once a0 ids rows room last gv j
end Go.Proofs.Ytkabbahfaeeihaa.Q
