/- slices.Delete of one element of a row of the call's own: the row without it; no other block turns. -/
import Derived.Test.YtkabbahfaeeihaaQ0
import Derived.Lib.OwnBridge
namespace Go.Proofs.Ytkabbahfaeeihaa.Q
open Go.RowKit Go.Shelf Go.Lib Go.Sort Go.Proofs.YtkabbahfaeeihaaW.PrintWords Go.Proofs.YtkabbahfaeeihaaW.PrintLast Go.Proofs.YtkabbahfaeeihaaW.PrintMore

abbrev One := {u : Value // u.oneCell' = true}
instance : Inhabited One := ⟨⟨.slice none 0 0, rfl⟩⟩
theorem one_list : ∀ (l : List Value), (∀ u ∈ l, u.oneCell' = true) → ∃ zs : List One, zs.map Subtype.val = l
  | [], _ => ⟨[], rfl⟩
  | a :: t, h => by
    obtain ⟨zs, hz⟩ := one_list t (fun u hu => h u (List.mem_cons_of_mem _ hu))
    exact ⟨⟨a, h a (List.mem_cons_self ..)⟩ :: zs, by simp [hz]⟩

theorem own_del (ρ : Ren) (L : SlLaysE.n45 Try.prog ρ) (z : Value) (hz : z.oneCell' = true) (v23 : ∀ w, (zeroValue (ρ.t 23)).run Try.prog w = .ok z w) (hi : ∃ i0, Try.prog.info? (ρ.t 23) = some i0 ∧ i0.size = 1)
    (w : World) (base : Nat) (v : Value) (inner : List Value) (h1 : ∀ u ∈ inner, u.oneCell' = true) (ho : w.ownsRow base (ρ.t 23) 1 v inner.length inner) (k : Nat) (hk : k < inner.length) :
    Calls Try.prog (ρ.f 45) #[v, .int .i64 k, .int .i64 ((k + 1 : Nat) : Int)] w fun e w' => ∃ v', e = .returned v' ∧ w'.ownsRow base (ρ.t 23) 1 v' (inner.length - 1) (inner.take k ++ inner.drop (k + 1)) ∧ v'.ownBlock = v.ownBlock ∧ w.grownBy w' v.ownBlock := by
  obtain ⟨zs, rfl⟩ := one_list inner h1
  obtain ⟨i0, hi0, hz1⟩ := hi
  have hv : v ≠ .slice none 0 0 := by
    rintro rfl
    rcases ho.2 with ⟨_, h0⟩ | ⟨g, cap, cur, e, _⟩
    · omega
    · cases e
  obtain ⟨g, cap, rfl, hb, hlt, hn, hm, hl, hH⟩ := holds_of_ownsRow ho hv
  have hkz : k < zs.length := by simpa using hk
  have := AnyE.slices_Delete L (Subtype.val : One → Value) (fun x => x.2) ⟨z, hz⟩ v23 i0 hi0 hz1 g 0 cap k (k + 1) zs.toArray w hH (by simpa using hn) (by simpa [maxLen] using hm) (by omega) (by simp; omega)
  simp only [List.size_toArray, List.length_map] at this ⊢
  refine this.mono ?_
  rintro e w' ⟨rfl, q, rfl⟩
  refine ⟨_, rfl, ?_, rfl, ?_⟩
  · have hy : (zs.take k ++ zs.drop (k + 1) ++ List.replicate (k + 1 - k) (⟨z, hz⟩ : One)).length = zs.length := by simp; omega
    have ho2 : w.ownsRow base (ρ.t 23) 1 (.slice (some ⟨g, 0, none⟩) zs.length cap) zs.length (zs.map Subtype.val) := by simpa only [List.length_map] using ho
    have h2 := ownsRow_putRow (q := q) (k := zs.length - 1) ho2 hy (by omega)
    have e1 : (zs.take k ++ zs.drop (k + 1) ++ List.replicate (k + 1 - k) (⟨z, hz⟩ : One)).take (zs.length - 1) = zs.take k ++ zs.drop (k + 1) := List.take_left' (by simp; omega)
    rw [e1] at h2
    rw [show zs.length - (k + 1 - k) = zs.length - 1 by omega]
    simpa only [List.map_append, List.map_take, List.map_drop] using h2
  · refine ⟨rfl, rfl, rfl, by simp [putRow, mapBlock, Sort.ahead], fun i hi hne => ?_⟩
    have hne' : g ≠ i := fun e => hne (by simp [Value.ownBlock, e])
    simp [putRow, mapBlock, Sort.ahead, Array.getElem?_modify, hne']

theorem del_info3 : ∃ i0, Try.prog.info? 3 = some i0 ∧ i0.size = 1 := by
  obtain ⟨i0, h, _, h1, _⟩ := info_parts h_info3
  exact ⟨i0, h, h1⟩
theorem del_info31 : ∃ i0, Try.prog.info? 31 = some i0 ∧ i0.size = 1 := by
  obtain ⟨i0, h, _, h1, _⟩ := info_parts h_info31
  exact ⟨i0, h, h1⟩

/-- Rows of elements of one cell, one left out. -/
theorem reps_del {α : Type} {Rr : α → List Value → Prop} {ps : List α} {inner : List Value} (h : Reps Rr 1 ps inner) (k : Nat) : Reps Rr 1 (ps.take k ++ ps.drop (k + 1)) (inner.take k ++ inner.drop (k + 1)) := by
  obtain ⟨hl, hr⟩ := h
  have hl' : inner.length = ps.length := by omega
  refine ⟨by simp; omega, fun j p hj => ?_⟩
  simp only [Nat.mul_one]
  by_cases c : j < k
  · by_cases c2 : j < ps.length
    · have e1 : (ps.take k ++ ps.drop (k + 1))[j]? = ps[j]? := by rw [List.getElem?_append_left (by simp; omega), List.getElem?_take, if_pos c]
      have e2 : ((inner.take k ++ inner.drop (k + 1)).drop j).take 1 = (inner.drop j).take 1 := by
        apply List.ext_getElem?
        intro i
        simp only [List.getElem?_take, List.getElem?_drop]
        by_cases hi : i < 1
        · have : i = 0 := by omega
          subst this
          simp only [hi, if_true, Nat.add_zero]
          rw [List.getElem?_append_left (by simp; omega), List.getElem?_take, if_pos c]
        · simp [hi]
      rw [e2]
      have := hr j p (e1 ▸ hj)
      simpa using this
    · rw [List.getElem?_eq_none (by simp; omega)] at hj
      cases hj
  · by_cases c1 : k ≤ ps.length
    · have e1 : (ps.take k ++ ps.drop (k + 1))[j]? = ps[j + 1]? := by
        rw [List.getElem?_append_right (by simp; omega), List.getElem?_drop]
        congr 1
        simp
        omega
      have e2 : ((inner.take k ++ inner.drop (k + 1)).drop j).take 1 = (inner.drop (j + 1)).take 1 := by
        apply List.ext_getElem?
        intro i
        simp only [List.getElem?_take, List.getElem?_drop]
        by_cases hi : i < 1
        · have : i = 0 := by omega
          subst this
          simp only [hi, if_true, Nat.add_zero]
          rw [List.getElem?_append_right (by simp; omega), List.getElem?_drop]
          congr 1
          simp
          omega
        · simp [hi]
      rw [e2]
      have := hr (j + 1) p (e1 ▸ hj)
      simpa using this
    · rw [List.getElem?_eq_none (by simp; omega)] at hj
      cases hj

theorem own_cells {inner : List Value} {α : Type} {Rr : α → List Value → Prop} {ps : List α} (hr : Reps Rr 1 ps inner) (h1 : ∀ p c, Rr p c → ∀ u ∈ c, u.oneCell' = true) : ∀ u ∈ inner, u.oneCell' = true := by
  intro u hu
  obtain ⟨j, hj, rfl⟩ := List.mem_iff_getElem.1 hu
  have hl := hr.1
  have := hr.2 j _ (List.getElem?_eq_getElem (by omega))
  refine h1 _ _ this _ ?_
  rw [Nat.mul_one, List.drop_eq_getElem_cons hj]
  exact List.mem_cons_self ..

theorem delI (w : World) (base : Nat) (ok : Nat → Prop) (v : Value) (l : List Int) (k : Nat) (hk : k < l.length) (h : Kd.R (Kd.int .i64) 3 w base ok v l) :
    Calls Try.prog 42 #[v, .int .i64 k, .int .i64 ((k + 1 : Nat) : Int)] w fun e w' => ∃ v', e = .returned v' ∧ Kd.R (Kd.int .i64) 3 w' base ok v' (l.take k ++ l.drop (k + 1)) ∧ v'.ownBlock = v.ownBlock ∧ w.grownBy w' v.ownBlock := by
  obtain ⟨h0, inner, ho, hr⟩ := h
  have hr1 : Reps _ 1 l inner := hr
  have hl : inner.length = l.length := by have := hr1.1; omega
  have ho1 : w.ownsRow base 3 1 v inner.length inner := by rw [hl]; exact ho
  refine (own_del deI_ren deI (.int .i64 0) rfl Try.zeroValue3 del_info3 w base v inner (own_cells hr1 (fun p c hp => (Kd.int .i64).K_one ((Kd.int .i64).K_of_M hp))) ho1 k (by omega)).mono ?_
  rintro e w' ⟨v', rfl, ho', hb, hg⟩
  refine ⟨v', rfl, ⟨fun j hj => h0 j (hb ▸ hj), inner.take k ++ inner.drop (k + 1), ?_, ?_⟩, hb, hg⟩
  · rw [show (l.take k ++ l.drop (k + 1)).length = inner.length - 1 by simp; omega]
    exact ho'
  · exact reps_del hr1 k

theorem delL (w : World) (base : Nat) (ok : Nat → Prop) (v : Value) (l : List (List S72)) (k : Nat) (hk : k < l.length) (h : Kd.N (Kd.slice 72 k72) 31 w base ok v l) :
    Calls Try.prog 43 #[v, .int .i64 k, .int .i64 ((k + 1 : Nat) : Int)] w fun e w' => ∃ v', e = .returned v' ∧ Kd.N (Kd.slice 72 k72) 31 w' base ok v' (l.take k ++ l.drop (k + 1)) ∧ v'.ownBlock = v.ownBlock ∧ w.grownBy w' v.ownBlock := by
  obtain ⟨h0, rows, hrl, ⟨hR0, inner, ho, hr⟩, hf⟩ := h
  have hr1 : Reps _ 1 rows inner := hr
  have hl : inner.length = rows.length := by have := hr1.1; omega
  have ho1 : w.ownsRow base 31 1 v inner.length inner := by rw [hl]; exact ho
  refine (own_del deL_ren deL (.slice none 0 0) rfl Try.zeroValue31 del_info31 w base v inner (own_cells hr1 (fun p c hp => hp.2.2)) ho1 k (by omega)).mono ?_
  rintro e w' ⟨v', rfl, ho', hb, hg⟩
  refine ⟨v', rfl, ⟨fun j hj => h0 j (hb ▸ hj), rows.take k ++ rows.drop (k + 1), by simp; omega, ⟨fun j hj => hj.symm, inner.take k ++ inner.drop (k + 1), ?_, reps_del hr1 k⟩, ?_⟩, hb, hg⟩
  · rw [show (rows.take k ++ rows.drop (k + 1)).length = inner.length - 1 by simp; omega]
    exact ho'
  · intro j x c hx hc
    have key : ∃ i : Nat, l[i]? = some x ∧ rows[i]? = some c := by
      by_cases cj : j < k
      · refine ⟨j, ?_, ?_⟩
        · rw [List.getElem?_append_left (by simp; omega), List.getElem?_take, if_pos cj] at hx; exact hx
        · rw [List.getElem?_append_left (by simp; omega), List.getElem?_take, if_pos cj] at hc; exact hc
      · refine ⟨j + 1, ?_, ?_⟩
        · rw [List.getElem?_append_right (by simp; omega), List.getElem?_drop] at hx
          rw [← hx]; congr 1; simp; omega
        · rw [List.getElem?_append_right (by simp; omega), List.getElem?_drop] at hc
          rw [← hc]; congr 1; simp; omega
    obtain ⟨i, hxi, hci⟩ := key
    rw [hb]
    exact Kd.FK_step (hf i x c hxi hci) (fun m hm hlt => hg.block m hlt hm.2)
theorem ite_some {α : Type} {c : Prop} [Decidable c] {x : Option α} {r : α} (h : (if c then x else none) = some r) : c ∧ x = some r := by
  by_cases hc : c
  · rw [if_pos hc] at h
    exact ⟨hc, h⟩
  · rw [if_neg hc] at h
    cases h
end Go.Proofs.Ytkabbahfaeeihaa.Q
