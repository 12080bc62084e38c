/- SnapsRoom in plain lists: from some count of rounds on its answer is true. -/
import Derived.Test.YtkabbahfaeeihaaQ24
import Derived.Test.YtkabbahfaeeihaaSame
import Derived.Test.YtkabbahfaeeihaaQ12
namespace Go.Proofs.Ytkabbahfaeeihaa.Q
open Go.RowKit Go.Proofs.YtkabbahfaeeihaaW.PrintWords Go.Proofs.YtkabbahfaeeihaaW.PrintLast Go.Proofs.YtkabbahfaeeihaaW.PrintMore

/-- The numbers 1 .. n. -/
def upto1 (n : Nat) : List Int := (List.range n).map fun (i : Nat) => (i : Int) + 1
theorem upto1_len (n : Nat) : (upto1 n).length = n := by simp [upto1]
theorem upto1_succ (n : Nat) : upto1 (n + 1) = upto1 n ++ [(n : Int) + 1] := by simp [upto1, List.range_succ]
theorem upto1_at {n p : Nat} {a : Int} (h : (upto1 n)[p]? = some a) : a = (p : Int) + 1 := by
  simp [upto1, List.getElem?_map] at h
  obtain ⟨i, h1, h2⟩ := h
  have := (List.getElem?_eq_some_iff.1 h1).2
  simp at this
  omega
theorem upto1_get {n p : Nat} (h : p < n) : (upto1 n)[p]? = some ((p : Int) + 1) := by simp [upto1, h]
theorem forget_ev (ids : List Int) (rows : List (List S72)) (room last : Int) (id : Int) (p : Nat) (hl : ids.length = rows.length) (h : ids.length ≤ 1000) (hp : ids[p]? = some id) (hu : ∀ q, ids[q]? = some id → q = p) :
    Ev (fun k => snaps_Forget.f k ids rows room last id) (ids.take p ++ ids.drop (p + 1), rows.take p ++ rows.drop (p + 1), room, last, 0) := by
  obtain ⟨r, ⟨k0, hk⟩, hr⟩ := index_ev ids id (by omega) ids.length 0 (by omega)
  have hidx : ∀ k, k0 ≤ k → slices_Index_int_int.f k ids id = some r := hk
  have hpl : p < ids.length := (List.getElem?_eq_some_iff.1 hp).1
  rcases hr with ⟨rfl, hn⟩ | ⟨q, rfl, _, hq⟩
  · exact absurd hp (hn p (by omega))
  · obtain rfl := hu q hq
    refine ⟨k0, fun k hle => ?_⟩
    simp only [snaps_Forget.f, api_Node_place.f, hidx k hle, Option.bind_some]
    rw [if_neg (by omega), without_some ids rows room last q hpl hl h]
    rfl
theorem bits16 (x : Int) : 0 ≤ Go.bits .and .i64 x 65535 := by
  unfold Go.bits
  simp
  obtain ⟨n, hn⟩ : ∃ n : Nat, ((x % 2 ^ IntKind.i64.bits).toNat &&& 65535 % 2 ^ IntKind.i64.bits) = n := ⟨_, rfl⟩
  have h3 : n ≤ 65535 := hn ▸ Nat.le_trans Nat.and_le_right (by decide)
  rw [hn]
  simp [IntKind.wrap, IntKind.signed, IntKind.bits]
  omega
def RowsOk (l : List (List S72)) : Prop := l.length ≤ 9223372036854775807 ∧ ∀ i : Nat, i < l.length → RowOk (rd_L7 l (i : Int))
theorem rows_ok {W : World} {A : Option Addr} {n : Nat} {l : List (List S72)} (h : Kd.C (Kd.slice 72 k72) W A n l) : RowsOk l := by
  have hn := h.1
  refine ⟨by have := h.2.1; omega, fun i hi => ?_⟩
  obtain ⟨ad, A0, c0, _, _, _, hC⟩ := at_L7 h (i : Int) (by omega) (by omega)
  exact row_ok hC
theorem take_rd {l : List (List S72)} {n : Nat} (h : n < l.length) : l.take n ++ [rd_L7 l (n : Int)] = l.take (n + 1) := by
  rw [List.take_succ_eq_append_getElem h]
  simp [rd_L7, h]
theorem rd_take (l : List (List S72)) (n : Nat) : rd_L7 (l.take (n + 1)) (n : Int) = rd_L7 l (n : Int) := by
  simp [rd_L7]

theorem room_tail {l : List (List S72)} {gone : Int} {room j n : Nat} (hr : room ≤ 64) (hnr : n ≤ room) (hnl : n ≤ l.length) (hz0 : n = 0 → room = 0 ∨ l.length = 0) (hmin : (n : Int) = mn (mn (room : Int) (l.length : Int)) 80) :
    Ev (fun k => sRoom.j1 k l gone true (room : Int) (j : Int) false (upto1 n) (l.take n) (room : Int) (n : Int)) true := by
  have hrows : (upto1 n).length = (l.take n).length := by rw [upto1_len]; simp; omega
  by_cases hz : n = 0
  · subst hz
    refine Ev.step (fun k => ?_) (Ev.const true)
    rw [sRoom.j1, if_neg (by decide), ids_some _ _ _ _ (by rw [upto1_len]; omega), Option.bind_some, upto1_len, if_pos (by omega), if_pos rfl]
    by_cases hroom : room = 0
    · rw [if_pos (by omega)]
    · have h3 := (hz0 rfl).resolve_left hroom
      rw [if_neg (by omega), beq_iff_eq.2 (by omega)]
  · have hb := bits16 gone
    obtain ⟨q, hq⟩ : ∃ q : Nat, Int.tmod (Go.bits .and .i64 gone 65535) (n : Int) = (q : Int) := ⟨(Int.tmod (Go.bits .and .i64 gone 65535) (n : Int)).toNat, (Int.toNat_of_nonneg (Int.tmod_nonneg _ hb)).symm⟩
    have hqn : q < n := by
      have := Int.tmod_lt_of_pos (Go.bits .and .i64 gone 65535) (show (0 : Int) < (n : Int) by omega)
      omega
    have HQ := Aside0.mk hq
    clear hq hb
    have hw : wrap64 (1 + (q : Int)) = (q : Int) + 1 := (wrap64_small (by omega) (by omega)).trans (Int.add_comm _ _)
    have hw2 : wrap64 ((n : Int) + 1) = (n : Int) + 1 := wrap64_small (by omega) (by omega)
    have hf := forget_ev (upto1 n) (l.take n) (room : Int) (n : Int) ((q : Int) + 1) q hrows (by rw [upto1_len]; omega) (upto1_get hqn) (fun p hp => by have := upto1_at hp; omega)
    have hlen1 : ((upto1 n).take q ++ (upto1 n).drop (q + 1)).length = n - 1 := by simp [upto1_len]; omega
    have hk := keep_some ((upto1 n).take q ++ (upto1 n).drop (q + 1)) ((l.take n).take q ++ (l.take n).drop (q + 1)) (room : Int) (n : Int) [] (by rw [hlen1]; simp; omega) (by rw [hlen1]; omega) (by omega) (by omega) (by rw [hlen1]; omega)
    refine Ev.step (fun k => by rw [sRoom.j1, if_neg (by decide), ids_some _ _ _ _ (by rw [upto1_len]; omega), Option.bind_some, upto1_len, if_neg (by omega), HQ.out, hw]) (Ev.bind hf ?_)
    refine Ev.of (fun k => ?_) (Ev.const true)
    show ((snaps_Keep.f ((upto1 n).take q ++ (upto1 n).drop (q + 1)) ((l.take n).take q ++ (l.take n).drop (q + 1)) (room : Int) (n : Int) []).bind _) = _
    rw [hk, Option.bind_some, if_pos rfl, if_pos hmin, if_pos rfl, if_pos rfl, hw2, beq_iff_eq.2 rfl]

theorem room_l0 {l : List (List S72)} {gone : Int} (hl : RowsOk l) {room : Nat} (hr : room ≤ 64) :
    ∀ (m j n : Nat), m + j = min l.length 80 → n = min j room →
      Ev (fun k => sRoom.l0 k l gone true (room : Int) (j : Int) (upto1 n) (l.take n) (room : Int) (n : Int)) true
  | 0, j, n, hm, hn => by
    have hlen := hl.1
    have hnl : n ≤ l.length := by omega
    have tail := room_tail (l := l) (gone := gone) (room := room) (j := j) (n := n) hr (by omega) hnl (by omega) (by unfold mn; (repeat' split) <;> omega)
    by_cases hj : j < l.length
    · refine Ev.step (fun k => by rw [sRoom.l0, if_pos (by omega), decide_eq_false (by omega)]) tail
    · exact Ev.step (fun k => by rw [sRoom.l0, if_neg (by omega)]) tail
  | m + 1, j, n, hm, hn => by
    have hlen := hl.1
    have hj : j < l.length := by omega
    have hw : wrap64 ((j : Int) + 1) = ((j + 1 : Nat) : Int) := wrap_inc hj hlen
    have hrow := hl.2 j hj
    obtain ⟨b, hb⟩ := few_ev (rd_L7 l (j : Int)) hrow.1 (rd_L7 l (j : Int)).length 0 (by omega)
    refine Ev.step (fun k => by rw [sRoom.l0, if_pos (by omega), decide_eq_true (by omega)]) ?_
    refine Ev.step (fun k => by rw [sRoom.j1, if_pos rfl, if_pos (by omega), if_pos (by omega)]) (Ev.bind (f := fun k => cordwoodref10_Few.f k (rd_L7 l (j : Int))) hb ?_)
    cases b with
    | false => exact Ev.of (fun k => by rw [if_neg (by decide)]) (Ev.const _)
    | true =>
      by_cases hjr : j < room
      · obtain rfl : n = j := by omega
        have hrows : (upto1 n).length = (l.take n).length := by rw [upto1_len]; simp; omega
        have ih := room_l0 (gone := gone) hl hr m (n + 1) (n + 1) (by omega) (by omega)
        have hk := keep_some (upto1 n) (l.take n) (room : Int) (n : Int) (rd_L7 l (n : Int)) hrows (by rw [upto1_len]; omega) (by omega) (by omega) (by rw [upto1_len]; omega)
        rw [take_rd hj, ← upto1_succ] at hk
        have hg := get_ev (upto1 (n + 1)) (l.take (n + 1)) (room : Int) ((n : Int) + 1) ((n : Int) + 1) n (by rw [upto1_len]; simp; omega) (by rw [upto1_len]; omega) (upto1_get (by omega)) (fun p hp => by have := upto1_at hp; omega)
        rw [rd_take] at hg
        have hw' : wrap64 ((n : Int) + 1) = (n : Int) + 1 := by rw [hw]; omega
        refine Ev.of (fun k => by rw [if_pos rfl, hk, Option.bind_some, if_neg (by omega), hw']) (Ev.bind hg ?_)
        refine Ev.of (g := fun k => (cordwoodref10_Same.f k (rd_L7 l (n : Int)) (rd_L7 l (n : Int))).bind fun t318 => sRoom.j3 k l gone true (room : Int) (n : Int) (!t318) (upto1 (n + 1)) (l.take (n + 1)) (room : Int) ((n : Int) + 1)) (fun k => by rw [if_pos rfl, if_pos rfl, if_pos rfl]) (Ev.bind (same_ev _ hrow) ?_)
        refine Ev.step (fun k => by rw [sRoom.j3, if_neg (by decide), hw]) ?_
        exact ih
      · have hk := keep_none (upto1 n) (l.take n) (room : Int) (n : Int) (rd_L7 l (j : Int)) (by rw [upto1_len]; omega)
        refine Ev.of (fun k => by rw [if_pos rfl, hk, Option.bind_some, if_pos (by omega), if_pos rfl]) ?_
        exact Ev.step (fun k => by rw [sRoom.j2, if_neg (by decide), hw]) (room_l0 hl hr m (j + 1) n (by omega) (by omega))
theorem room_row (a0 : Int) {W : World} {A : Option Addr} {n : Nat} {l : List (List S72)} (h : Kd.C (Kd.slice 72 k72) W A n l) (gone : Int) : ∃ k, sRoom.f k a0 l gone = some true := by
  have h1 : 0 ≤ mn (mx a0 0) 64 := by unfold mn mx; (repeat' split) <;> omega
  have h2 : mn (mx a0 0) 64 ≤ 64 := by unfold mn mx; (repeat' split) <;> omega
  have h3 : mx 0 (mn a0 64) = mn (mx a0 0) 64 := by unfold mn mx; (repeat' split) <;> omega
  obtain ⟨room, hroom⟩ : ∃ r : Nat, mn (mx a0 0) 64 = (r : Int) := ⟨_, (Int.toNat_of_nonneg h1).symm⟩
  have hl := rows_ok h
  have hev : Ev (fun k => sRoom.f k a0 l gone) true := by
    refine Ev.bind awake_ev (Ev.of (fun k => ?_) (room_l0 (gone := gone) hl (show room ≤ 64 by omega) (min l.length 80) 0 0 (by omega) (by omega)))
    rw [snaps_New.f, Option.bind_some, h3, hroom]
    rfl
  obtain ⟨k0, hk⟩ := hev
  exact ⟨k0, hk k0 (Nat.le_refl _)⟩
end Go.Proofs.Ytkabbahfaeeihaa.Q
