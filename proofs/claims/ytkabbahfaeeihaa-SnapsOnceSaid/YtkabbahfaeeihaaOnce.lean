/- SnapsOnce in plain lists: from some count of rounds on its answer is true. -/
import Derived.Test.YtkabbahfaeeihaaQ39
import Derived.Test.YtkabbahfaeeihaaPlain
namespace Go.Proofs.Ytkabbahfaeeihaa.Q
open Go.RowKit Go.Proofs.YtkabbahfaeeihaaW.PrintWords Go.Proofs.YtkabbahfaeeihaaW.PrintLast Go.Proofs.YtkabbahfaeeihaaW.PrintMore

theorem room_eq (a : Int) : mx 0 (mn a 64) = mn (mx a 0) 64 := by
  unfold mx mn
  (repeat' split) <;> omega
theorem room_le (a : Int) : mn (mx a 0) 64 ≤ 64 := by unfold mn mx; (repeat' split) <;> omega
theorem room_ge (a : Int) : 0 ≤ mn (mx a 0) 64 := by unfold mn mx; (repeat' split) <;> omega

theorem cut_sublist {α : Type} (l : List α) (p : Nat) : (l.take p ++ l.drop (p + 1)).Sublist l := by
  have h : (l.take p ++ l.drop (p + 1)).Sublist (l.take p ++ l.drop p) := by
    refine List.Sublist.append (List.Sublist.refl _) ?_
    rw [← List.drop_drop]
    exact List.drop_sublist _ _
  rwa [List.take_append_drop] at h

structure Once (a0 : Int) (ids : List Int) (rows : List (List S72)) (room last : Int) (given : List Int) (n : Nat) : Prop where
  len : ids.length = rows.length
  roomIs : room = mn (mx a0 0) 64
  fits : (ids.length : Int) ≤ room
  low : 0 ≤ last
  high : last ≤ n
  few : given.length ≤ n
  mem : ∀ x ∈ ids, x ∈ given
  le : ∀ x ∈ ids, x ≤ last
  asc : ids.Pairwise (· < ·)

theorem Once.short {a0 : Int} {ids : List Int} {rows : List (List S72)} {room last : Int} {given : List Int} {n : Nat} (h : Once a0 ids rows room last given n) : ids.length ≤ 64 := by
  have h1 := h.fits
  have h2 := h.roomIs
  have h3 := room_le a0
  omega
theorem Once.same {a0 : Int} {ids : List Int} {rows : List (List S72)} {room last : Int} {given : List Int} {n : Nat} (h : Once a0 ids rows room last given n) : Once a0 ids rows room last given (n + 1) :=
  ⟨h.len, h.roomIs, h.fits, h.low, by have := h.high; omega, by have := h.few; omega, h.mem, h.le, h.asc⟩
theorem Once.cut {a0 : Int} {ids : List Int} {rows : List (List S72)} {room last : Int} {given : List Int} {n : Nat} (h : Once a0 ids rows room last given n) (p : Nat) : Once a0 (ids.take p ++ ids.drop (p + 1)) (rows.take p ++ rows.drop (p + 1)) room last given (n + 1) := by
  have hs := cut_sublist ids p
  refine ⟨?_, h.roomIs, ?_, h.low, by have := h.high; omega, by have := h.few; omega, fun x hx => h.mem x (hs.subset hx), fun x hx => h.le x (hs.subset hx), h.asc.sublist hs⟩
  · have := h.len
    simp [this]
  · have h1 := hs.length_le
    have h2 := h.fits
    omega
theorem Once.add {a0 : Int} {ids : List Int} {rows : List (List S72)} {room last : Int} {given : List Int} {n : Nat} (h : Once a0 ids rows room last given n) (t : List S72) (hr : (ids.length : Int) < room) : Once a0 (ids ++ [last + 1]) (rows ++ [t]) room (last + 1) (given ++ [last + 1]) (n + 1) := by
  refine ⟨by simp [h.len], h.roomIs, by simp; omega, by have := h.low; omega, by have := h.high; omega, by have := h.few; simp; omega, fun x hx => ?_, fun x hx => ?_, ?_⟩
  · rcases List.mem_append.1 hx with hx | hx
    · exact List.mem_append.2 (.inl (h.mem x hx))
    · exact List.mem_append.2 (.inr hx)
  · rcases List.mem_append.1 hx with hx | hx
    · have := h.le x hx; omega
    · simp at hx; omega
  · rw [List.pairwise_append]
    refine ⟨h.asc, by simp, fun x hx y hy => ?_⟩
    have := h.le x hx
    simp at hy
    omega

theorem once_l1 {a0 : Int} {l1 : List S50} {up : Bool} {x7 : Int} {given : List Int} {n : Nat} {ids : List Int} {rows : List (List S72)} {room last : Int} {r : Bool} (h : Once a0 ids rows room last given n) (hn : n ≤ 1000)
    (hnext : Ev (fun k => cordwoodlaw21_SnapsOnce.l0 k a0 l1 up x7 given (n : Int) ids rows room last) r) (x9 : Int) (h9 : wrap64 (x9 + 1) = (n : Int)) :
    ∀ (m j : Nat), m + j = ids.length → Ev (fun k => cordwoodlaw21_SnapsOnce.l1 k a0 l1 up x7 given x9 ids (j : Int) ids rows room last) r
  | 0, j, hj => by
    have hf := h.fits
    have hr := h.roomIs
    refine Ev.step (fun k => ?_) hnext
    rw [cordwoodlaw21_SnapsOnce.l1, if_neg (by omega), if_neg (by omega), h9]
  | m + 1, j, hj => by
    have hj2 : j < ids.length := by omega
    have hs := h.short
    have hfew := h.few
    have ih := once_l1 h hn hnext x9 h9 m (j + 1) (by omega)
    have hw := wrap_inc hj2 (by omega)
    have hj4 : Ev (fun k => cordwoodlaw21_SnapsOnce.j4 k a0 l1 up x7 given x9 ids (j : Int) false ids rows room last) r :=
      Ev.step (fun k => by rw [cordwoodlaw21_SnapsOnce.j4, if_neg (by decide), hw]) ih
    have hm : rd ids (j : Int) ∈ given := by rw [rd_at hj2]; exact h.mem _ (List.getElem_mem _)
    refine Ev.step (fun k => by rw [cordwoodlaw21_SnapsOnce.l1, if_pos (by omega), if_pos (by omega)]) (Ev.bind (has_mem (by omega) hm) ?_)
    by_cases c : j = 0
    · subst c
      exact Ev.of (fun k => by rw [if_pos rfl, if_neg (by decide)]) hj4
    · have hw2 : wrap64 ((j : Int) - 1) = ((j - 1 : Nat) : Int) := by unfold wrap64; omega
      have hlt : ids[j - 1] < ids[j] := List.pairwise_iff_getElem.1 h.asc (j - 1) j (by omega) hj2 (by omega)
      have hd : decide (rd ids (wrap64 ((j : Int) - 1)) ≥ rd ids (j : Int)) = false := by
        rw [hw2, rd_at hj2, rd_at (by omega)]
        exact decide_eq_false (by omega)
      exact Ev.of (fun k => by rw [if_pos rfl, if_pos (by omega), if_pos (by omega), if_pos (by omega), hd]) hj4

theorem once_l0 {a0 : Int} {l1 : List S50} {up : Bool} (hl : l1.length ≤ 100) :
    ∀ (m n : Nat) (given ids : List Int) (rows : List (List S72)) (room last : Int), m + n = l1.length → Once a0 ids rows room last given n →
      Ev (fun k => cordwoodlaw21_SnapsOnce.l0 k a0 l1 up last given (n : Int) ids rows room last) up
  | 0, n, given, ids, rows, room, last, hm, h => Ev.step (fun k => by rw [cordwoodlaw21_SnapsOnce.l0, if_neg (by omega)]) (Ev.const _)
  | m + 1, n, given, ids, rows, room, last, hm, h => by
    have hn : n < l1.length := by omega
    have hs := h.short
    have hlow := h.low
    have hhigh := h.high
    have hfew := h.few
    have hw : wrap64 ((n : Int) + 1) = ((n + 1 : Nat) : Int) := wrap_inc hn (by omega)
    obtain ⟨ids', rows', last', i, e, hd, hdid⟩ := done_ev ids rows room last (rd_T50 l1 (n : Int)).f0 (rd_T50 l1 (n : Int)).f1 (rd_T50 l1 (n : Int)).f2 h.len (by omega) h.low (by omega)
    have hj2 : ∀ (x7 : Int) (given' : List Int), x7 = last' → Once a0 ids' rows' room last' given' (n + 1) → Ev (fun k => cordwoodlaw21_SnapsOnce.j2 k a0 l1 up x7 given' (n : Int) ids' rows' room last') up := by
      intro x7 given' e7 h'
      subst e7
      have hs' := h'.short
      have h1 := once_l1 (up := up) h' (by omega) (once_l0 (up := up) hl m (n + 1) given' ids' rows' room x7 (by omega) h') (n : Int) hw ids'.length 0 (by omega)
      refine Ev.step (g := fun k => cordwoodlaw21_SnapsOnce.l1 k a0 l1 up x7 given' (n : Int) ids' 0 ids' rows' room x7) (fun k => ?_) h1
      rw [cordwoodlaw21_SnapsOnce.j2, ids_some ids' rows' room x7 (by omega)]
      rfl
    refine Ev.step (fun k => by rw [cordwoodlaw21_SnapsOnce.l0, if_pos (by omega), if_pos (by omega)]) (Ev.bind hd ?_)
    have hno : ∀ (b : Bool), b = false → Ev (fun k => cordwoodlaw21_SnapsOnce.j2 k a0 l1 up last given (n : Int) ids' rows' room last') up → Ev (fun k => cordwoodlaw21_SnapsOnce.j1 k a0 l1 up last given (n : Int) i b ids' rows' room last') up := by
      intro b hb hj
      subst hb
      exact Ev.step (fun k => by rw [cordwoodlaw21_SnapsOnce.j1, if_neg (by decide)]) hj
    cases hdid with
    | kept c0 cr =>
      refine Ev.of (fun k => by rw [if_pos c0]) ?_
      refine Ev.step (g := fun k => cordwoodlaw21_SnapsOnce.j2 k a0 l1 up (last + 1) (given ++ [last + 1]) (n : Int) (ids ++ [last + 1]) (rows ++ [(rd_T50 l1 (n : Int)).f2]) room (last + 1)) (fun k => ?_) (hj2 _ _ rfl (h.add _ cr))
      show cordwoodlaw21_SnapsOnce.j1 (k + 1) a0 l1 up last given (n : Int) (last + 1) true (ids ++ [last + 1]) (rows ++ [(rd_T50 l1 (n : Int)).f2]) room (last + 1) = _
      rw [cordwoodlaw21_SnapsOnce.j1, if_pos rfl, if_neg (by omega), if_pos (by omega)]
    | full c0 cr =>
      refine Ev.of (fun k => by rw [if_pos c0]) ?_
      exact hno _ rfl (hj2 _ _ rfl h.same)
    | gone p c1 hp hI =>
      refine Ev.of (fun k => by rw [if_neg (by omega)]) ?_
      exact hno _ rfl (hj2 _ _ rfl (h.cut p))
    | none c1 hI =>
      refine Ev.of (fun k => by rw [if_neg (by omega)]) ?_
      exact hno _ rfl (hj2 _ _ rfl h.same)
    | bare c0 c1 he =>
      refine Ev.of (fun k => by rw [if_neg c0]) ?_
      exact hno _ rfl (hj2 _ _ rfl h.same)
    | old c0 c1 hp =>
      refine Ev.of (fun k => by rw [if_neg c0]) ?_
      exact hno _ rfl (hj2 _ _ rfl (h.cut 0))

theorem once_pure (a0 : Int) (l1 : List S50) (hl : StepsOk l1) : ∃ k, cordwoodlaw21_SnapsOnce.f k a0 l1 = some true := by
  obtain ⟨b, hs, hb⟩ := small_ev l1 hl l1.length 0 (by omega)
  have hev : Ev (fun k => cordwoodlaw21_SnapsOnce.f k a0 l1) true := by
    refine Ev.bind awake_ev (Ev.bind (f := fun k => cordwoodlaw21_small.f k l1) hs ?_)
    cases b with
    | false => exact Ev.of (fun k => by rw [if_neg (by decide)]) (Ev.const _)
    | true =>
      have h0 : Once a0 [] [] (mx 0 (mn a0 64)) 0 [] 0 := ⟨rfl, room_eq a0, by rw [room_eq]; exact room_ge a0, by omega, by omega, by simp, (fun x hx => by cases hx), (fun x hx => by cases hx), List.Pairwise.nil⟩
      exact Ev.of (fun k => by rw [if_pos rfl, snaps_New.f]; rfl) (once_l0 (hb rfl) l1.length 0 [] [] [] _ 0 (by omega) h0)
  obtain ⟨k0, hk⟩ := hev
  exact ⟨k0, hk k0 (Nat.le_refl _)⟩
theorem once_row (a0 : Int) {W : World} {A : Option Addr} {n : Nat} {l1 : List S50} (h : Kd.C k50 W A n l1) : ∃ k, cordwoodlaw21_SnapsOnce.f k a0 l1 = some true := once_pure a0 l1 (steps_ok h)
end Go.Proofs.Ytkabbahfaeeihaa.Q
