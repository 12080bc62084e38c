/- What a script keeps of the table, in plain lists. -/
import Derived.Test.YtkabbahfaeeihaaSame
namespace Go.Proofs.Ytkabbahfaeeihaa.Q
open Go.RowKit Go.Proofs.YtkabbahfaeeihaaW.PrintWords Go.Proofs.YtkabbahfaeeihaaW.PrintLast Go.Proofs.YtkabbahfaeeihaaW.PrintMore

theorem room_eq (a : Int) : mx 0 (mn a 64) = mn (mx a 0) 64 := by
  unfold mx mn
  (repeat' split) <;> omega
theorem room_le (a : Int) : mn (mx a 0) 64 ≤ 64 := by unfold mn mx; (repeat' split) <;> omega
theorem room_ge (a : Int) : 0 ≤ mn (mx a 0) 64 := by unfold mn mx; (repeat' split) <;> omega

theorem cut_sublist {α : Type} (l : List α) (p : Nat) : (l.take p ++ l.drop (p + 1)).Sublist l := by
  have h : (l.take p ++ l.drop (p + 1)).Sublist (l.take p ++ l.drop p) := by
    refine List.Sublist.append (List.Sublist.refl _) ?_
    rw [← List.drop_drop]
    exact List.drop_sublist _ _
  rwa [List.take_append_drop] at h

structure Once (a0 : Int) (ids : List Int) (rows : List (List S72)) (room last : Int) (given : List Int) (n : Nat) : Prop where
  len : ids.length = rows.length
  roomIs : room = mn (mx a0 0) 64
  fits : (ids.length : Int) ≤ room
  low : 0 ≤ last
  high : last ≤ n
  few : given.length ≤ n
  mem : ∀ x ∈ ids, x ∈ given
  le : ∀ x ∈ ids, x ≤ last
  asc : ids.Pairwise (· < ·)

theorem Once.short {a0 : Int} {ids : List Int} {rows : List (List S72)} {room last : Int} {given : List Int} {n : Nat} (h : Once a0 ids rows room last given n) : ids.length ≤ 64 := by
  have h1 := h.fits
  have h2 := h.roomIs
  have h3 := room_le a0
  omega
theorem Once.same {a0 : Int} {ids : List Int} {rows : List (List S72)} {room last : Int} {given : List Int} {n : Nat} (h : Once a0 ids rows room last given n) : Once a0 ids rows room last given (n + 1) :=
  ⟨h.len, h.roomIs, h.fits, h.low, by have := h.high; omega, by have := h.few; omega, h.mem, h.le, h.asc⟩
theorem Once.cut {a0 : Int} {ids : List Int} {rows : List (List S72)} {room last : Int} {given : List Int} {n : Nat} (h : Once a0 ids rows room last given n) (p : Nat) : Once a0 (ids.take p ++ ids.drop (p + 1)) (rows.take p ++ rows.drop (p + 1)) room last given (n + 1) := by
  have hs := cut_sublist ids p
  refine ⟨?_, h.roomIs, ?_, h.low, by have := h.high; omega, by have := h.few; omega, fun x hx => h.mem x (hs.subset hx), fun x hx => h.le x (hs.subset hx), h.asc.sublist hs⟩
  · have := h.len
    simp [this]
  · have h1 := hs.length_le
    have h2 := h.fits
    omega
theorem Once.add {a0 : Int} {ids : List Int} {rows : List (List S72)} {room last : Int} {given : List Int} {n : Nat} (h : Once a0 ids rows room last given n) (t : List S72) (hr : (ids.length : Int) < room) : Once a0 (ids ++ [last + 1]) (rows ++ [t]) room (last + 1) (given ++ [last + 1]) (n + 1) := by
  refine ⟨by simp [h.len], h.roomIs, by simp; omega, by have := h.low; omega, by have := h.high; omega, by have := h.few; simp; omega, fun x hx => ?_, fun x hx => ?_, ?_⟩
  · rcases List.mem_append.1 hx with hx | hx
    · exact List.mem_append.2 (.inl (h.mem x hx))
    · exact List.mem_append.2 (.inr hx)
  · rcases List.mem_append.1 hx with hx | hx
    · have := h.le x hx; omega
    · simp at hx; omega
  · rw [List.pairwise_append]
    refine ⟨h.asc, by simp, fun x hx y hy => ?_⟩
    have := h.le x hx
    simp at hy
    omega

/-- A step keeps the table sound. -/
theorem once_did {a0 : Int} {ids : List Int} {rows : List (List S72)} {room last what I : Int} {t : List S72} {ids' : List Int} {rows' : List (List S72)} {last' i e : Int} {n : Nat} (h : ∃ g, Once a0 ids rows room last g n) (hd : Did ids rows room last what I t ids' rows' last' i e) : ∃ g, Once a0 ids' rows' room last' g (n + 1) := by
  obtain ⟨g, h⟩ := h
  cases hd with
  | kept c0 cr => exact ⟨_, h.add _ cr⟩
  | full c0 cr => exact ⟨_, h.same⟩
  | gone p c1 hp hI => exact ⟨_, h.cut p⟩
  | none c1 hI => exact ⟨_, h.same⟩
  | bare c0 c1 he => exact ⟨_, h.same⟩
  | old c0 c1 hp => exact ⟨_, h.cut 0⟩

/-- Where number id is kept, and what. -/
def At (ids : List Int) (rows : List (List S72)) (id : Int) (t : List S72) : Prop := ∃ p : Nat, ids[p]? = some id ∧ rows[p]? = some t
theorem at_cut {ids : List Int} {rows : List (List S72)} {id : Int} {t : List S72} (hl : ids.length = rows.length) (h : At ids rows id t) (q : Nat) (hq : ids[q]? ≠ some id) : At (ids.take q ++ ids.drop (q + 1)) (rows.take q ++ rows.drop (q + 1)) id t := by
  obtain ⟨p, h1, h2⟩ := h
  have hp : p < ids.length := (List.getElem?_eq_some_iff.1 h1).1
  by_cases c : p < q
  · refine ⟨p, ?_, ?_⟩
    · rw [List.getElem?_append_left (by simp; omega), List.getElem?_take, if_pos c]; exact h1
    · rw [List.getElem?_append_left (by simp; omega), List.getElem?_take, if_pos c]; exact h2
  · have hne : p ≠ q := by rintro rfl; exact hq h1
    refine ⟨p - 1, ?_, ?_⟩
    · rw [List.getElem?_append_right (by simp; omega), List.getElem?_drop, ← h1]; congr 1; simp; omega
    · rw [List.getElem?_append_right (by simp; omega), List.getElem?_drop, ← h2]; congr 1; simp; omega
theorem at_did {ids : List Int} {rows : List (List S72)} {room last what I : Int} {t0 : List S72} {ids' : List Int} {rows' : List (List S72)} {last' i e id : Int} {t : List S72} (hl : ids.length = rows.length) (h : At ids rows id t) (hd : Did ids rows room last what I t0 ids' rows' last' i e)
    (h1 : Go.bits .and .i64 what 3 = 1 → I ≠ id) (h2 : ¬ Go.bits .and .i64 what 3 = 0 → ¬ Go.bits .and .i64 what 3 = 1 → ids[0]? ≠ some id) : At ids' rows' id t := by
  cases hd with
  | kept c0 cr =>
    obtain ⟨p, e1, e2⟩ := h
    exact ⟨p, by rw [List.getElem?_append_left (List.getElem?_eq_some_iff.1 e1).1]; exact e1, by rw [List.getElem?_append_left (List.getElem?_eq_some_iff.1 e2).1]; exact e2⟩
  | full c0 cr => exact h
  | gone q c1 hq hI => exact at_cut hl h q (fun he => h1 c1 (Option.some.inj (hI.symm.trans he)))
  | none c1 hI => exact h
  | bare c0 c1 he => exact h
  | old c0 c1 hp => exact at_cut hl h 0 (h2 c0 c1)
theorem asc_uniq {ids : List Int} (h : ids.Pairwise (· < ·)) {p q : Nat} {id : Int} (hp : ids[p]? = some id) (hq : ids[q]? = some id) : q = p := by
  obtain ⟨lp, ep⟩ := List.getElem?_eq_some_iff.1 hp
  obtain ⟨lq, eq⟩ := List.getElem?_eq_some_iff.1 hq
  rcases Nat.lt_trichotomy p q with c | c | c
  · have := List.pairwise_iff_getElem.1 h p q lp lq c; omega
  · exact c.symm
  · have := List.pairwise_iff_getElem.1 h q p lq lp c; omega
theorem bits3 (w : Int) : Go.bits .and .i64 w 3 = 0 ∨ Go.bits .and .i64 w 3 = 1 ∨ Go.bits .and .i64 w 3 = 2 ∨ Go.bits .and .i64 w 3 = 3 := by
  unfold Go.bits
  simp
  obtain ⟨n, hn⟩ : ∃ n : Nat, ((w % 2 ^ IntKind.i64.bits).toNat &&& 3 % 2 ^ IntKind.i64.bits) = n := ⟨_, rfl⟩
  have h3 : n ≤ 3 := hn ▸ Nat.le_trans Nat.and_le_right (by decide)
  rw [hn]
  match n, h3 with
  | 0, _ => exact .inl (by decide)
  | 1, _ => exact .inr (.inl (by decide))
  | 2, _ => exact .inr (.inr (.inl (by decide)))
  | 3, _ => exact .inr (.inr (.inr (by decide)))
theorem once_start (a0 : Int) : Once a0 [] [] (mx 0 (mn a0 64)) 0 [] 0 := ⟨rfl, room_eq a0, by rw [room_eq]; exact room_ge a0, by omega, by omega, by simp, (fun x hx => by cases hx), (fun x hx => by cases hx), List.Pairwise.nil⟩
theorem forget_at (ids : List Int) (rows : List (List S72)) (room last : Int) (id : Int) (p : Nat) (hl : ids.length = rows.length) (h : ids.length ≤ 1000) (hp : ids[p]? = some id) (hu : ∀ q, ids[q]? = some id → q = p) :
    Ev (fun k => snaps_Forget.f k ids rows room last id) (ids.take p ++ ids.drop (p + 1), rows.take p ++ rows.drop (p + 1), room, last, 0) := by
  obtain ⟨r, ⟨k0, hk⟩, hr⟩ := index_ev ids id (by omega) ids.length 0 (by omega)
  have hidx : ∀ k, k0 ≤ k → slices_Index_int_int.f k ids id = some r := hk
  have hpl : p < ids.length := (List.getElem?_eq_some_iff.1 hp).1
  rcases hr with ⟨rfl, hn⟩ | ⟨q, rfl, _, hq⟩
  · exact absurd hp (hn p (by omega))
  · obtain rfl := hu q hq
    refine ⟨k0, fun k hle => ?_⟩
    simp only [snaps_Forget.f, api_Node_place.f, hidx k hle, Option.bind_some]
    rw [if_neg (by omega), without_some ids rows room last q hpl hl h]
    rfl
theorem get_not (ids : List Int) (rows : List (List S72)) (room last : Int) (id : Int) (h : ids.length ≤ 1000) (hu : ∀ q : Nat, ids[q]? ≠ some id) :
    Ev (fun k => snaps_Get.f k ids rows room last id) ([], 13) := by
  obtain ⟨r, ⟨k0, hk⟩, hr⟩ := index_ev ids id (by omega) ids.length 0 (by omega)
  have hidx : ∀ k, k0 ≤ k → slices_Index_int_int.f k ids id = some r := hk
  rcases hr with ⟨rfl, hn⟩ | ⟨q, rfl, _, hq⟩
  · refine ⟨k0, fun k hle => ?_⟩
    simp only [snaps_Get.f, api_Node_place.f, hidx k hle, Option.bind_some]
    rw [if_pos (by omega)]
  · exact absurd hq (hu q)
theorem ints_same (l : List Int) (hl : l.length ≤ 1000) : Ev (fun k => cordwoodref02_Ints.f k l l) true :=
  Ev.of (g := fun k => cordwoodref02_Ints.l0 k l l ((0 : Nat) : Int)) (fun k => by unfold cordwoodref02_Ints.f; rw [if_pos rfl]; rfl) (ints_self l (by omega) l.length 0 (by omega))
theorem oldest_none (rows : List (List S72)) (room last : Int) : snaps_Oldest.f [] rows room last = some ([], rows, room, last, 0) := by simp [snaps_Oldest.f]
theorem oldest_some (ids : List Int) (rows : List (List S72)) (room last : Int) (hp : 0 < ids.length) (hl : ids.length = rows.length) (h : ids.length ≤ 1000) :
    snaps_Oldest.f ids rows room last = some (ids.drop 1, rows.drop 1, room, last, rd ids 0) := by
  have := without_some ids rows room last 0 hp hl h
  rw [snaps_Oldest.f, if_neg (by omega), show (0 : Int) = ((0 : Nat) : Int) from rfl, this]
  simp only [Option.bind_some]
  rw [if_pos (by omega)]
  rfl
/-- What is first among rising numbers is not behind the first. -/
theorem asc_first {ids : List Int} (h : ids.Pairwise (· < ·)) (hp : 0 < ids.length) : ∀ q : Nat, (ids.drop 1)[q]? ≠ some (rd ids 0) := by
  intro q hq
  have h0 : ids[0]? = some (rd ids 0) := by simp [rd, hp]
  rw [List.getElem?_drop] at hq
  have := asc_uniq h h0 hq
  omega
end Go.Proofs.Ytkabbahfaeeihaa.Q
