/- What the functions of the table answer, in plain lists: for all counts of rounds that are great enough. -/
import Derived.Test.YtkabbahfaeeihaaAwk
import Derived.Test.YtkabbahfaeeihaaQ23
import Derived.Test.YtkabbahfaeeihaaQ25
import Derived.Test.YtkabbahfaeeihaaQ28
import Derived.Test.YtkabbahfaeeihaaQ38
namespace Go.Proofs.Ytkabbahfaeeihaa.Q
open Go.RowKit Go.Proofs.YtkabbahfaeeihaaW.PrintWords Go.Proofs.YtkabbahfaeeihaaW.PrintLast Go.Proofs.YtkabbahfaeeihaaW.PrintMore

/-- From some count of rounds on it answers r. -/
def Ev {α : Type} (f : Nat → Option α) (r : α) : Prop := ∃ k0, ∀ k, k0 ≤ k → f k = some r
theorem Ev.const {α : Type} (r : α) : Ev (fun _ => some r) r := ⟨0, fun _ _ => rfl⟩
theorem Ev.of {α : Type} {f g : Nat → Option α} {r : α} (h : ∀ k, f k = g k) (hg : Ev g r) : Ev f r := by
  obtain ⟨k0, hk⟩ := hg
  exact ⟨k0, fun k hle => (h k).trans (hk k hle)⟩
theorem Ev.step {α : Type} {f g : Nat → Option α} {r : α} (h : ∀ k, f (k + 1) = g k) (hg : Ev g r) : Ev f r := by
  obtain ⟨k0, hk⟩ := hg
  refine ⟨k0 + 1, fun k hle => ?_⟩
  obtain ⟨j, rfl⟩ : ∃ j, k = j + 1 := ⟨k - 1, by omega⟩
  rw [h]
  exact hk j (by omega)
theorem Ev.bind {α β : Type} {f : Nat → Option α} {g : Nat → α → Option β} {a : α} {r : β} (hf : Ev f a) (hg : Ev (fun k => g k a) r) : Ev (fun k => (f k).bind (g k)) r := by
  obtain ⟨k0, h0⟩ := hf
  obtain ⟨k1, h1⟩ := hg
  refine ⟨max k0 k1, fun k hle => ?_⟩
  show (f k).bind (g k) = some r
  rw [h0 k (by omega)]
  exact h1 k (by omega)

theorem wrap_inc {i n : Nat} (h : i < n) (hn : n ≤ 9223372036854775807) : wrap64 ((i : Int) + 1) = ((i + 1 : Nat) : Int) := by unfold wrap64; omega
theorem rd_at {l : List Int} {i : Nat} (h : i < l.length) : rd l (i : Int) = l[i] := by simp [rd, h]

theorem index_ev (l : List Int) (a : Int) (hl : l.length ≤ 9223372036854775807) : ∀ (m i : Nat), m + i = l.length →
    ∃ r, Ev (fun k => slices_Index_int_int.l0 k l a (l.length : Int) (i : Int)) r ∧ ((r = -1 ∧ ∀ j, i ≤ j → l[j]? ≠ some a) ∨ ∃ p : Nat, r = p ∧ i ≤ p ∧ l[p]? = some a)
  | 0, i, h => ⟨-1, Ev.step (fun k => by rw [slices_Index_int_int.l0, if_neg (by omega)]) (Ev.const _), .inl ⟨rfl, fun j hj => by rw [List.getElem?_eq_none (by omega)]; simp⟩⟩
  | m + 1, i, h => by
    have hi : i < l.length := by omega
    by_cases c : a = l[i]
    · exact ⟨i, Ev.step (fun k => by rw [slices_Index_int_int.l0, if_pos (by omega), if_pos (by omega), if_pos (by omega), if_pos (by rw [rd_at hi]; exact c)]) (Ev.const _), .inr ⟨i, rfl, Nat.le_refl _, by rw [List.getElem?_eq_getElem hi, c]⟩⟩
    · obtain ⟨r, he, hr⟩ := index_ev l a hl m (i + 1) (by omega)
      refine ⟨r, Ev.step (fun k => by rw [slices_Index_int_int.l0, if_pos (by omega), if_pos (by omega), if_pos (by omega), if_neg (by rw [rd_at hi]; exact c), wrap_inc hi hl]) he, ?_⟩
      rcases hr with ⟨h1, h2⟩ | ⟨p, h1, h2, h3⟩
      · refine .inl ⟨h1, fun j hj => ?_⟩
        by_cases cj : j = i
        · subst cj
          rw [List.getElem?_eq_getElem hi]
          intro he
          exact c (Option.some.inj he).symm
        · exact h2 j (by omega)
      · exact .inr ⟨p, h1, by omega, h3⟩

theorem has_ev (l : List Int) (a : Int) (hl : l.length ≤ 9223372036854775807) : ∀ (m i : Nat), m + i = l.length → (∃ j, i ≤ j ∧ l[j]? = some a) → Ev (fun k => cordwoodref08_Has.l0 k l a (i : Int)) true
  | 0, i, h, ⟨j, hj, ha⟩ => by rw [List.getElem?_eq_none (by omega)] at ha; cases ha
  | m + 1, i, h, ⟨j, hj, ha⟩ => by
    have hi : i < l.length := by omega
    by_cases c : l[i] = a
    · exact Ev.step (fun k => by rw [cordwoodref08_Has.l0, if_pos (by omega), if_pos (by omega), if_pos (by rw [rd_at hi]; exact c)]) (Ev.const _)
    · refine Ev.step (fun k => by rw [cordwoodref08_Has.l0, if_pos (by omega), if_pos (by omega), if_neg (by rw [rd_at hi]; exact c), wrap_inc hi hl]) (has_ev l a hl m (i + 1) (by omega) ⟨j, ?_, ha⟩)
      by_cases cj : j = i
      · subst cj
        rw [List.getElem?_eq_getElem hi] at ha
        exact absurd (Option.some.inj ha) c
      · omega
theorem has_mem {l : List Int} {a : Int} (hl : l.length ≤ 9223372036854775807) (h : a ∈ l) : Ev (fun k => cordwoodref08_Has.f k l a) true := by
  obtain ⟨j, hj, rfl⟩ := List.mem_iff_getElem.1 h
  exact has_ev l _ hl l.length 0 (by omega) ⟨j, by omega, List.getElem?_eq_getElem hj⟩

/-- A row of nodes has no more than may be. -/
def NodesOk (t : List S72) : Prop := t.length ≤ 9223372036854775807
theorem few7_some (a b : List Int) (c : Int) (d : List Int) : ∃ r, cordwoodref07_Few.f a b c d = some r := by
  unfold cordwoodref07_Few.f
  exact ⟨_, rfl⟩
theorem few8_some (a b c : List Int) : ∃ r, cordwoodref08_Few.f a b c = some r := by
  unfold cordwoodref08_Few.f
  exact ⟨_, rfl⟩
theorem few9_some (x : S72) : ∃ b, cordwoodref09_Few.f x.f0 x.f1.f0 x.f1.f1 x.f1.f2 x.f1.f3 x.f2.f0 x.f2.f1 x.f2.f2 = some b := by
  obtain ⟨a, ha⟩ := few7_some x.f1.f0 x.f1.f1 x.f1.f2 x.f1.f3
  obtain ⟨b, hb⟩ := few8_some x.f2.f0 x.f2.f1 x.f2.f2
  unfold cordwoodref09_Few.f
  rw [ha, hb]
  cases a
  · exact ⟨false, rfl⟩
  · exact ⟨b, rfl⟩
theorem few_ev (t : List S72) (hl : t.length ≤ 9223372036854775807) : ∀ (m i : Nat), m + i = t.length → ∃ b, Ev (fun k => cordwoodref10_Few.l0 k t (i : Int)) b
  | 0, i, h => ⟨_, Ev.step (fun k => by rw [cordwoodref10_Few.l0, if_neg (by omega)]) (Ev.const _)⟩
  | m + 1, i, h => by
    have hi : i < t.length := by omega
    obtain ⟨c, hb⟩ := few9_some (rd_T72 t (i : Int))
    have hw := wrap_inc hi hl
    have h1 : ∀ k, cordwoodref10_Few.l0 (k + 1) t (i : Int) = if c = true then cordwoodref10_Few.l0 k t ((i + 1 : Nat) : Int) else some false := by
      intro k
      rw [cordwoodref10_Few.l0, if_pos (by omega), if_pos (by omega), hb, hw]
      rfl
    obtain ⟨b, he⟩ := few_ev t hl m (i + 1) (by omega)
    cases c with
    | false => exact ⟨false, Ev.step h1 (Ev.const _)⟩
    | true => exact ⟨b, Ev.step h1 he⟩

def StepsOk (l : List S50) : Prop := l.length ≤ 9223372036854775807 ∧ ∀ i : Nat, i < l.length → NodesOk (rd_T50 l (i : Int)).f2
theorem steps_ok {W : World} {A : Option Addr} {n : Nat} {l : List S50} (h : Kd.C k50 W A n l) : StepsOk l := by
  have hn := h.1
  refine ⟨by have := h.2.1; omega, fun i hi => ?_⟩
  obtain ⟨ad, c, e, hcl, hK, _⟩ := Kd.C_get h z50 (i : Int) (by omega) (by omega)
  obtain ⟨A2, c2, _, _, hC⟩ := k50_open hK
  exact hC.2.1
theorem small_ev (l : List S50) (hl : StepsOk l) : ∀ (m i : Nat), m + i = l.length → ∃ b, Ev (fun k => cordwoodlaw21_small.l0 k l (i : Int)) b ∧ (b = true → l.length ≤ 100)
  | 0, i, h => ⟨decide ((l.length : Int) ≤ 100), Ev.step (fun k => by rw [cordwoodlaw21_small.l0, if_neg (by omega)]) (Ev.const _), fun hb => by have := of_decide_eq_true hb; omega⟩
  | m + 1, i, h => by
    have hi : i < l.length := by omega
    obtain ⟨b, hb⟩ := few_ev _ (hl.2 i hi) _ 0 (by rw [Nat.add_zero])
    cases b with
    | false =>
      refine ⟨false, Ev.step (g := fun k => (cordwoodref10_Few.f k (rd_T50 l (i : Int)).f2).bind fun t => if t = true then cordwoodlaw21_small.l0 k l (wrap64 ((i : Int) + 1)) else some false) (fun k => by rw [cordwoodlaw21_small.l0, if_pos (by omega), if_pos (by omega)]) (Ev.bind hb ?_), fun h => by cases h⟩
      exact Ev.of (fun k => by rw [if_neg (by decide)]) (Ev.const _)
    | true =>
      obtain ⟨b, he, hb2⟩ := small_ev l hl m (i + 1) (by omega)
      refine ⟨b, Ev.step (g := fun k => (cordwoodref10_Few.f k (rd_T50 l (i : Int)).f2).bind fun t => if t = true then cordwoodlaw21_small.l0 k l (wrap64 ((i : Int) + 1)) else some false) (fun k => by rw [cordwoodlaw21_small.l0, if_pos (by omega), if_pos (by omega)]) (Ev.bind hb ?_), hb2⟩
      exact Ev.of (fun k => by rw [if_pos rfl, wrap_inc hi hl.1]) he

theorem clone_some (l : List Int) (h : l.length < 17592186044416) : slices_Clone_int_int.f l = some l := by simp [slices_Clone_int_int.f, h]
theorem cloneL_some (l : List (List S72)) (h : l.length < 5864062014805) : api_Node_38.f l = some l := by simp [api_Node_38.f, h]
theorem ids_some (ids : List Int) (rows : List (List S72)) (room last : Int) (h : ids.length ≤ 1000) : snaps_IDs.f ids rows room last = some ids := by
  simp [snaps_IDs.f, clone_some ids (by omega)]
theorem without_some (ids : List Int) (rows : List (List S72)) (room last : Int) (p : Nat) (hp : p < ids.length) (hl : ids.length = rows.length) (h : ids.length ≤ 1000) :
    api_Node_without.f ids rows room last (p : Int) = some (ids.take p ++ ids.drop (p + 1), rows.take p ++ rows.drop (p + 1), room, last) := by
  have hw := wrap_inc hp (by omega)
  unfold api_Node_without.f
  rw [clone_some ids (by omega), cloneL_some rows (by omega)]
  simp only [Option.bind_some, hw]
  rw [if_pos (by omega), if_pos (by omega), if_pos (by simp; omega), if_pos (by omega), if_pos (by omega), if_pos (by simp; omega), if_pos (by omega), if_pos (by simp; omega), if_pos (by omega), if_pos (by simp; omega)]
  simp
theorem keep_some (ids : List Int) (rows : List (List S72)) (room last : Int) (t : List S72) (hl : ids.length = rows.length) (h : ids.length ≤ 1000) (h0 : 0 ≤ last) (h1 : last ≤ 1000) (hr : (ids.length : Int) < room) :
    snaps_Keep.f ids rows room last t = some (ids ++ [last + 1], rows ++ [t], room, last + 1, last + 1, 0) := by
  have hw : wrap64 (last + 1) = last + 1 := by unfold wrap64; omega
  simp only [snaps_Keep.f, api_Node_keep.f]
  rw [if_neg (by omega), clone_some ids (by omega), cloneL_some rows (by omega)]
  simp only [Option.bind_some, hw, List.length_cons, List.length_nil]
  rw [if_pos (by omega), if_pos (by omega)]
  simp
theorem keep_none (ids : List Int) (rows : List (List S72)) (room last : Int) (t : List S72) (hr : ¬ (ids.length : Int) < room) :
    snaps_Keep.f ids rows room last t = some ([], [], 0, 0, 0, 10) := by
  simp only [snaps_Keep.f, api_Node_keep.f]
  rw [if_pos (by omega)]
  simp

/-- A table behind a step. -/
inductive Did (ids : List Int) (rows : List (List S72)) (room last what I : Int) (t : List S72) : List Int → List (List S72) → Int → Int → Int → Prop
  | kept : Go.bits .and .i64 what 3 = 0 → (ids.length : Int) < room → Did ids rows room last what I t (ids ++ [last + 1]) (rows ++ [t]) (last + 1) (last + 1) 0
  | full : Go.bits .and .i64 what 3 = 0 → ¬ (ids.length : Int) < room → Did ids rows room last what I t ids rows last 0 10
  | gone (p : Nat) : Go.bits .and .i64 what 3 = 1 → p < ids.length → ids[p]? = some I → Did ids rows room last what I t (ids.take p ++ ids.drop (p + 1)) (rows.take p ++ rows.drop (p + 1)) last 0 0
  | none : Go.bits .and .i64 what 3 = 1 → (∀ j : Nat, ids[j]? ≠ some I) → Did ids rows room last what I t ids rows last 0 13
  | bare : ¬ Go.bits .and .i64 what 3 = 0 → ¬ Go.bits .and .i64 what 3 = 1 → ids = [] → Did ids rows room last what I t ids rows last 0 0
  | old : ¬ Go.bits .and .i64 what 3 = 0 → ¬ Go.bits .and .i64 what 3 = 1 → 0 < ids.length → Did ids rows room last what I t (ids.take 0 ++ ids.drop (0 + 1)) (rows.take 0 ++ rows.drop (0 + 1)) last (rd ids 0) 0

theorem done_ev (ids : List Int) (rows : List (List S72)) (room last what I : Int) (t : List S72) (hl : ids.length = rows.length) (h : ids.length ≤ 1000) (h0 : 0 ≤ last) (h1 : last ≤ 1000) :
    ∃ ids' rows' last' i e, Ev (fun k => cordwoodlaw21_done.f k ids rows room last what I t) (ids', rows', room, last', i, e) ∧ Did ids rows room last what I t ids' rows' last' i e := by
  by_cases c0 : Go.bits .and .i64 what 3 = 0
  · by_cases cr : (ids.length : Int) < room
    · exact ⟨_, _, _, _, _, Ev.of (fun k => by simp only [cordwoodlaw21_done.f]; rw [if_pos c0, keep_some ids rows room last t hl h h0 h1 cr]; rfl) (Ev.const _), .kept c0 cr⟩
    · exact ⟨_, _, _, _, _, Ev.of (fun k => by simp only [cordwoodlaw21_done.f]; rw [if_pos c0, keep_none ids rows room last t cr]; rfl) (Ev.const _), .full c0 cr⟩
  · by_cases c1 : Go.bits .and .i64 what 3 = 1
    · obtain ⟨r, ⟨k0, hk⟩, hr⟩ := index_ev ids I (by omega) ids.length 0 (by omega)
      have hidx : ∀ k, k0 ≤ k → slices_Index_int_int.f k ids I = some r := hk
      rcases hr with ⟨rfl, hn⟩ | ⟨p, rfl, _, hp⟩
      · exact ⟨_, _, _, _, _, ⟨k0, fun k hk' => by simp only [cordwoodlaw21_done.f]; rw [if_neg c0, if_pos c1]; simp [snaps_Forget.f, api_Node_place.f, hidx k hk']⟩, .none c1 (fun j => hn j (by omega))⟩
      · have hpl : p < ids.length := (List.getElem?_eq_some_iff.1 hp).1
        exact ⟨_, _, _, _, _, ⟨k0, fun k hk' => by
          simp only [cordwoodlaw21_done.f]
          rw [if_neg c0, if_pos c1]
          simp only [snaps_Forget.f, api_Node_place.f, hidx k hk', Option.bind_some]
          rw [if_neg (by omega), without_some ids rows room last p hpl hl h]
          rfl⟩, .gone p c1 hpl hp⟩
    · by_cases ce : ids.length = 0
      · have e := List.eq_nil_of_length_eq_zero ce
        exact ⟨_, _, _, _, _, Ev.of (fun k => by simp only [cordwoodlaw21_done.f]; rw [if_neg c0, if_neg c1, snaps_Oldest.f, if_pos (by omega)]; rfl) (Ev.const _), .bare c0 c1 e⟩
      · exact ⟨_, _, _, _, _, Ev.of (fun k => by
          have := without_some ids rows room last 0 (by omega) hl h
          simp only [cordwoodlaw21_done.f]
          rw [if_neg c0, if_neg c1, snaps_Oldest.f, if_neg (by omega), show (0 : Int) = ((0 : Nat) : Int) from rfl, this]
          simp only [Option.bind_some]
          rw [if_pos (by omega)]
          rfl) (Ev.const _), .old c0 c1 (by omega)⟩

theorem awake_ev : Ev (fun k => cordwoodlaw21_awake.f k) true := by
  refine ⟨2, fun k hk => ?_⟩
  obtain ⟨j, rfl⟩ : ∃ j, k = j + 2 := ⟨k - 2, by omega⟩
  have hw1 : wrap64 (0 + 1) = 1 := by unfold wrap64; omega
  have hw2 : wrap64 (1 + 1) = 2 := by unfold wrap64; omega
  have hf : snaps_Forget.f (j + 2) [1] [[]] 1 1 1 = some ([], [], 1, 1, 0) := by
    simp [snaps_Forget.f, api_Node_place.f, slices_Index_int_int.f, slices_Index_int_int.l0, rd, api_Node_without.f, slices_Clone_int_int.f, api_Node_38.f, wrap64]
  have hg : snaps_Get.f (j + 2) [] [] 1 1 1 = some ([], 13) := by
    simp [snaps_Get.f, api_Node_place.f, slices_Index_int_int.f, slices_Index_int_int.l0]
  simp only [cordwoodlaw21_awake.f, awake_new, Option.bind_some]
  rw [keep_one 1 0 (by decide)]
  simp only [Option.bind_some, hw1]
  rw [keep_full]
  simp only [Option.bind_some]
  rw [hf]
  simp only [Option.bind_some]
  rw [keep_one 1 1 (by decide)]
  simp only [Option.bind_some]
  rw [hg]
  rfl
end Go.Proofs.Ytkabbahfaeeihaa.Q
