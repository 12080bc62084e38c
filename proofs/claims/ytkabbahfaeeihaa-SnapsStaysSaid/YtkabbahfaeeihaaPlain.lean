/- What a script keeps of the table, in plain lists. -/
import Derived.Test.YtkabbahfaeeihaaQ13
import Derived.Test.YtkabbahfaeeihaaQ23
import Derived.Test.YtkabbahfaeeihaaQ25
import Derived.Test.YtkabbahfaeeihaaQ28
import Derived.Test.YtkabbahfaeeihaaQ38
import Derived.Test.YtkabbahfaeeihaaQ22
/-! What awake's calls answer, in plain lists. -/
namespace Go.Proofs.Ytkabbahfaeeihaa.Q
open Go.RowKit Go.Proofs.YtkabbahfaeeihaaW.PrintWords Go.Proofs.YtkabbahfaeeihaaW.PrintLast Go.Proofs.YtkabbahfaeeihaaW.PrintMore
set_option linter.unusedSimpArgs false

theorem awake_new : snaps_New.f 1 = some ([], [], 1, 0) := by simp [snaps_New.f]; decide
theorem keep_one (n last : Int) (h : 0 < n) (x : List S72) : snaps_Keep.f [] [] n last x = some ([wrap64 (last + 1)], [x], n, wrap64 (last + 1), wrap64 (last + 1), 0) := by
  simp [snaps_Keep.f, api_Node_keep.f, slices_Clone_int_int.f, api_Node_38.f, show ¬ n ≤ 0 by omega]
theorem keep_full (x : List S72) : snaps_Keep.f [1] [[]] 1 1 x = some ([], [], 0, 0, 0, 10) := by
  simp [snaps_Keep.f, api_Node_keep.f]
theorem wrap64_small {n : Int} (h : 0 ≤ n) (h2 : n ≤ 9223372036854775807) : wrap64 n = n := by unfold wrap64; omega
theorem forget_one (k : Nat) {r} (h : snaps_Forget.f k [1] [[]] 1 1 1 = some r) : r = ([], [], 1, 1, 0) := by
  cases k with
  | zero => simp [snaps_Forget.f, api_Node_place.f, slices_Index_int_int.f, slices_Index_int_int.l0] at h
  | succ k => 
    simp [snaps_Forget.f, api_Node_place.f, slices_Index_int_int.f, slices_Index_int_int.l0, rd, api_Node_without.f, slices_Clone_int_int.f, api_Node_38.f, wrap64] at h
    exact h.symm
theorem get_none (k : Nat) {r} (h : snaps_Get.f k [] [] 1 1 1 = some r) : r.2 = 13 := by
  cases k with
  | zero => simp [snaps_Get.f, api_Node_place.f, slices_Index_int_int.f, slices_Index_int_int.l0] at h
  | succ k => 
    simp [snaps_Get.f, api_Node_place.f, slices_Index_int_int.f, slices_Index_int_int.l0] at h
    rw [← h]
end Go.Proofs.Ytkabbahfaeeihaa.Q

/-! What the functions of the table answer, in plain lists: for all counts of rounds that are great enough. -/
namespace Go.Proofs.Ytkabbahfaeeihaa.Q
open Go.RowKit Go.Proofs.YtkabbahfaeeihaaW.PrintWords Go.Proofs.YtkabbahfaeeihaaW.PrintLast Go.Proofs.YtkabbahfaeeihaaW.PrintMore

/-- From some count of rounds on it answers r. -/
def Ev {α : Type} (f : Nat → Option α) (r : α) : Prop := ∃ k0, ∀ k, k0 ≤ k → f k = some r
theorem Ev.const {α : Type} (r : α) : Ev (fun _ => some r) r := ⟨0, fun _ _ => rfl⟩
theorem Ev.of {α : Type} {f g : Nat → Option α} {r : α} (h : ∀ k, f k = g k) (hg : Ev g r) : Ev f r := by
  obtain ⟨k0, hk⟩ := hg
  exact ⟨k0, fun k hle => (h k).trans (hk k hle)⟩
theorem Ev.step {α : Type} {f g : Nat → Option α} {r : α} (h : ∀ k, f (k + 1) = g k) (hg : Ev g r) : Ev f r := by
  obtain ⟨k0, hk⟩ := hg
  refine ⟨k0 + 1, fun k hle => ?_⟩
  obtain ⟨j, rfl⟩ : ∃ j, k = j + 1 := ⟨k - 1, by omega⟩
  rw [h]
  exact hk j (by omega)
theorem Ev.bind {α β : Type} {f : Nat → Option α} {g : Nat → α → Option β} {a : α} {r : β} (hf : Ev f a) (hg : Ev (fun k => g k a) r) : Ev (fun k => (f k).bind (g k)) r := by
  obtain ⟨k0, h0⟩ := hf
  obtain ⟨k1, h1⟩ := hg
  refine ⟨max k0 k1, fun k hle => ?_⟩
  show (f k).bind (g k) = some r
  rw [h0 k (by omega)]
  exact h1 k (by omega)

theorem wrap_inc {i n : Nat} (h : i < n) (hn : n ≤ 9223372036854775807) : wrap64 ((i : Int) + 1) = ((i + 1 : Nat) : Int) := by unfold wrap64; omega
theorem rd_at {l : List Int} {i : Nat} (h : i < l.length) : rd l (i : Int) = l[i] := by simp [rd, h]

theorem index_ev (l : List Int) (a : Int) (hl : l.length ≤ 9223372036854775807) : ∀ (m i : Nat), m + i = l.length →
    ∃ r, Ev (fun k => slices_Index_int_int.l0 k l a (l.length : Int) (i : Int)) r ∧ ((r = -1 ∧ ∀ j, i ≤ j → l[j]? ≠ some a) ∨ ∃ p : Nat, r = p ∧ i ≤ p ∧ l[p]? = some a)
  | 0, i, h => ⟨-1, Ev.step (fun k => by rw [slices_Index_int_int.l0, if_neg (by omega)]) (Ev.const _), .inl ⟨rfl, fun j hj => by rw [List.getElem?_eq_none (by omega)]; simp⟩⟩
  | m + 1, i, h => by
    have hi : i < l.length := by omega
    by_cases c : a = l[i]
    · exact ⟨i, Ev.step (fun k => by rw [slices_Index_int_int.l0, if_pos (by omega), if_pos (by omega), if_pos (by omega), if_pos (by rw [rd_at hi]; exact c)]) (Ev.const _), .inr ⟨i, rfl, Nat.le_refl _, by rw [List.getElem?_eq_getElem hi, c]⟩⟩
    · obtain ⟨r, he, hr⟩ := index_ev l a hl m (i + 1) (by omega)
      refine ⟨r, Ev.step (fun k => by rw [slices_Index_int_int.l0, if_pos (by omega), if_pos (by omega), if_pos (by omega), if_neg (by rw [rd_at hi]; exact c), wrap_inc hi hl]) he, ?_⟩
      rcases hr with ⟨h1, h2⟩ | ⟨p, h1, h2, h3⟩
      · refine .inl ⟨h1, fun j hj => ?_⟩
        by_cases cj : j = i
        · subst cj
          rw [List.getElem?_eq_getElem hi]
          intro he
          exact c (Option.some.inj he).symm
        · exact h2 j (by omega)
      · exact .inr ⟨p, h1, by omega, h3⟩

theorem has_ev (l : List Int) (a : Int) (hl : l.length ≤ 9223372036854775807) : ∀ (m i : Nat), m + i = l.length → (∃ j, i ≤ j ∧ l[j]? = some a) → Ev (fun k => cordwoodref08_Has.l0 k l a (i : Int)) true
  | 0, i, h, ⟨j, hj, ha⟩ => by rw [List.getElem?_eq_none (by omega)] at ha; cases ha
  | m + 1, i, h, ⟨j, hj, ha⟩ => by
    have hi : i < l.length := by omega
    by_cases c : l[i] = a
    · exact Ev.step (fun k => by rw [cordwoodref08_Has.l0, if_pos (by omega), if_pos (by omega), if_pos (by rw [rd_at hi]; exact c)]) (Ev.const _)
    · refine Ev.step (fun k => by rw [cordwoodref08_Has.l0, if_pos (by omega), if_pos (by omega), if_neg (by rw [rd_at hi]; exact c), wrap_inc hi hl]) (has_ev l a hl m (i + 1) (by omega) ⟨j, ?_, ha⟩)
      by_cases cj : j = i
      · subst cj
        rw [List.getElem?_eq_getElem hi] at ha
        exact absurd (Option.some.inj ha) c
      · omega
theorem has_mem {l : List Int} {a : Int} (hl : l.length ≤ 9223372036854775807) (h : a ∈ l) : Ev (fun k => cordwoodref08_Has.f k l a) true := by
  obtain ⟨j, hj, rfl⟩ := List.mem_iff_getElem.1 h
  exact has_ev l _ hl l.length 0 (by omega) ⟨j, by omega, List.getElem?_eq_getElem hj⟩

/-- A row of nodes has no more than may be. -/
def NodesOk (t : List S72) : Prop := t.length ≤ 9223372036854775807
theorem few7_some (a b : List Int) (c : Int) (d : List Int) : ∃ r, cordwoodref07_Few.f a b c d = some r := by
  unfold cordwoodref07_Few.f
  exact ⟨_, rfl⟩
theorem few8_some (a b c : List Int) : ∃ r, cordwoodref08_Few.f a b c = some r := by
  unfold cordwoodref08_Few.f
  exact ⟨_, rfl⟩
theorem few9_some (x : S72) : ∃ b, cordwoodref09_Few.f x.f0 x.f1.f0 x.f1.f1 x.f1.f2 x.f1.f3 x.f2.f0 x.f2.f1 x.f2.f2 = some b := by
  obtain ⟨a, ha⟩ := few7_some x.f1.f0 x.f1.f1 x.f1.f2 x.f1.f3
  obtain ⟨b, hb⟩ := few8_some x.f2.f0 x.f2.f1 x.f2.f2
  unfold cordwoodref09_Few.f
  rw [ha, hb]
  cases a
  · exact ⟨false, rfl⟩
  · exact ⟨b, rfl⟩
theorem few_ev (t : List S72) (hl : t.length ≤ 9223372036854775807) : ∀ (m i : Nat), m + i = t.length → ∃ b, Ev (fun k => cordwoodref10_Few.l0 k t (i : Int)) b
  | 0, i, h => ⟨_, Ev.step (fun k => by rw [cordwoodref10_Few.l0, if_neg (by omega)]) (Ev.const _)⟩
  | m + 1, i, h => by
    have hi : i < t.length := by omega
    obtain ⟨c, hb⟩ := few9_some (rd_T72 t (i : Int))
    have hw := wrap_inc hi hl
    have h1 : ∀ k, cordwoodref10_Few.l0 (k + 1) t (i : Int) = if c = true then cordwoodref10_Few.l0 k t ((i + 1 : Nat) : Int) else some false := by
      intro k
      rw [cordwoodref10_Few.l0, if_pos (by omega), if_pos (by omega), hb, hw]
      rfl
    obtain ⟨b, he⟩ := few_ev t hl m (i + 1) (by omega)
    cases c with
    | false => exact ⟨false, Ev.step h1 (Ev.const _)⟩
    | true => exact ⟨b, Ev.step h1 he⟩

def StepsOk (l : List S50) : Prop := l.length ≤ 9223372036854775807 ∧ ∀ i : Nat, i < l.length → NodesOk (rd_T50 l (i : Int)).f2
theorem steps_ok {W : World} {A : Option Addr} {n : Nat} {l : List S50} (h : Kd.C k50 W A n l) : StepsOk l := by
  have hn := h.1
  refine ⟨by have := h.2.1; omega, fun i hi => ?_⟩
  obtain ⟨ad, c, e, hcl, hK, _⟩ := Kd.C_get h z50 (i : Int) (by omega) (by omega)
  obtain ⟨A2, c2, _, _, hC⟩ := k50_open hK
  exact hC.2.1
theorem small_ev (l : List S50) (hl : StepsOk l) : ∀ (m i : Nat), m + i = l.length → ∃ b, Ev (fun k => cordwoodlaw21_small.l0 k l (i : Int)) b ∧ (b = true → l.length ≤ 100)
  | 0, i, h => ⟨decide ((l.length : Int) ≤ 100), Ev.step (fun k => by rw [cordwoodlaw21_small.l0, if_neg (by omega)]) (Ev.const _), fun hb => by have := of_decide_eq_true hb; omega⟩
  | m + 1, i, h => by
    have hi : i < l.length := by omega
    obtain ⟨b, hb⟩ := few_ev _ (hl.2 i hi) _ 0 (by rw [Nat.add_zero])
    cases b with
    | false =>
      refine ⟨false, Ev.step (g := fun k => (cordwoodref10_Few.f k (rd_T50 l (i : Int)).f2).bind fun t => if t = true then cordwoodlaw21_small.l0 k l (wrap64 ((i : Int) + 1)) else some false) (fun k => by rw [cordwoodlaw21_small.l0, if_pos (by omega), if_pos (by omega)]) (Ev.bind hb ?_), fun h => by cases h⟩
      exact Ev.of (fun k => by rw [if_neg (by decide)]) (Ev.const _)
    | true =>
      obtain ⟨b, he, hb2⟩ := small_ev l hl m (i + 1) (by omega)
      refine ⟨b, Ev.step (g := fun k => (cordwoodref10_Few.f k (rd_T50 l (i : Int)).f2).bind fun t => if t = true then cordwoodlaw21_small.l0 k l (wrap64 ((i : Int) + 1)) else some false) (fun k => by rw [cordwoodlaw21_small.l0, if_pos (by omega), if_pos (by omega)]) (Ev.bind hb ?_), hb2⟩
      exact Ev.of (fun k => by rw [if_pos rfl, wrap_inc hi hl.1]) he

theorem clone_some (l : List Int) (h : l.length < 17592186044416) : slices_Clone_int_int.f l = some l := by simp [slices_Clone_int_int.f, h]
theorem cloneL_some (l : List (List S72)) (h : l.length < 5864062014805) : api_Node_38.f l = some l := by simp [api_Node_38.f, h]
theorem ids_some (ids : List Int) (rows : List (List S72)) (room last : Int) (h : ids.length ≤ 1000) : snaps_IDs.f ids rows room last = some ids := by
  simp [snaps_IDs.f, clone_some ids (by omega)]
theorem without_some (ids : List Int) (rows : List (List S72)) (room last : Int) (p : Nat) (hp : p < ids.length) (hl : ids.length = rows.length) (h : ids.length ≤ 1000) :
    api_Node_without.f ids rows room last (p : Int) = some (ids.take p ++ ids.drop (p + 1), rows.take p ++ rows.drop (p + 1), room, last) := by
  have hw := wrap_inc hp (by omega)
  unfold api_Node_without.f
  rw [clone_some ids (by omega), cloneL_some rows (by omega)]
  simp only [Option.bind_some, hw]
  rw [if_pos (by omega), if_pos (by omega), if_pos (by simp; omega), if_pos (by omega), if_pos (by omega), if_pos (by simp; omega), if_pos (by omega), if_pos (by simp; omega), if_pos (by omega), if_pos (by simp; omega)]
  simp
theorem keep_some (ids : List Int) (rows : List (List S72)) (room last : Int) (t : List S72) (hl : ids.length = rows.length) (h : ids.length ≤ 1000) (h0 : 0 ≤ last) (h1 : last ≤ 1000) (hr : (ids.length : Int) < room) :
    snaps_Keep.f ids rows room last t = some (ids ++ [last + 1], rows ++ [t], room, last + 1, last + 1, 0) := by
  have hw : wrap64 (last + 1) = last + 1 := by unfold wrap64; omega
  simp only [snaps_Keep.f, api_Node_keep.f]
  rw [if_neg (by omega), clone_some ids (by omega), cloneL_some rows (by omega)]
  simp only [Option.bind_some, hw, List.length_cons, List.length_nil]
  rw [if_pos (by omega), if_pos (by omega)]
  simp
theorem keep_none (ids : List Int) (rows : List (List S72)) (room last : Int) (t : List S72) (hr : ¬ (ids.length : Int) < room) :
    snaps_Keep.f ids rows room last t = some ([], [], 0, 0, 0, 10) := by
  simp only [snaps_Keep.f, api_Node_keep.f]
  rw [if_pos (by omega)]
  simp

/-- A table behind a step. -/
inductive Did (ids : List Int) (rows : List (List S72)) (room last what I : Int) (t : List S72) : List Int → List (List S72) → Int → Int → Int → Prop
  | kept : Go.bits .and .i64 what 3 = 0 → (ids.length : Int) < room → Did ids rows room last what I t (ids ++ [last + 1]) (rows ++ [t]) (last + 1) (last + 1) 0
  | full : Go.bits .and .i64 what 3 = 0 → ¬ (ids.length : Int) < room → Did ids rows room last what I t ids rows last 0 10
  | gone (p : Nat) : Go.bits .and .i64 what 3 = 1 → p < ids.length → ids[p]? = some I → Did ids rows room last what I t (ids.take p ++ ids.drop (p + 1)) (rows.take p ++ rows.drop (p + 1)) last 0 0
  | none : Go.bits .and .i64 what 3 = 1 → (∀ j : Nat, ids[j]? ≠ some I) → Did ids rows room last what I t ids rows last 0 13
  | bare : ¬ Go.bits .and .i64 what 3 = 0 → ¬ Go.bits .and .i64 what 3 = 1 → ids = [] → Did ids rows room last what I t ids rows last 0 0
  | old : ¬ Go.bits .and .i64 what 3 = 0 → ¬ Go.bits .and .i64 what 3 = 1 → 0 < ids.length → Did ids rows room last what I t (ids.take 0 ++ ids.drop (0 + 1)) (rows.take 0 ++ rows.drop (0 + 1)) last (rd ids 0) 0

theorem done_ev (ids : List Int) (rows : List (List S72)) (room last what I : Int) (t : List S72) (hl : ids.length = rows.length) (h : ids.length ≤ 1000) (h0 : 0 ≤ last) (h1 : last ≤ 1000) :
    ∃ ids' rows' last' i e, Ev (fun k => cordwoodlaw21_done.f k ids rows room last what I t) (ids', rows', room, last', i, e) ∧ Did ids rows room last what I t ids' rows' last' i e := by
  by_cases c0 : Go.bits .and .i64 what 3 = 0
  · by_cases cr : (ids.length : Int) < room
    · exact ⟨_, _, _, _, _, Ev.of (fun k => by simp only [cordwoodlaw21_done.f]; rw [if_pos c0, keep_some ids rows room last t hl h h0 h1 cr]; rfl) (Ev.const _), .kept c0 cr⟩
    · exact ⟨_, _, _, _, _, Ev.of (fun k => by simp only [cordwoodlaw21_done.f]; rw [if_pos c0, keep_none ids rows room last t cr]; rfl) (Ev.const _), .full c0 cr⟩
  · by_cases c1 : Go.bits .and .i64 what 3 = 1
    · obtain ⟨r, ⟨k0, hk⟩, hr⟩ := index_ev ids I (by omega) ids.length 0 (by omega)
      have hidx : ∀ k, k0 ≤ k → slices_Index_int_int.f k ids I = some r := hk
      rcases hr with ⟨rfl, hn⟩ | ⟨p, rfl, _, hp⟩
      · exact ⟨_, _, _, _, _, ⟨k0, fun k hk' => by simp only [cordwoodlaw21_done.f]; rw [if_neg c0, if_pos c1]; simp [snaps_Forget.f, api_Node_place.f, hidx k hk']⟩, .none c1 (fun j => hn j (by omega))⟩
      · have hpl : p < ids.length := (List.getElem?_eq_some_iff.1 hp).1
        exact ⟨_, _, _, _, _, ⟨k0, fun k hk' => by
          simp only [cordwoodlaw21_done.f]
          rw [if_neg c0, if_pos c1]
          simp only [snaps_Forget.f, api_Node_place.f, hidx k hk', Option.bind_some]
          rw [if_neg (by omega), without_some ids rows room last p hpl hl h]
          rfl⟩, .gone p c1 hpl hp⟩
    · by_cases ce : ids.length = 0
      · have e := List.eq_nil_of_length_eq_zero ce
        exact ⟨_, _, _, _, _, Ev.of (fun k => by simp only [cordwoodlaw21_done.f]; rw [if_neg c0, if_neg c1, snaps_Oldest.f, if_pos (by omega)]; rfl) (Ev.const _), .bare c0 c1 e⟩
      · exact ⟨_, _, _, _, _, Ev.of (fun k => by
          have := without_some ids rows room last 0 (by omega) hl h
          simp only [cordwoodlaw21_done.f]
          rw [if_neg c0, if_neg c1, snaps_Oldest.f, if_neg (by omega), show (0 : Int) = ((0 : Nat) : Int) from rfl, this]
          simp only [Option.bind_some]
          rw [if_pos (by omega)]
          rfl) (Ev.const _), .old c0 c1 (by omega)⟩

theorem awake_ev : Ev (fun k => cordwoodlaw21_awake.f k) true := by
  refine ⟨2, fun k hk => ?_⟩
  obtain ⟨j, rfl⟩ : ∃ j, k = j + 2 := ⟨k - 2, by omega⟩
  have hw1 : wrap64 (0 + 1) = 1 := by unfold wrap64; omega
  have hw2 : wrap64 (1 + 1) = 2 := by unfold wrap64; omega
  have hf : snaps_Forget.f (j + 2) [1] [[]] 1 1 1 = some ([], [], 1, 1, 0) := by
    simp [snaps_Forget.f, api_Node_place.f, slices_Index_int_int.f, slices_Index_int_int.l0, rd, api_Node_without.f, slices_Clone_int_int.f, api_Node_38.f, wrap64]
  have hg : snaps_Get.f (j + 2) [] [] 1 1 1 = some ([], 13) := by
    simp [snaps_Get.f, api_Node_place.f, slices_Index_int_int.f, slices_Index_int_int.l0]
  simp only [cordwoodlaw21_awake.f, awake_new, Option.bind_some]
  rw [keep_one 1 0 (by decide)]
  simp only [Option.bind_some, hw1]
  rw [keep_full]
  simp only [Option.bind_some]
  rw [hf]
  simp only [Option.bind_some]
  rw [keep_one 1 1 (by decide)]
  simp only [Option.bind_some]
  rw [hg]
  rfl
end Go.Proofs.Ytkabbahfaeeihaa.Q

/-! A row of nodes is the same as itself; what is kept is got. -/
namespace Go.Proofs.Ytkabbahfaeeihaa.Q
open Go.RowKit Go.Proofs.YtkabbahfaeeihaaW.PrintWords Go.Proofs.YtkabbahfaeeihaaW.PrintLast Go.Proofs.YtkabbahfaeeihaaW.PrintMore

theorem ints_self (l : List Int) (hl : l.length ≤ 9223372036854775807) : ∀ (m i : Nat), m + i = l.length → Ev (fun k => cordwoodref02_Ints.l0 k l l (i : Int)) true
  | 0, i, h => Ev.step (fun k => by rw [cordwoodref02_Ints.l0, if_neg (by omega)]) (Ev.const _)
  | m + 1, i, h => by
    have hi : i < l.length := by omega
    have hw := wrap_inc hi hl
    refine Ev.step (fun k => ?_) (ints_self l hl m (i + 1) (by omega))
    rw [cordwoodref02_Ints.l0, if_pos (by omega), if_pos (by omega)]
    simp only [if_pos (show (i : Int) < (l.length : Int) by omega), hw, if_true]
/-- A row of nodes whose lists are no longer than may be. -/
def RowOk (t : List S72) : Prop := t.length ≤ 9223372036854775807 ∧ ∀ i : Nat, i < t.length → (rd_T72 t (i : Int)).f2.f2.length ≤ 9223372036854775807
theorem same9_ev (x : S72) (h : x.f2.f2.length ≤ 9223372036854775807) : Ev (fun k => cordwoodref09_Same.f k x.f0 x.f1.f0 x.f1.f1 x.f1.f2 x.f1.f3 x.f2.f0 x.f2.f1 x.f2.f2 x.f0 x.f1.f0 x.f1.f1 x.f1.f2 x.f1.f3 x.f2.f0 x.f2.f1 x.f2.f2) true := by
  obtain ⟨k0, hk⟩ := ints_self x.f2.f2 h _ 0 (by rw [Nat.add_zero])
  refine ⟨k0, fun k hle => ?_⟩
  have h2 : cordwoodref02_Ints.f k x.f2.f2 x.f2.f2 = some true := by
    unfold cordwoodref02_Ints.f
    rw [if_pos rfl]
    exact hk k hle
  simp only [cordwoodref09_Same.f, cordwoodref07_Same.f, cordwoodref08_Same.f, h2, if_true, Option.bind_some, beq_self_eq_true]
theorem same_self (t : List S72) (hl : RowOk t) : ∀ (m i : Nat), m + i = t.length → Ev (fun k => cordwoodref10_Same.l0 k t t (i : Int)) true
  | 0, i, h => Ev.step (fun k => by rw [cordwoodref10_Same.l0, if_neg (by omega)]) (Ev.const _)
  | m + 1, i, h => by
    have hi : i < t.length := by omega
    have hw := wrap_inc hi hl.1
    have ih := same_self t hl m (i + 1) (by omega)
    refine Ev.step (fun k => by rw [cordwoodref10_Same.l0, if_pos (by omega), if_pos (by omega), if_pos (by omega), hw]) (Ev.bind (same9_ev _ (hl.2 i hi)) ?_)
    exact Ev.of (fun k => by rw [if_pos rfl]) ih
theorem same_ev (t : List S72) (hl : RowOk t) : Ev (fun k => cordwoodref10_Same.f k t t) true :=
  Ev.of (g := fun k => cordwoodref10_Same.l0 k t t ((0 : Nat) : Int)) (fun k => by unfold cordwoodref10_Same.f; rw [if_pos rfl]; rfl) (same_self t hl t.length 0 (by omega))
theorem row_ok {W : World} {A : Option Addr} {n : Nat} {t : List S72} (h : Kd.C k72 W A n t) : RowOk t := by
  have hn := h.1
  refine ⟨by have := h.2.1; omega, fun i hi => ?_⟩
  obtain ⟨ad, c, e, hcl, hK, _⟩ := Kd.C_get h z72 (i : Int) (by omega) (by omega)
  obtain ⟨A1, c1, A2, c2, A4, c4, A5, c5, A6, c6, A7, c7, _, _, _, _, _, _, _, _, _, _, _, _, hC⟩ := k72_open hK
  exact hC.2.1
theorem get_ev (ids : List Int) (rows : List (List S72)) (room last : Int) (id : Int) (p : Nat) (hl : ids.length = rows.length) (h : ids.length ≤ 1000) (hp : ids[p]? = some id) (hu : ∀ q, ids[q]? = some id → q = p) :
    Ev (fun k => snaps_Get.f k ids rows room last id) (rd_L7 rows (p : Int), 0) := by
  obtain ⟨r, ⟨k0, hk⟩, hr⟩ := index_ev ids id (by omega) ids.length 0 (by omega)
  have hidx : ∀ k, k0 ≤ k → slices_Index_int_int.f k ids id = some r := hk
  have hpl : p < ids.length := (List.getElem?_eq_some_iff.1 hp).1
  rcases hr with ⟨rfl, hn⟩ | ⟨q, rfl, _, hq⟩
  · exact absurd hp (hn p (by omega))
  · obtain rfl := hu q hq
    refine ⟨k0, fun k hle => ?_⟩
    simp only [snaps_Get.f, api_Node_place.f, hidx k hle, Option.bind_some]
    rw [if_neg (by omega), if_pos (by omega), if_pos (by omega)]
end Go.Proofs.Ytkabbahfaeeihaa.Q

/-! What a script keeps of the table, in plain lists. -/
namespace Go.Proofs.Ytkabbahfaeeihaa.Q
open Go.RowKit Go.Proofs.YtkabbahfaeeihaaW.PrintWords Go.Proofs.YtkabbahfaeeihaaW.PrintLast Go.Proofs.YtkabbahfaeeihaaW.PrintMore

theorem room_eq (a : Int) : mx 0 (mn a 64) = mn (mx a 0) 64 := by
  unfold mx mn
  (repeat' split) <;> omega
theorem room_le (a : Int) : mn (mx a 0) 64 ≤ 64 := by unfold mn mx; (repeat' split) <;> omega
theorem room_ge (a : Int) : 0 ≤ mn (mx a 0) 64 := by unfold mn mx; (repeat' split) <;> omega

theorem cut_sublist {α : Type} (l : List α) (p : Nat) : (l.take p ++ l.drop (p + 1)).Sublist l := by
  have h : (l.take p ++ l.drop (p + 1)).Sublist (l.take p ++ l.drop p) := by
    refine List.Sublist.append (List.Sublist.refl _) ?_
    rw [← List.drop_drop]
    exact List.drop_sublist _ _
  rwa [List.take_append_drop] at h

structure Once (a0 : Int) (ids : List Int) (rows : List (List S72)) (room last : Int) (given : List Int) (n : Nat) : Prop where
  len : ids.length = rows.length
  roomIs : room = mn (mx a0 0) 64
  fits : (ids.length : Int) ≤ room
  low : 0 ≤ last
  high : last ≤ n
  few : given.length ≤ n
  mem : ∀ x ∈ ids, x ∈ given
  le : ∀ x ∈ ids, x ≤ last
  asc : ids.Pairwise (· < ·)

theorem Once.short {a0 : Int} {ids : List Int} {rows : List (List S72)} {room last : Int} {given : List Int} {n : Nat} (h : Once a0 ids rows room last given n) : ids.length ≤ 64 := by
  have h1 := h.fits
  have h2 := h.roomIs
  have h3 := room_le a0
  omega
theorem Once.same {a0 : Int} {ids : List Int} {rows : List (List S72)} {room last : Int} {given : List Int} {n : Nat} (h : Once a0 ids rows room last given n) : Once a0 ids rows room last given (n + 1) :=
  ⟨h.len, h.roomIs, h.fits, h.low, by have := h.high; omega, by have := h.few; omega, h.mem, h.le, h.asc⟩
theorem Once.cut {a0 : Int} {ids : List Int} {rows : List (List S72)} {room last : Int} {given : List Int} {n : Nat} (h : Once a0 ids rows room last given n) (p : Nat) : Once a0 (ids.take p ++ ids.drop (p + 1)) (rows.take p ++ rows.drop (p + 1)) room last given (n + 1) := by
  have hs := cut_sublist ids p
  refine ⟨?_, h.roomIs, ?_, h.low, by have := h.high; omega, by have := h.few; omega, fun x hx => h.mem x (hs.subset hx), fun x hx => h.le x (hs.subset hx), h.asc.sublist hs⟩
  · have := h.len
    simp [this]
  · have h1 := hs.length_le
    have h2 := h.fits
    omega
theorem Once.add {a0 : Int} {ids : List Int} {rows : List (List S72)} {room last : Int} {given : List Int} {n : Nat} (h : Once a0 ids rows room last given n) (t : List S72) (hr : (ids.length : Int) < room) : Once a0 (ids ++ [last + 1]) (rows ++ [t]) room (last + 1) (given ++ [last + 1]) (n + 1) := by
  refine ⟨by simp [h.len], h.roomIs, by simp; omega, by have := h.low; omega, by have := h.high; omega, by have := h.few; simp; omega, fun x hx => ?_, fun x hx => ?_, ?_⟩
  · rcases List.mem_append.1 hx with hx | hx
    · exact List.mem_append.2 (.inl (h.mem x hx))
    · exact List.mem_append.2 (.inr hx)
  · rcases List.mem_append.1 hx with hx | hx
    · have := h.le x hx; omega
    · simp at hx; omega
  · rw [List.pairwise_append]
    refine ⟨h.asc, by simp, fun x hx y hy => ?_⟩
    have := h.le x hx
    simp at hy
    omega

/-- A step keeps the table sound. -/
theorem once_did {a0 : Int} {ids : List Int} {rows : List (List S72)} {room last what I : Int} {t : List S72} {ids' : List Int} {rows' : List (List S72)} {last' i e : Int} {n : Nat} (h : ∃ g, Once a0 ids rows room last g n) (hd : Did ids rows room last what I t ids' rows' last' i e) : ∃ g, Once a0 ids' rows' room last' g (n + 1) := by
  obtain ⟨g, h⟩ := h
  cases hd with
  | kept c0 cr => exact ⟨_, h.add _ cr⟩
  | full c0 cr => exact ⟨_, h.same⟩
  | gone p c1 hp hI => exact ⟨_, h.cut p⟩
  | none c1 hI => exact ⟨_, h.same⟩
  | bare c0 c1 he => exact ⟨_, h.same⟩
  | old c0 c1 hp => exact ⟨_, h.cut 0⟩

/-- Where number id is kept, and what. -/
def At (ids : List Int) (rows : List (List S72)) (id : Int) (t : List S72) : Prop := ∃ p : Nat, ids[p]? = some id ∧ rows[p]? = some t
theorem at_cut {ids : List Int} {rows : List (List S72)} {id : Int} {t : List S72} (hl : ids.length = rows.length) (h : At ids rows id t) (q : Nat) (hq : ids[q]? ≠ some id) : At (ids.take q ++ ids.drop (q + 1)) (rows.take q ++ rows.drop (q + 1)) id t := by
  obtain ⟨p, h1, h2⟩ := h
  have hp : p < ids.length := (List.getElem?_eq_some_iff.1 h1).1
  by_cases c : p < q
  · refine ⟨p, ?_, ?_⟩
    · rw [List.getElem?_append_left (by simp; omega), List.getElem?_take, if_pos c]; exact h1
    · rw [List.getElem?_append_left (by simp; omega), List.getElem?_take, if_pos c]; exact h2
  · have hne : p ≠ q := by rintro rfl; exact hq h1
    refine ⟨p - 1, ?_, ?_⟩
    · rw [List.getElem?_append_right (by simp; omega), List.getElem?_drop, ← h1]; congr 1; simp; omega
    · rw [List.getElem?_append_right (by simp; omega), List.getElem?_drop, ← h2]; congr 1; simp; omega
theorem at_did {ids : List Int} {rows : List (List S72)} {room last what I : Int} {t0 : List S72} {ids' : List Int} {rows' : List (List S72)} {last' i e id : Int} {t : List S72} (hl : ids.length = rows.length) (h : At ids rows id t) (hd : Did ids rows room last what I t0 ids' rows' last' i e)
    (h1 : Go.bits .and .i64 what 3 = 1 → I ≠ id) (h2 : ¬ Go.bits .and .i64 what 3 = 0 → ¬ Go.bits .and .i64 what 3 = 1 → ids[0]? ≠ some id) : At ids' rows' id t := by
  cases hd with
  | kept c0 cr =>
    obtain ⟨p, e1, e2⟩ := h
    exact ⟨p, by rw [List.getElem?_append_left (List.getElem?_eq_some_iff.1 e1).1]; exact e1, by rw [List.getElem?_append_left (List.getElem?_eq_some_iff.1 e2).1]; exact e2⟩
  | full c0 cr => exact h
  | gone q c1 hq hI => exact at_cut hl h q (fun he => h1 c1 (Option.some.inj (hI.symm.trans he)))
  | none c1 hI => exact h
  | bare c0 c1 he => exact h
  | old c0 c1 hp => exact at_cut hl h 0 (h2 c0 c1)
theorem asc_uniq {ids : List Int} (h : ids.Pairwise (· < ·)) {p q : Nat} {id : Int} (hp : ids[p]? = some id) (hq : ids[q]? = some id) : q = p := by
  obtain ⟨lp, ep⟩ := List.getElem?_eq_some_iff.1 hp
  obtain ⟨lq, eq⟩ := List.getElem?_eq_some_iff.1 hq
  rcases Nat.lt_trichotomy p q with c | c | c
  · have := List.pairwise_iff_getElem.1 h p q lp lq c; omega
  · exact c.symm
  · have := List.pairwise_iff_getElem.1 h q p lq lp c; omega
theorem bits3 (w : Int) : Go.bits .and .i64 w 3 = 0 ∨ Go.bits .and .i64 w 3 = 1 ∨ Go.bits .and .i64 w 3 = 2 ∨ Go.bits .and .i64 w 3 = 3 := by
  unfold Go.bits
  simp
  obtain ⟨n, hn⟩ : ∃ n : Nat, ((w % 2 ^ IntKind.i64.bits).toNat &&& 3 % 2 ^ IntKind.i64.bits) = n := ⟨_, rfl⟩
  have h3 : n ≤ 3 := hn ▸ Nat.le_trans Nat.and_le_right (by decide)
  rw [hn]
  match n, h3 with
  | 0, _ => exact .inl (by decide)
  | 1, _ => exact .inr (.inl (by decide))
  | 2, _ => exact .inr (.inr (.inl (by decide)))
  | 3, _ => exact .inr (.inr (.inr (by decide)))
theorem once_start (a0 : Int) : Once a0 [] [] (mx 0 (mn a0 64)) 0 [] 0 := ⟨rfl, room_eq a0, by rw [room_eq]; exact room_ge a0, by omega, by omega, by simp, (fun x hx => by cases hx), (fun x hx => by cases hx), List.Pairwise.nil⟩
theorem forget_at (ids : List Int) (rows : List (List S72)) (room last : Int) (id : Int) (p : Nat) (hl : ids.length = rows.length) (h : ids.length ≤ 1000) (hp : ids[p]? = some id) (hu : ∀ q, ids[q]? = some id → q = p) :
    Ev (fun k => snaps_Forget.f k ids rows room last id) (ids.take p ++ ids.drop (p + 1), rows.take p ++ rows.drop (p + 1), room, last, 0) := by
  obtain ⟨r, ⟨k0, hk⟩, hr⟩ := index_ev ids id (by omega) ids.length 0 (by omega)
  have hidx : ∀ k, k0 ≤ k → slices_Index_int_int.f k ids id = some r := hk
  have hpl : p < ids.length := (List.getElem?_eq_some_iff.1 hp).1
  rcases hr with ⟨rfl, hn⟩ | ⟨q, rfl, _, hq⟩
  · exact absurd hp (hn p (by omega))
  · obtain rfl := hu q hq
    refine ⟨k0, fun k hle => ?_⟩
    simp only [snaps_Forget.f, api_Node_place.f, hidx k hle, Option.bind_some]
    rw [if_neg (by omega), without_some ids rows room last q hpl hl h]
    rfl
theorem get_not (ids : List Int) (rows : List (List S72)) (room last : Int) (id : Int) (h : ids.length ≤ 1000) (hu : ∀ q : Nat, ids[q]? ≠ some id) :
    Ev (fun k => snaps_Get.f k ids rows room last id) ([], 13) := by
  obtain ⟨r, ⟨k0, hk⟩, hr⟩ := index_ev ids id (by omega) ids.length 0 (by omega)
  have hidx : ∀ k, k0 ≤ k → slices_Index_int_int.f k ids id = some r := hk
  rcases hr with ⟨rfl, hn⟩ | ⟨q, rfl, _, hq⟩
  · refine ⟨k0, fun k hle => ?_⟩
    simp only [snaps_Get.f, api_Node_place.f, hidx k hle, Option.bind_some]
    rw [if_pos (by omega)]
  · exact absurd hq (hu q)
theorem ints_same (l : List Int) (hl : l.length ≤ 1000) : Ev (fun k => cordwoodref02_Ints.f k l l) true :=
  Ev.of (g := fun k => cordwoodref02_Ints.l0 k l l ((0 : Nat) : Int)) (fun k => by unfold cordwoodref02_Ints.f; rw [if_pos rfl]; rfl) (ints_self l (by omega) l.length 0 (by omega))
theorem oldest_none (rows : List (List S72)) (room last : Int) : snaps_Oldest.f [] rows room last = some ([], rows, room, last, 0) := by simp [snaps_Oldest.f]
theorem oldest_some (ids : List Int) (rows : List (List S72)) (room last : Int) (hp : 0 < ids.length) (hl : ids.length = rows.length) (h : ids.length ≤ 1000) :
    snaps_Oldest.f ids rows room last = some (ids.drop 1, rows.drop 1, room, last, rd ids 0) := by
  have := without_some ids rows room last 0 hp hl h
  rw [snaps_Oldest.f, if_neg (by omega), show (0 : Int) = ((0 : Nat) : Int) from rfl, this]
  simp only [Option.bind_some]
  rw [if_pos (by omega)]
  rfl
/-- What is first among rising numbers is not behind the first. -/
theorem asc_first {ids : List Int} (h : ids.Pairwise (· < ·)) (hp : 0 < ids.length) : ∀ q : Nat, (ids.drop 1)[q]? ≠ some (rd ids 0) := by
  intro q hq
  have h0 : ids[0]? = some (rd ids 0) := by simp [rd, hp]
  rw [List.getElem?_drop] at hq
  have := asc_uniq h h0 hq
  omega
end Go.Proofs.Ytkabbahfaeeihaa.Q
