/- walk.Under, walk.Common: loops that leave early. -/
import Derived.Test.YtgfplpkmcdpbeaaDoorCop
namespace Go.Proofs.YtgfplpkmcdpbeaaDoor
open Go.RowKit Go.Shelf

attribute [local go_sem] Oper.semAt_some

theorem holds_pure {Bx n : Nat} (p : List Int → Prop) : Holds Bx n (fun pre (_ : World) => p pre) := fun _ _ _ _ h _ _ => h
theorem boxed_set_other {A : World} {b c : Nat} {t : TypeId} {v u : Value} (h : Boxed A b t v) (hne : b ≠ c) : Boxed (A.setCell ⟨c, 0, none⟩ u) b t v :=
  (Below.heap_setCell A ⟨c, 0, none⟩ u b hne).trans h
theorem boxed_put {A : World} {b D : Nat} {t : TypeId} {v : Value} {o' : Obj} (h : Boxed A b t v) (hD : A.heap[D]? = some (.deferred (some []))) : Boxed (A.putObj D o') b t v := by
  refine (World.putObj_heap_other (fun e => ?_)).trans h
  subst e
  rw [show A.heap[b]? = _ from h] at hD
  cases hD

set_option maxRecDepth 100000 in
set_option maxHeartbeats 4000000 in
theorem under_in (x y w : Int) (W : World) (hT : Tab W) :
    CallsIn Fence.wide 3 Tryd.prog 42 #[.int .i64 x, .int .i64 y, .int .i64 w] W fun e W' => e = .returned (.bool (decide (y ∈ way x w))) ∧ Below W.heap.size W W' := by
  have hl1 := hT.lt
  refine callsIn_of_wp_marks Tryd.func42 rfl trivial ?_ rfl
  simp only [Tryd.ntmps42, List.size_toArray, List.length_cons, List.length_nil, Nat.reduceAdd, Nat.reduceSub, Array.replicate_succ, Array.replicate_zero, List.push_toArray, List.append_toArray, List.nil_append, List.cons_append]
  gi_wp2_with (refine ⟨trivial, ?_⟩; gi_at_call 52; refine (callsIn_wide.2 (up_any _ _ _)).mono ?_; rintro e w' ⟨rfl, rfl⟩)
  have h4 := four W 3 4 (.int .i64 y) (.bool false) x w
  generalize hV : (((W.alloc (.cells #[.int .i64 y] 3)).alloc (.cells #[.bool false] 4)).alloc (.cells #[.int .i64 x] 3)).alloc (.cells #[.int .i64 w] 3) = V at h4 ⊢
  clear hV
  have hTV : Tab V := hT.block (h4.below.block 1 hl1)
  have hsz := h4.size
  refine rangeSeq (gf := 57) (lb := #[.pointer (some ⟨W.heap.size + 2, 0, none⟩), .pointer (some ⟨W.heap.size + 3, 0, none⟩)]) rfl (enters_of Tryd.func57 (by kernel_rfl) rfl) (encs := fun z : Int => #[.int .i64 z]) (Bx := W.heap.size + 2) (Kp := Keep (W.heap.size + 2) (W.heap.size + 3)) (L := way x w)
    ⟨_, h4.bx, rfl⟩ (up_iter4 h4 hTV hl1) (fun _ => rfl) Keep.trans (Keep.putObj (by omega) (by omega) (by omega))
    (fun pre A => (((∀ z ∈ pre, z ≠ y) ∧ Boxed A W.heap.size 3 (.int .i64 y)) ∧ Boxed A (W.heap.size + 1) 4 (.bool false)) ∧ ButE (fun k => k = W.heap.size + 2) V.heap.size V A)
    (fun pre A => (y ∈ pre ∧ Boxed A (W.heap.size + 1) 4 (.bool true)) ∧ ButE (fun k => k = W.heap.size + 1 ∨ k = W.heap.size + 2) V.heap.size V A)
    ((((holds_pure _).and (holds_box _ (by omega))).and (holds_box _ (by omega))).and (holds_butE V (Nat.le_refl _) (Nat.le_refl _) rfl))
    (((holds_pure _).and (holds_box _ (by omega))).and (holds_butE V (Nat.le_refl _) (Nat.le_refl _) (.inr rfl)))
    ⟨⟨⟨by simp, h4.b0⟩, h4.b1⟩, ButE.refl _ _ _⟩
    (fun z => ?a1) ?assign ?body ?done ?stop
  case a1 => exact { tmps := #[.int .i64 x, .int .i64 y, .int .i64 w, undef, .pointer (some ⟨W.heap.size, 0, none⟩), undef, .pointer (some ⟨W.heap.size + 1, 0, none⟩), .int .i64 z, .int .i64 x, .int .i64 w, .func (.func 57) #[] #[.pointer (some ⟨W.heap.size + 2, 0, none⟩), .pointer (some ⟨W.heap.size + 3, 0, none⟩)], .int .i64 z, undef, undef, undef], defers := [] }
  case assign =>
    intro l z A K hK
    gi_wp2
    exact hK
  case body =>
    rintro l pre z A hpre ⟨⟨⟨hp, h0⟩, h1⟩, hB⟩
    have hc0 := h0.cell
    have hc1 := h1.cell
    have hf1 := h1.frozen
    have HP := Lib.hid hp
    clear hp
    by_cases hz : z = y
    · have hq : (z == y) = true := by simp [hz]
      have HZ := Lib.hid hz
      clear hz
      gi_wp2
      exact ⟨KeepsOthers.setCell _ _ _, ⟨List.mem_append.2 (.inr (by simp [HZ.out])), h1.set _⟩,
        (ButE.setCell (E := fun k => k = W.heap.size + 1 ∨ k = W.heap.size + 2) ⟨hB.os, hB.tape, hB.output, hB.size, fun k hk he => hB.block k hk (fun e => he (.inr e))⟩ _ (.inl rfl) _)⟩
    · have hq : (z == y) = false := by simp [hz]
      have HZ := Lib.hid hz
      clear hz
      gi_wp2
      exact ⟨KeepsOthers.refl _, ⟨rfl, rfl, rfl⟩, ⟨⟨fun u hu => (List.mem_append.1 hu).elim (HP.out u) (fun h => by simp at h; subst h; exact HZ.out), h0⟩, h1⟩, hB⟩
  case done =>
    rintro D A hD ⟨⟨⟨hp, h0⟩, h1⟩, hB⟩ hK
    have hd : decide (y ∈ way x w) = false := decide_eq_false (fun h => hp y h rfl)
    have hc1 := h1.cell
    have hf1 := h1.frozen
    have HD := Lib.hid hd
    clear hp hd
    gi_wp2
    have hK' := (KeepsOthers.setCell A ⟨W.heap.size + 1, 0, none⟩ (.bool false)).same D _ hK rfl
    refine ⟨by simp, .inl ⟨_, _, rfl, run_takeDeferred hK', ?_⟩⟩
    have hc5 := (boxed_put (o' := .deferred none) (h1.set (.bool false)) hK').cell
    refine ⟨.bool false, ?_, by rw [HD.out], ?_⟩
    · simp [results, Tryd.f42, go_sem, hc5]
    · have hB2 : ButE (fun k => k = W.heap.size + 1 ∨ k = W.heap.size + 2) V.heap.size V (A.setCell ⟨W.heap.size + 1, 0, none⟩ (.bool false)) :=
        ButE.setCell ⟨hB.os, hB.tape, hB.output, hB.size, fun k hk he => hB.block k hk (fun e => he (.inr e))⟩ _ (.inl rfl) _
      exact h4.below.trans ((hB2.grown (grownBy_putObj' _ D _) hB2.size (fun k e => by cases e; exact .inr hD)).below (by omega) (by omega))
  case stop =>
    rintro D pre A hD hpre ⟨⟨hy, h1⟩, hB⟩ hK
    have hd : decide (y ∈ way x w) = true := decide_eq_true (hpre.subset hy)
    have HD := Lib.hid hd
    clear hd
    gi_wp2
    refine ⟨by simp, .inl ⟨_, _, rfl, run_takeDeferred hK, ?_⟩⟩
    have hc5 := (boxed_put (o' := .deferred none) h1 hK).cell
    refine ⟨.bool true, ?_, by rw [HD.out], h4.below.trans ((hB.grown (grownBy_putObj' _ D _) hB.size (fun k e => by cases e; exact .inr hD)).below (by omega) (by omega))⟩
    simp [results, Tryd.f42, go_sem, hc5]

theorem under_any (x y w : Int) (W : World) (hT : Tab W) :
    Calls Tryd.prog 42 #[.int .i64 x, .int .i64 y, .int .i64 w] W fun e W' => e = .returned (.bool (decide (y ∈ way x w))) ∧ Below W.heap.size W W' :=
  callsIn_wide.1 (under_in x y w W hT)
theorem copath_any (x w : Int) (W : World) (hT : Tab W) :
    Calls Tryd.prog 38 #[.int .i64 x, .int .i64 w] W fun e W' => ∃ v, e = .returned v ∧ Rd W' v (cops w (way x w)) ∧ Below W.heap.size W W' :=
  callsIn_wide.1 (copath_in x w W hT)

structure Five (W V : World) (t0 t1 t2 : TypeId) (v0 v1 v2 : Value) (x w : Int) : Prop where
  b0 : Boxed V W.heap.size t0 v0
  b1 : Boxed V (W.heap.size + 1) t1 v1
  b2 : Boxed V (W.heap.size + 2) t2 v2
  bx : Boxed V (W.heap.size + 3) 3 (.int .i64 x)
  bw : Boxed V (W.heap.size + 4) 3 (.int .i64 w)
  size : V.heap.size = W.heap.size + 5
  below : Below W.heap.size W V
theorem five (W : World) (t0 t1 t2 : TypeId) (v0 v1 v2 : Value) (x w : Int) : Five W (((((W.alloc (.cells #[v0] t0)).alloc (.cells #[v1] t1)).alloc (.cells #[v2] t2)).alloc (.cells #[.int .i64 x] 3)).alloc (.cells #[.int .i64 w] 3)) t0 t1 t2 v0 v1 v2 x w := by
  have b1 := Boxed.new (W.alloc (.cells #[v0] t0)) t1 v1
  have b2 := Boxed.new ((W.alloc (.cells #[v0] t0)).alloc (.cells #[v1] t1)) t2 v2
  have bx := Boxed.new (((W.alloc (.cells #[v0] t0)).alloc (.cells #[v1] t1)).alloc (.cells #[v2] t2)) 3 (.int .i64 x)
  have bw := Boxed.new ((((W.alloc (.cells #[v0] t0)).alloc (.cells #[v1] t1)).alloc (.cells #[v2] t2)).alloc (.cells #[.int .i64 x] 3)) 3 (.int .i64 w)
  simp only [World.size_alloc] at b1 b2 bx bw
  exact ⟨((((Boxed.new W t0 v0).alloc _).alloc _).alloc _).alloc _, ((b1.alloc _).alloc _).alloc _, (b2.alloc _).alloc _, bx.alloc _, bw, by simp only [World.size_alloc],
    (((((Below.refl _ W).alloc (Nat.le_refl _) _).alloc (by simp) _).alloc (by simp only [World.size_alloc]; omega) _).alloc (by simp only [World.size_alloc]; omega) _).alloc (by simp only [World.size_alloc]; omega) _⟩

theorem up_iter5 {W V : World} {t0 t1 t2 : TypeId} {v0 v1 v2 : Value} {x w : Int} (h : Five W V t0 t1 t2 v0 v1 v2 x w) (hT : Tab V) (hl1 : 1 < W.heap.size) (o1 o2 : Obj) :
    IterAt Tryd.prog 57 #[.pointer (some ⟨W.heap.size + 3, 0, none⟩), .pointer (some ⟨W.heap.size + 4, 0, none⟩)] (fun y : Int => #[.int .i64 y]) (W.heap.size + 3) (Keep (W.heap.size + 3) (W.heap.size + 4)) (way x w) ((V.alloc o1).alloc o2) :=
  up_iter (W.heap.size + 3) (W.heap.size + 4) (by omega) (by omega) x w _ ((h.bx.alloc _).alloc _) ((h.bw.alloc _).alloc _)
    (hT.block ((Below.heap_alloc _ _ _ (by have := h.size; simp only [World.size_alloc]; omega)).trans (Below.heap_alloc _ _ _ (by have := h.size; omega))))

theorem others_below {A B : World} (h : Below A.heap.size A B) : KeepsOthers A B := ⟨h.size, fun k _ hk _ => (h.block k (Array.getElem?_eq_some_iff.1 hk).1).trans hk⟩
theorem boxed_below {A B : World} {b : Nat} {t : TypeId} {v : Value} (h : Boxed A b t v) (hb : Below A.heap.size A B) : Boxed B b t v := (hb.block b h.lt).trans h

/-- The first of a way that is on another one. -/
def common (x y w : Int) : Int := ((way x w).find? fun z => decide (z ∈ way y w)).getD (-1)
theorem common_none {x y w : Int} (h : ∀ z ∈ way x w, z ∉ way y w) : common x y w = -1 := by
  unfold common
  rw [List.find?_eq_none.2 (fun z hz => by simpa using h z hz)]
  rfl
theorem common_some {x y w z : Int} {p : List Int} (hp : p ++ [z] <+: way x w) (h : ∀ u ∈ p, u ∉ way y w) (hz : z ∈ way y w) : common x y w = z := by
  unfold common
  obtain ⟨r, hr⟩ := hp
  rw [← hr, List.append_assoc, List.find?_append, List.find?_eq_none.2 (fun u hu => by simpa using h u hu)]
  simp [hz]

set_option maxRecDepth 100000 in
set_option maxHeartbeats 4000000 in
theorem common_in (x y w : Int) (W : World) (hT : Tab W) :
    CallsIn Fence.wide 3 Tryd.prog 40 #[.int .i64 x, .int .i64 y, .int .i64 w] W fun e W' => e = .returned (.int .i64 (common x y w)) ∧ Below W.heap.size W W' := by
  have hl1 := hT.lt
  refine callsIn_of_wp_marks Tryd.func40 rfl trivial ?_ rfl
  simp only [Tryd.ntmps40, List.size_toArray, List.length_cons, List.length_nil, Nat.reduceAdd, Nat.reduceSub, Array.replicate_succ, Array.replicate_zero, List.push_toArray, List.append_toArray, List.nil_append, List.cons_append]
  gi_wp2_with (refine ⟨trivial, ?_⟩; gi_at_call 52; refine (callsIn_wide.2 (up_any _ _ _)).mono ?_; rintro e w' ⟨rfl, rfl⟩)
  have h4 := five W 3 3 3 (.int .i64 y) (.int .i64 w) (.int .i64 0) x w
  generalize hV : ((((W.alloc (.cells #[.int .i64 y] 3)).alloc (.cells #[.int .i64 w] 3)).alloc (.cells #[.int .i64 0] 3)).alloc (.cells #[.int .i64 x] 3)).alloc (.cells #[.int .i64 w] 3) = V at h4 ⊢
  clear hV
  have hTV : Tab V := hT.block (h4.below.block 1 hl1)
  have hsz := h4.size
  refine rangeSeq (gf := 57) (lb := #[.pointer (some ⟨W.heap.size + 3, 0, none⟩), .pointer (some ⟨W.heap.size + 4, 0, none⟩)]) rfl (enters_of Tryd.func57 (by kernel_rfl) rfl) (encs := fun z : Int => #[.int .i64 z]) (Bx := W.heap.size + 3) (Kp := Keep (W.heap.size + 3) (W.heap.size + 4)) (L := way x w)
    ⟨_, h4.bx, rfl⟩ (up_iter5 h4 hTV hl1) (fun _ => rfl) Keep.trans (Keep.putObj (by omega) (by omega) (by omega))
    (fun pre A => ((((∀ z ∈ pre, z ∉ way y w) ∧ Boxed A W.heap.size 3 (.int .i64 y)) ∧ Boxed A (W.heap.size + 1) 3 (.int .i64 w)) ∧ Boxed A (W.heap.size + 2) 3 (.int .i64 0)) ∧ ButE (fun k => k = W.heap.size + 3) V.heap.size V A)
    (fun pre A => ((∃ z p, pre = p ++ [z] ∧ (∀ u ∈ p, u ∉ way y w) ∧ z ∈ way y w ∧ Boxed A (W.heap.size + 2) 3 (.int .i64 z))) ∧ ButE (fun k => k = W.heap.size + 2 ∨ k = W.heap.size + 3) V.heap.size V A)
    (((((holds_pure _).and (holds_box _ (by omega))).and (holds_box _ (by omega))).and (holds_box _ (by omega))).and (holds_butE V (Nat.le_refl _) (Nat.le_refl _) rfl))
    (Holds.and (fun s A B row ⟨z, p, h1, h2, h3, h4⟩ hg hr => ⟨z, p, h1, h2, h3, holds_box (n := V.heap.size) (.int .i64 z) (by omega) s A B row h4 hg hr⟩) (holds_butE V (Nat.le_refl _) (Nat.le_refl _) (.inr rfl)))
    ⟨⟨⟨⟨by simp, h4.b0⟩, h4.b1⟩, h4.b2⟩, ButE.refl _ _ _⟩
    (fun z => ?a1) ?assign ?body ?done ?stop
  case a1 => exact { tmps := #[.int .i64 x, .int .i64 y, .int .i64 w, undef, .pointer (some ⟨W.heap.size, 0, none⟩), .pointer (some ⟨W.heap.size + 1, 0, none⟩), .pointer (some ⟨W.heap.size + 2, 0, none⟩), .int .i64 z, .int .i64 x, .int .i64 w, .func (.func 57) #[] #[.pointer (some ⟨W.heap.size + 3, 0, none⟩), .pointer (some ⟨W.heap.size + 4, 0, none⟩)], .int .i64 z, undef, undef, undef, undef, undef], defers := [] }
  case assign =>
    intro l z A K hK
    gi_wp2
    exact hK
  case body =>
    rintro l pre z A hpre ⟨⟨⟨⟨hp, h0⟩, h1⟩, h2⟩, hB⟩
    have hc0 := h0.cell
    have hc1 := h1.cell
    have hTA : Tab A := hTV.block (hB.block 1 (by omega) (by omega))
    have HP := Lib.hid hp
    clear hp
    have hund := fun A2 (h : Tab A2) => under_any y z w A2 h
    by_cases hz : z ∈ way y w
    · rw [decide_eq_true hz] at hund
      have HU := Lib.hid hund
      have HZ := Lib.hid hz
      clear hz hund
      gi_wp2_with (refine ⟨trivial, ?_⟩; gi_at_call 42; refine (CallsIn.inRound l (callsIn_wide.2 (HU.out _ hTA))).mono ?_; rintro e A2 ⟨rfl, hb⟩; have h22 := boxed_below h2 hb; have hc22 := h22.cell; have hf22 := h22.frozen)
      exact ⟨(others_below hb).trans (KeepsOthers.setCell _ _ _), ⟨z, pre, rfl, HP.out, HZ.out, h22.set _⟩,
        ButE.setCell (E := fun k => k = W.heap.size + 2 ∨ k = W.heap.size + 3) (ButE.trans ⟨hB.os, hB.tape, hB.output, hB.size, fun k hk he => hB.block k hk (fun e => he (.inr e))⟩ (ButE.of_below (hb.mono hB.size))) _ (.inl rfl) _⟩
    · rw [decide_eq_false hz] at hund
      have HU := Lib.hid hund
      have HZ := Lib.hid hz
      clear hz hund
      gi_wp2_with (refine ⟨trivial, ?_⟩; gi_at_call 42; refine (CallsIn.inRound l (callsIn_wide.2 (HU.out _ hTA))).mono ?_; rintro e A2 ⟨rfl, hb⟩)
      have hs := hB.size
      exact ⟨others_below hb, ⟨hb.block _ (by omega), hb.block _ (by omega), hb.block _ (by omega)⟩,
        ⟨⟨⟨fun u hu => (List.mem_append.1 hu).elim (HP.out u) (fun h => by simp at h; subst h; exact HZ.out), boxed_below h0 hb⟩, boxed_below h1 hb⟩, boxed_below h2 hb⟩, hB.trans (ButE.of_below (hb.mono hB.size))⟩
  case done =>
    rintro D A hD ⟨⟨⟨⟨hp, h0⟩, h1⟩, h2⟩, hB⟩ hK
    have HD := Lib.hid (common_none hp)
    have hc2 := h2.cell
    have hf2 := h2.frozen
    clear hp
    gi_wp2
    have hK' := (KeepsOthers.setCell A ⟨W.heap.size + 2, 0, none⟩ (.int .i64 (-1))).same D _ hK rfl
    refine ⟨by simp, .inl ⟨_, _, rfl, run_takeDeferred hK', ?_⟩⟩
    have hc5 := (boxed_put (o' := .deferred none) (h2.set (.int .i64 (-1))) hK').cell
    refine ⟨.int .i64 (-1), ?_, by rw [HD.out], ?_⟩
    · simp [results, Tryd.f40, go_sem, hc5]
    · have hB2 : ButE (fun k => k = W.heap.size + 2 ∨ k = W.heap.size + 3) V.heap.size V (A.setCell ⟨W.heap.size + 2, 0, none⟩ (.int .i64 (-1))) :=
        ButE.setCell ⟨hB.os, hB.tape, hB.output, hB.size, fun k hk he => hB.block k hk (fun e => he (.inr e))⟩ _ (.inl rfl) _
      exact h4.below.trans ((hB2.grown (grownBy_putObj' _ D _) hB2.size (fun k e => by cases e; exact .inr hD)).below (by omega) (by omega))
  case stop =>
    rintro D pre A hD hpre ⟨⟨z, p, rfl, hp, hz, h1⟩, hB⟩ hK
    have HD := Lib.hid (common_some hpre hp hz)
    clear hp hz
    gi_wp2
    refine ⟨by simp, .inl ⟨_, _, rfl, run_takeDeferred hK, ?_⟩⟩
    have hc5 := (boxed_put (o' := .deferred none) h1 hK).cell
    refine ⟨.int .i64 z, ?_, by rw [HD.out], h4.below.trans ((hB.grown (grownBy_putObj' _ D _) hB.size (fun k e => by cases e; exact .inr hD)).below (by omega) (by omega))⟩
    simp [results, Tryd.f40, go_sem, hc5]

theorem common_any (x y w : Int) (W : World) (hT : Tab W) :
    Calls Tryd.prog 40 #[.int .i64 x, .int .i64 y, .int .i64 w] W fun e W' => e = .returned (.int .i64 (common x y w)) ∧ Below W.heap.size W W' :=
  callsIn_wide.1 (common_in x y w W hT)

end Go.Proofs.YtgfplpkmcdpbeaaDoor
