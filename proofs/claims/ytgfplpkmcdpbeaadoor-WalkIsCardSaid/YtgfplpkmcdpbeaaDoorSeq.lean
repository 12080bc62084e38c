/- What is made out of the way up: walk.up, slices.AppendSeq, slices.Collect, walk.Direct. -/
import Derived.Test.YtgfplpkmcdpbeaaDoorUps
namespace Go.Proofs.YtgfplpkmcdpbeaaDoor
open Go.RowKit Go.Shelf

attribute [local go_sem] Oper.semAt_some

/-- Below block B, but for block Bx, the world is as it was. -/
structure But (Bx B : Nat) (w w' : World) : Prop where
  os : w'.os = w.os
  tape : w'.tape = w.tape
  output : w'.output = w.output
  size : w.heap.size ≤ w'.heap.size
  block : ∀ k, k < B → k ≠ Bx → w'.heap[k]? = w.heap[k]?
theorem But.refl (Bx B : Nat) (w : World) : But Bx B w w := ⟨rfl, rfl, rfl, Nat.le_refl _, fun _ _ _ => rfl⟩
theorem But.of_below {Bx B : Nat} {w w' : World} (h : Below B w w') : But Bx B w w' := ⟨h.os, h.tape, h.output, h.size, fun k hk _ => h.block k hk⟩
theorem But.trans {Bx B : Nat} {a b c : World} (h : But Bx B a b) (k : But Bx B b c) : But Bx B a c :=
  ⟨k.os.trans h.os, k.tape.trans h.tape, k.output.trans h.output, Nat.le_trans h.size k.size, fun i hi hx => (k.block i hi hx).trans (h.block i hi hx)⟩
theorem But.grown {Bx B : Nat} {a w w' : World} {row : Option Nat} (h : But Bx B a w) (hg : w.grownBy w' row) (hB : B ≤ w.heap.size) (hr : ∀ k, row = some k → k = Bx ∨ B ≤ k) : But Bx B a w' :=
  h.trans ⟨hg.os, hg.tape, hg.output, hg.size, fun k hk hx => hg.block k (by omega) (fun e => by have := hr k e.symm; omega)⟩
theorem But.below {Bx B B' : Nat} {w w' : World} (h : But Bx B w w') (hB : B' ≤ B) (hx : B' ≤ Bx) : Below B' w w' :=
  ⟨h.os, h.tape, h.output, h.size, fun k hk => h.block k (by omega) (by omega)⟩
theorem But.tab {Bx B : Nat} {w w' : World} (h : But Bx B w w') (hT : Tab w) (hB : 1 < B) (hx : Bx ≠ 1) : Tab w' := hT.block (h.block 1 hB (fun e => hx e.symm))
theorem Tab.lt {W : World} (hT : Tab W) : 1 < W.heap.size := by
  have := hT.cell 0 (by omega)
  exact World.block_lt_of_cell? W ⟨1, 0, none⟩ this

def eInts (l : List Int) : List Value := l.map (Value.int .i64)

/-- A box of the caller's, and the row that it holds, abide what the statement and the iterator do. -/
theorem holds_row {Bx n n₀ Bs : Nat} {t e : TypeId} (hx : Bx < n₀) (hs : n₀ ≤ Bs) (f : List Int → List Value) : Holds Bx n (fun pre W => ∃ v, Boxed W Bs t v ∧ W.ownsRow n₀ e 1 v (f pre).length (f pre)) := by
  rintro s A B row ⟨v, hv, hr⟩ hg hrow
  refine ⟨v, hv.kept hg (fun e' => ?_), hr.kept hg ?_⟩
  · rcases hrow Bs e'.symm with h | ⟨_, o, ho, hc⟩
    · omega
    · rw [show A.heap[Bs]? = _ from hv] at ho; cases ho; cases hc
  · rcases hr.2 with ⟨rfl, _⟩ | ⟨g, cap, cur, rfl, hbg, hgb, _⟩
    · exact .inl rfl
    · refine .inr fun e' => ?_
      rcases hrow g (by simpa [Value.ownBlock] using e'.symm) with h | ⟨_, o, ho, hc⟩
      · omega
      · rw [hgb] at ho; cases ho; cases hc
theorem holds_but {Bx n n₀ : Nat} (w0 : World) (h0 : n₀ ≤ w0.heap.size) (hn : n₀ ≤ n) : Holds Bx n (fun (_ : List Int) W => But Bx n₀ w0 W) := by
  rintro s A B row h hg hrow
  refine h.grown hg (Nat.le_trans h0 h.size) (fun k e => ?_)
  rcases hrow k e with h | ⟨h, _⟩
  · exact .inl h
  · exact .inr (by omega)
theorem Holds.and {β : Type} {Bx n : Nat} {I I' : β → World → Prop} (h : Holds Bx n I) (h' : Holds Bx n I') : Holds Bx n (fun s W => I s W ∧ I' s W) := fun s A B row hs hg hr => ⟨h s A B row hs.1 hg hr, h' s A B row hs.2 hg hr⟩

theorem Tryd.info3 : (Tryd.prog.info? 3).map (fun i => (i.zero, i.size, i.bytes)) = some (some (.int .i64 0), 1, 8) := by kernel_rfl

theorem ups_len (w : Int) : ∀ k x, (ups w k x).length ≤ k
  | 0, _ => by simp [ups]
  | k + 1, x => by
    simp only [ups]
    split
    · have := ups_len w k (Parent x w)
      simp only [List.length_cons]
      omega
    · simp
theorem way_len (x w : Int) : (way x w).length ≤ 8 := by
  unfold way
  split
  · exact ups_len w 8 x
  · simp

set_option maxHeartbeats 1000000 in
theorem up_any (x w : Int) (W : World) :
    Calls Tryd.prog 52 #[.int .i64 x, .int .i64 w] W fun e W' => e = .returned (.func (.func 57) #[] #[.pointer (some ⟨W.heap.size, 0, none⟩), .pointer (some ⟨W.heap.size + 1, 0, none⟩)]) ∧ W' = (W.alloc (.cells #[.int .i64 x] 3)).alloc (.cells #[.int .i64 w] 3) := by
  go_enter Tryd.func52, Tryd.ntmps52
  go_wp2
  go_ret
  exact ⟨rfl, rfl⟩

set_option maxRecDepth 100000 in
set_option maxHeartbeats 2000000 in
theorem appendSeq_up (Bx Bw : Nat) (hne : Bx ≠ Bw) (hx1 : Bx ≠ 1) (x w : Int) (W : World) (hx : Boxed W Bx 3 (.int .i64 x)) (hw : Boxed W Bw 3 (.int .i64 w)) (hT : Tab W) :
    CallsIn Fence.wide 3 Tryd.prog 56 #[.slice none 0 0, .func (.func 57) #[] #[.pointer (some ⟨Bx, 0, none⟩), .pointer (some ⟨Bw, 0, none⟩)]] W fun e W' =>
      ∃ v, e = .returned v ∧ W'.ownsRow W.heap.size 3 1 v (eInts (way x w)).length (eInts (way x w)) ∧ But Bx W.heap.size W W' := by
  obtain ⟨i0, hi, hz0, hz1, hz2⟩ := info_parts Tryd.info3
  have hlx := hx.lt
  have hlw := hw.lt
  have hl1 := hT.lt
  refine callsIn_of_wp_marks Tryd.func56 rfl trivial ?_ rfl
  simp only [Tryd.ntmps56, List.size_toArray, List.length_cons, List.length_nil, Nat.reduceAdd, Nat.reduceSub, Array.replicate_succ, Array.replicate_zero, List.push_toArray, List.append_toArray, List.nil_append, List.cons_append]
  gi_wp2
  have bS := Boxed.new W 30 (.slice none 0 0)
  refine rangeSeq (gf := 57) (lb := #[.pointer (some ⟨Bx, 0, none⟩), .pointer (some ⟨Bw, 0, none⟩)]) rfl (enters_of Tryd.func57 (by kernel_rfl) rfl) (encs := fun y : Int => #[.int .i64 y]) (Bx := Bx) (Kp := Keep Bx Bw) (L := way x w)
    ⟨_, hx.alloc _, rfl⟩
    (fun o1 o2 => up_iter Bx Bw hne hx1 x w _ (((hx.alloc _).alloc _).alloc _) (((hw.alloc _).alloc _).alloc _) (hT.block (((Below.heap_alloc _ _ _ (by simp only [World.size_alloc]; omega)).trans (Below.heap_alloc _ _ _ (by simp only [World.size_alloc]; omega))).trans (Below.heap_alloc _ _ _ (by omega)))))
    (fun _ => rfl) Keep.trans (Keep.putObj (n := (W.alloc (.cells #[.slice none 0 0] 30)).heap.size) (by simp only [World.size_alloc]; omega) (by simp only [World.size_alloc]; omega) (by simp only [World.size_alloc]; omega))
    (fun pre A => (∃ v, Boxed A W.heap.size 30 v ∧ A.ownsRow W.heap.size 3 1 v (eInts pre).length (eInts pre)) ∧ But Bx W.heap.size W A)
    (fun _ _ => False)
    ((holds_row hlx (Nat.le_refl _) eInts).and (holds_but W (Nat.le_refl _) (by simp)))
    (fun _ _ _ _ h _ _ => h)
    ⟨⟨_, bS, World.ownsRow_nil _ _ _ _⟩, But.of_below ((Below.refl _ W).alloc (Nat.le_refl _) _)⟩
    (fun y => ?a1) ?assign ?body ?done ?stop
  case a1 => exact { tmps := #[.slice none 0 0, .func (.func 57) #[] #[.pointer (some ⟨Bx, 0, none⟩), .pointer (some ⟨Bw, 0, none⟩)], .pointer (some ⟨W.heap.size, 0, none⟩), undef, .slice none 0 0, .int .i64 y, .func (.func 57) #[] #[.pointer (some ⟨Bx, 0, none⟩), .pointer (some ⟨Bw, 0, none⟩)], .int .i64 y, undef, undef, undef, undef, undef], defers := [] }
  case assign =>
    intro l y A K hK
    gi_wp2
    exact hK
  case body =>
    rintro l pre y A hpre ⟨⟨v, hv, hrow⟩, hB⟩
    have hc := hv.cell
    have hln : (eInts pre).length ≤ 8 := by
      have h1 := way_len x w
      have h2 := hpre.length_le
      simp [eInts] at h2 ⊢
      omega
    have hsz := hB.size
    gi_wp2_with (gi_at_builtin; refine wpListIn_append_own _ rfl _ _ 30 rfl W.heap.size 3 i0 (.int .i64 0) 1 8 Tryd.underlying30 hi hz0 hz1 hz2 rfl (by decide) _ _ _ rfl (hrow.alloc _) ⟨A.heap.size, 0, none⟩ 1 1 [.int .i64 y] rfl rfl (cell_one_new _ _ _) (by simp [Value.oneCell']) (by unfold maxLen; omega) (by omega) (by simp only [World.size_alloc]; omega) ?_; intro v' w1 hown' hgrow _; obtain ⟨g', cap', rfl⟩ := ownsRow_succ hown'; obtain ⟨hv1, hv2, hr2, hk2, hb2⟩ := hv.appended (by decide) hrow hsz (Nat.le_refl _) hown' hgrow; have hc1 := hv1.cell; have hf1 := hv1.frozen)
    exact ⟨hk2, ⟨hb2.block _ hlx, hb2.block _ hlw, hb2.block _ hl1⟩, ⟨_, hv2, by simpa [eInts] using hr2⟩, hB.trans (But.of_below hb2)⟩
  case done =>
    rintro D A hD ⟨⟨v, hv, hrow⟩, hB⟩ hK
    have hc := hv.cell
    gi_wp2
    refine ⟨by simp, .inl ⟨_, _, rfl, run_takeDeferred hK, ?_⟩⟩
    exact ⟨_, results_tmp rfl _ _ _, v, rfl, ownsRow_putObj hrow _ hK rfl, hB.grown (grownBy_putObj' A D _) hB.size (fun k e => by cases e; exact .inr (by simp only [World.size_alloc] at hD; omega))⟩
  case stop =>
    rintro D pre A _ _ h _
    exact h.elim

set_option maxRecDepth 100000 in
set_option maxHeartbeats 2000000 in
theorem collect_up (Bx Bw : Nat) (hne : Bx ≠ Bw) (hx1 : Bx ≠ 1) (x w : Int) (W : World) (hx : Boxed W Bx 3 (.int .i64 x)) (hw : Boxed W Bw 3 (.int .i64 w)) (hT : Tab W) :
    Calls Tryd.prog 51 #[.func (.func 57) #[] #[.pointer (some ⟨Bx, 0, none⟩), .pointer (some ⟨Bw, 0, none⟩)]] W fun e W' =>
      ∃ v, e = .returned v ∧ W'.ownsRow W.heap.size 3 1 v (eInts (way x w)).length (eInts (way x w)) ∧ But Bx W.heap.size W W' := by
  have H := Lib.hid (callsIn_wide.1 (appendSeq_up Bx Bw hne hx1 x w W hx hw hT))
  go_enter Tryd.func51, Tryd.ntmps51
  go_wp2_with (go_at_call 56; refine (H.out).mono ?_; rintro e w' ⟨v, rfl, hrow, hB⟩)
  go_ret
  exact ⟨v, rfl, hrow, hB⟩

/-- A slice of whole numbers that reads as a list. -/
structure Rd (W : World) (v : Value) (l : List Int) : Prop where
  out : ∃ A c, v = .slice A l.length c ∧ l.length ≤ c ∧ c ≤ 9223372036854775807 ∧ (0 < l.length → ∃ b o, A = some ⟨b, o, none⟩ ∧ ∀ i (h : i < l.length), W.cell? ⟨b, o + i, none⟩ = some (.int .i64 l[i]))

theorem Rd.keep {W W' : World} {v : Value} {l : List Int} (h : Rd W v l) (hb : Below W.heap.size W W') : Rd W' v l := by
  obtain ⟨A, c, e, hc, hm, hr⟩ := h
  refine ⟨A, c, e, hc, hm, fun hp => ?_⟩
  obtain ⟨b, o, ea, hcell⟩ := hr hp
  exact ⟨b, o, ea, fun i hi => (hb.cell (p := ⟨b, o + i, none⟩) (World.block_lt_of_cell? W ⟨b, o + i, none⟩ (hcell i hi))).trans (hcell i hi)⟩

set_option maxHeartbeats 2000000 in
theorem direct_any (x w : Int) (W : World) (hT : Tab W) :
    Calls Tryd.prog 36 #[.int .i64 x, .int .i64 w] W fun e W' => ∃ v, e = .returned v ∧ Rd W' v (way x w).tail ∧ Below W.heap.size W W' := by
  have hl1 := hT.lt
  have bx : Boxed ((W.alloc (.cells #[.int .i64 x] 3)).alloc (.cells #[.int .i64 w] 3)) W.heap.size 3 (.int .i64 x) := (Boxed.new W 3 _).alloc _
  have bw : Boxed ((W.alloc (.cells #[.int .i64 x] 3)).alloc (.cells #[.int .i64 w] 3)) (W.heap.size + 1) 3 (.int .i64 w) := by
    have := Boxed.new (W.alloc (.cells #[.int .i64 x] 3)) 3 (.int .i64 w)
    rwa [World.size_alloc] at this
  have hT2 : Tab ((W.alloc (.cells #[.int .i64 x] 3)).alloc (.cells #[.int .i64 w] 3)) := hT.block ((Below.heap_alloc _ _ _ (by simp only [World.size_alloc]; omega)).trans (Below.heap_alloc _ _ _ hl1))
  have H := Lib.hid (collect_up W.heap.size (W.heap.size + 1) (by omega) (by omega) x w _ bx bw hT2)
  clear bx bw hT2
  have hlen := way_len x w
  generalize way x w = L at *
  go_enter Tryd.func36, Tryd.ntmps36
  go_wp2_with (go_at_call 52; refine (up_any _ _ _).mono ?_; rintro e w' ⟨rfl, rfl⟩)
  refine (H.out).mono ?_
  rintro e w' ⟨v, rfl, hrow, hB⟩
  have hel : (eInts L).length = L.length := by simp [eInts]
  rw [hel] at hrow
  rcases hrow.2 with ⟨rfl, h0⟩ | ⟨g, cap, cur, rfl, hb, hg, hnc, hcm, hcs, htk⟩
  · have hL : L = [] := List.eq_nil_of_length_eq_zero h0
    subst hL
    clear hel h0 hrow
    go_wp2
    go_ret
    exact ⟨_, rfl, ⟨none, 0, rfl, by simp, by omega, fun h => by simp at h⟩, ((Below.refl _ W).alloc (Nat.le_refl _) _ |>.alloc (by simp) _).trans (hB.below (by simp only [World.size_alloc]; omega) (Nat.le_refl _))⟩
  · have hB2 : Below W.heap.size W w' := ((Below.refl _ W).alloc (Nat.le_refl _) _ |>.alloc (by simp) _).trans (hB.below (by simp only [World.size_alloc]; omega) (Nat.le_refl _))
    have hcell : ∀ i (h : i < L.length), w'.cell? ⟨g, i, none⟩ = some (.int .i64 L[i]) := fun i h => by
      have ht := congrArg (fun l : List Value => l[i]?) htk
      have hi' : i < L.length * 1 := by omega
      simp only [List.getElem?_take, if_pos hi', Array.getElem?_toList] at ht
      simp [World.cell?, hg, ht, eInts, h]
    have hm : cap ≤ 9223372036854775807 := by simpa [maxLen] using hcm
    have HCELL := Lib.hid hcell
    clear hcell hB htk hg hcs hcm H hrow hel
    cases L with
    | nil =>
      go_wp2
      go_ret
      exact ⟨_, rfl, ⟨_, cap, rfl, by simp, hm, fun h => by simp at h⟩, hB2⟩
    | cons a t =>
      simp only [List.length_cons] at hnc hlen ⊢
      by_cases h1 : cap = 1
      · have ht : t = [] := List.eq_nil_of_length_eq_zero (by omega)
        subst ht h1
        go_wp2
        go_ret
        exact ⟨_, rfl, ⟨_, _, rfl, by simp, by omega, fun h => by simp at h⟩, hB2⟩
      · have h1' : 1 < cap := by omega
        clear h1
        go_wp2
        go_ret
        refine ⟨_, rfl, ⟨_, cap - 1, ?_, ?_, by omega, fun h => ⟨g, 1, rfl, fun i hi => ?_⟩⟩, hB2⟩
        · rfl
        · simp only [List.tail_cons]; omega
        · have hi2 : i < t.length := by simpa using hi
          have := HCELL.out (i + 1) (by simp only [List.length_cons]; omega)
          rw [show 1 + i = i + 1 by omega, this]
          simp

end Go.Proofs.YtgfplpkmcdpbeaaDoor
