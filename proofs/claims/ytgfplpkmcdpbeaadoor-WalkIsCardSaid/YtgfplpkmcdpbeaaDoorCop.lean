/- walk.Copath, walk.Under, walk.Common: loops of the program's own over the way up. -/
import Derived.Test.YtgfplpkmcdpbeaaDoorSeq
namespace Go.Proofs.YtgfplpkmcdpbeaaDoor
open Go.RowKit Go.Shelf

attribute [local go_sem] Oper.semAt_some

/-- Below block B, but for the blocks of E, the world is as it was. -/
structure ButE (E : Nat → Prop) (B : Nat) (w w' : World) : Prop where
  os : w'.os = w.os
  tape : w'.tape = w.tape
  output : w'.output = w.output
  size : w.heap.size ≤ w'.heap.size
  block : ∀ k, k < B → ¬ E k → w'.heap[k]? = w.heap[k]?
theorem ButE.refl (E : Nat → Prop) (B : Nat) (w : World) : ButE E B w w := ⟨rfl, rfl, rfl, Nat.le_refl _, fun _ _ _ => rfl⟩
theorem ButE.of_below {E : Nat → Prop} {B : Nat} {w w' : World} (h : Below B w w') : ButE E B w w' := ⟨h.os, h.tape, h.output, h.size, fun k hk _ => h.block k hk⟩
theorem ButE.trans {E : Nat → Prop} {B : Nat} {a b c : World} (h : ButE E B a b) (k : ButE E B b c) : ButE E B a c :=
  ⟨k.os.trans h.os, k.tape.trans h.tape, k.output.trans h.output, Nat.le_trans h.size k.size, fun i hi hx => (k.block i hi hx).trans (h.block i hi hx)⟩
theorem ButE.grown {E : Nat → Prop} {B : Nat} {a w w' : World} {row : Option Nat} (h : ButE E B a w) (hg : w.grownBy w' row) (hB : B ≤ w.heap.size) (hr : ∀ k, row = some k → E k ∨ B ≤ k) : ButE E B a w' :=
  h.trans ⟨hg.os, hg.tape, hg.output, hg.size, fun k hk hx => hg.block k (by omega) (fun e => (hr k e.symm).elim hx (fun h => by omega))⟩
theorem ButE.setCell {E : Nat → Prop} {B : Nat} {a w : World} (h : ButE E B a w) (b : Nat) (hb : E b) (v : Value) : ButE E B a (w.setCell ⟨b, 0, none⟩ v) :=
  h.trans ⟨rfl, rfl, rfl, by simp [World.setCell], fun k _ hx => Below.heap_setCell _ _ _ _ (fun e => hx (by rw [e]; exact hb))⟩
theorem ButE.dr {E : Nat → Prop} {B : Nat} {a w w' : World} (h : ButE E B a w) (hd : Dr w w') : ButE E B a w' := by
  have hg := dr_grownBy hd none
  exact h.trans ⟨hg.os, hg.tape, hg.output, hg.size, fun k _ _ => by rw [dr_heap hd]⟩
theorem ButE.below {E : Nat → Prop} {B B' : Nat} {w w' : World} (h : ButE E B w w') (hB : B' ≤ B) (hx : ∀ k, E k → B' ≤ k) : Below B' w w' :=
  ⟨h.os, h.tape, h.output, h.size, fun k hk => h.block k (by omega) (fun e => by have := hx k e; omega)⟩
theorem holds_butE {E : Nat → Prop} {Bx n n₀ : Nat} (w0 : World) (h0 : n₀ ≤ w0.heap.size) (hn : n₀ ≤ n) (hx : E Bx) : Holds Bx n (fun (_ : List Int) W => ButE E n₀ w0 W) := by
  rintro s A B row h hg hrow
  refine h.grown hg (Nat.le_trans h0 h.size) (fun k e => ?_)
  rcases hrow k e with h | ⟨h, _⟩
  · exact .inl (h ▸ hx)
  · exact .inr (by omega)
theorem holds_box {Bx n B : Nat} {t : TypeId} (v : Value) (hx : B ≠ Bx) : Holds Bx n (fun (_ : List Int) W => Boxed W B t v) := by
  rintro s A C row hv hg hrow
  refine hv.kept hg (fun e' => ?_)
  rcases hrow B e'.symm with h | ⟨_, o, ho, hc⟩
  · omega
  · rw [show A.heap[B]? = _ from hv] at ho; cases ho; cases hc
theorem holds_row2 {Bx n n₀ Bs : Nat} {t e : TypeId} (hx : Bx < n₀) (hs : Bs ≠ Bx) (f : List Int → List Value) : Holds Bx n (fun pre W => ∃ v, Boxed W Bs t v ∧ W.ownsRow n₀ e 1 v (f pre).length (f pre)) := by
  rintro s A B row ⟨v, hv, hr⟩ hg hrow
  refine ⟨v, hv.kept hg (fun e' => ?_), hr.kept hg ?_⟩
  · rcases hrow Bs e'.symm with h | ⟨_, o, ho, hc⟩
    · omega
    · rw [show A.heap[Bs]? = _ from hv] at ho; cases ho; cases hc
  · rcases hr.2 with ⟨rfl, _⟩ | ⟨g, cap, cur, rfl, hbg, hgb, _⟩
    · exact .inl rfl
    · refine .inr fun e' => ?_
      rcases hrow g (by simpa [Value.ownBlock] using e'.symm) with h | ⟨_, o, ho, hc⟩
      · omega
      · rw [hgb] at ho; cases ho; cases hc

theorem appended2 {W w1 : World} {n₀ B : Nat} {t e : TypeId} {size : Nat} {v v' : Value} {k m : Nat} {xs ys : List Value} {tmp : Obj} {E : Nat → Prop}
    (hv : Boxed W B t v) (hte : t ≠ e) (hrow : W.ownsRow n₀ e size v k xs) (hn₀ : n₀ ≤ W.heap.size) (hE : E B)
    (hown' : w1.ownsRow n₀ e size v' m ys) (hgrow : (W.alloc tmp).grownBy w1 v.ownBlock) :
    Boxed w1 B t v ∧ Boxed (w1.setCell ⟨B, 0, none⟩ v') B t v' ∧ (w1.setCell ⟨B, 0, none⟩ v').ownsRow n₀ e size v' m ys ∧ KeepsOthers W (w1.setCell ⟨B, 0, none⟩ v') ∧ ButE E n₀ W (w1.setCell ⟨B, 0, none⟩ v') := by
  obtain ⟨h1, h2, h3, h4, -⟩ := hv.appended (n₀ := 0) hte (ownsRow_base0 hrow) (Nat.zero_le _) (Nat.zero_le _) (ownsRow_base0 hown') hgrow
  refine ⟨h1, h2, hown'.kept (grownBy_setCell' w1 B v') (.inr (h1.not_row hte hown').symm), h4, ?_⟩
  refine ButE.setCell ((ButE.of_below ((Below.refl n₀ W).alloc hn₀ tmp)).grown hgrow (by simp only [World.size_alloc]; omega) (fun j ej => ?_)) B hE v'
  rcases hrow.2 with ⟨rfl, _⟩ | ⟨g, cap, cur, rfl, hb, _, _⟩
  · simp [Value.ownBlock] at ej
  · obtain rfl : g = j := by simpa [Value.ownBlock] using ej
    exact .inr hb
where
  ownsRow_base0 {W : World} {base : Nat} {e : TypeId} {size : Nat} {v : Value} {k : Nat} {xs : List Value} (h : W.ownsRow base e size v k xs) : W.ownsRow 0 e size v k xs := by
    refine ⟨h.1, ?_⟩
    rcases h.2 with hn | ⟨g, cap, cur, hv, _, rest⟩
    · exact .inl hn
    · exact .inr ⟨g, cap, cur, hv, Nat.zero_le _, rest⟩

/-- What an owned row of whole numbers reads as. -/
theorem own_rd {W : World} {base : Nat} {v : Value} {l : List Int} (h : W.ownsRow base 3 1 v (eInts l).length (eInts l)) : Rd W v l := by
  have hel : (eInts l).length = l.length := by simp [eInts]
  rw [hel] at h
  rcases h.2 with ⟨rfl, h0⟩ | ⟨g, cap, cur, rfl, hb, hg, hnc, hcm, hcs, htk⟩
  · rw [List.eq_nil_of_length_eq_zero h0]
    exact ⟨none, 0, rfl, by simp, by omega, fun h => by simp at h⟩
  · refine ⟨some ⟨g, 0, none⟩, cap, rfl, hnc, by simpa [maxLen] using hcm, fun _ => ⟨g, 0, rfl, fun i h => ?_⟩⟩
    have ht := congrArg (fun l : List Value => l[i]?) htk
    have hi' : i < l.length * 1 := by omega
    simp only [List.getElem?_take, if_pos hi', Array.getElem?_toList] at ht
    simp [World.cell?, hg, ht, eInts, h]

/-- What stands beside the nodes of a way. -/
def cops (w : Int) (l : List Int) : List Int := (l.map fun y => Sibling y w).filter fun s => decide (0 ≤ s)
theorem cops_hit {w : Int} (l : List Int) {y : Int} (h : 0 ≤ Sibling y w) : cops w (l ++ [y]) = cops w l ++ [Sibling y w] := by simp [cops, h]
theorem cops_miss {w : Int} (l : List Int) {y : Int} (h : Sibling y w < 0) : cops w (l ++ [y]) = cops w l := by simp [cops]; omega
theorem cops_len (w : Int) (l : List Int) : (cops w l).length ≤ l.length := by
  have := List.length_filter_le (fun s => decide (0 ≤ s)) (l.map fun y => Sibling y w)
  simpa [cops] using this

/-- Two boxes of a loop's own, and the iterator's two, laid in W. -/
structure Four (W V : World) (t0 t1 : TypeId) (v0 v1 : Value) (x w : Int) : Prop where
  b0 : Boxed V W.heap.size t0 v0
  b1 : Boxed V (W.heap.size + 1) t1 v1
  bx : Boxed V (W.heap.size + 2) 3 (.int .i64 x)
  bw : Boxed V (W.heap.size + 3) 3 (.int .i64 w)
  size : V.heap.size = W.heap.size + 4
  below : Below W.heap.size W V
theorem four (W : World) (t0 t1 : TypeId) (v0 v1 : Value) (x w : Int) : Four W ((((W.alloc (.cells #[v0] t0)).alloc (.cells #[v1] t1)).alloc (.cells #[.int .i64 x] 3)).alloc (.cells #[.int .i64 w] 3)) t0 t1 v0 v1 x w := by
  have b1 := Boxed.new (W.alloc (.cells #[v0] t0)) t1 v1
  have bx := Boxed.new ((W.alloc (.cells #[v0] t0)).alloc (.cells #[v1] t1)) 3 (.int .i64 x)
  have bw := Boxed.new (((W.alloc (.cells #[v0] t0)).alloc (.cells #[v1] t1)).alloc (.cells #[.int .i64 x] 3)) 3 (.int .i64 w)
  simp only [World.size_alloc] at b1 bx bw
  exact ⟨(((Boxed.new W t0 v0).alloc _).alloc _).alloc _, (b1.alloc _).alloc _, bx.alloc _, bw, by simp only [World.size_alloc], ((((Below.refl _ W).alloc (Nat.le_refl _) _).alloc (by simp) _).alloc (by simp only [World.size_alloc]; omega) _).alloc (by simp only [World.size_alloc]; omega) _⟩

/-- The iterator in the world in which the loop begins. -/
theorem up_iter4 {W V : World} {t0 t1 : TypeId} {v0 v1 : Value} {x w : Int} (h : Four W V t0 t1 v0 v1 x w) (hT : Tab V) (hl1 : 1 < W.heap.size) (o1 o2 : Obj) :
    IterAt Tryd.prog 57 #[.pointer (some ⟨W.heap.size + 2, 0, none⟩), .pointer (some ⟨W.heap.size + 3, 0, none⟩)] (fun y : Int => #[.int .i64 y]) (W.heap.size + 2) (Keep (W.heap.size + 2) (W.heap.size + 3)) (way x w) ((V.alloc o1).alloc o2) :=
  up_iter (W.heap.size + 2) (W.heap.size + 3) (by omega) (by omega) x w _ ((h.bx.alloc _).alloc _) ((h.bw.alloc _).alloc _)
    (hT.block ((Below.heap_alloc _ _ _ (by have := h.size; simp only [World.size_alloc]; omega)).trans (Below.heap_alloc _ _ _ (by have := h.size; omega))))

theorem keep_of_butE {E : Nat → Prop} {Bx Bw n : Nat} {A B : World} (h : ButE E n A B) (hx : Bx < n) (hw : Bw < n) (h1 : 1 < n) (ex : ¬ E Bx) (ew : ¬ E Bw) (e1 : ¬ E 1) : Keep Bx Bw A B :=
  ⟨h.block _ hx ex, h.block _ hw ew, h.block _ h1 e1⟩

theorem boxed_dr {A B : World} {b : Nat} {t : TypeId} {v : Value} (h : Boxed A b t v) (hd : Dr A B) : Boxed B b t v := by
  unfold Boxed
  rw [dr_heap hd]
  exact h
theorem row_dr {A B : World} {base : Nat} {e : TypeId} {size n : Nat} {v : Value} {xs : List Value} (h : A.ownsRow base e size v n xs) (hd : Dr A B) : B.ownsRow base e size v n xs :=
  h.kept (dr_grownBy hd none) (by cases v.ownBlock <;> simp)
theorem others_dr {A B : World} (hd : Dr A B) : KeepsOthers A B := ⟨by rw [dr_heap hd]; exact Nat.le_refl _, fun k o h _ => by rw [dr_heap hd]; exact h⟩

set_option maxRecDepth 100000 in
set_option maxHeartbeats 4000000 in
theorem copath_in (x w : Int) (W : World) (hT : Tab W) :
    CallsIn Fence.wide 3 Tryd.prog 38 #[.int .i64 x, .int .i64 w] W fun e W' => ∃ v, e = .returned v ∧ Rd W' v (cops w (way x w)) ∧ Below W.heap.size W W' := by
  obtain ⟨i0, hi, hz0, hz1, hz2⟩ := info_parts Tryd.info3
  have hl1 := hT.lt
  refine callsIn_of_wp_marks Tryd.func38 rfl trivial ?_ rfl
  simp only [Tryd.ntmps38, List.size_toArray, List.length_cons, List.length_nil, Nat.reduceAdd, Nat.reduceSub, Array.replicate_succ, Array.replicate_zero, List.push_toArray, List.append_toArray, List.nil_append, List.cons_append]
  gi_wp2_with (refine ⟨trivial, ?_⟩; gi_at_call 52; refine (callsIn_wide.2 (up_any _ _ _)).mono ?_; rintro e w' ⟨rfl, rfl⟩)
  have h4 := four W 3 30 (.int .i64 w) (.slice none 0 0) x w
  generalize hV : (((W.alloc (.cells #[.int .i64 w] 3)).alloc (.cells #[.slice none 0 0] 30)).alloc (.cells #[.int .i64 x] 3)).alloc (.cells #[.int .i64 w] 3) = V at h4 ⊢
  clear hV
  have hTV : Tab V := hT.block (h4.below.block 1 hl1)
  have hsz := h4.size
  refine rangeSeq (gf := 57) (lb := #[.pointer (some ⟨W.heap.size + 2, 0, none⟩), .pointer (some ⟨W.heap.size + 3, 0, none⟩)]) rfl (enters_of Tryd.func57 (by kernel_rfl) rfl) (encs := fun y : Int => #[.int .i64 y]) (Bx := W.heap.size + 2) (Kp := Keep (W.heap.size + 2) (W.heap.size + 3)) (L := way x w)
    ⟨_, h4.bx, rfl⟩ (up_iter4 h4 hTV hl1) (fun _ => rfl) Keep.trans (Keep.putObj (by omega) (by omega) (by omega))
    (fun pre A => ((∃ v, Boxed A (W.heap.size + 1) 30 v ∧ A.ownsRow V.heap.size 3 1 v (eInts (cops w pre)).length (eInts (cops w pre))) ∧ Boxed A W.heap.size 3 (.int .i64 w)) ∧ ButE (fun k => k = W.heap.size + 1 ∨ k = W.heap.size + 2) V.heap.size V A)
    (fun _ _ => False)
    (((holds_row2 (by omega) (by omega) (fun pre => eInts (cops w pre))).and (holds_box _ (by omega))).and (holds_butE V (Nat.le_refl _) (Nat.le_refl _) (.inr rfl)))
    (fun _ _ _ _ h _ _ => h)
    ⟨⟨⟨_, h4.b1, World.ownsRow_nil _ _ _ _⟩, h4.b0⟩, ButE.refl _ _ _⟩
    (fun y => ?a1) ?assign ?body ?done ?stop
  case a1 => exact { tmps := #[.int .i64 x, .int .i64 w, undef, .pointer (some ⟨W.heap.size, 0, none⟩), .slice none 0 0, .pointer (some ⟨W.heap.size + 1, 0, none⟩), .int .i64 y, undef, .int .i64 x, .int .i64 w, .func (.func 57) #[] #[.pointer (some ⟨W.heap.size + 2, 0, none⟩), .pointer (some ⟨W.heap.size + 3, 0, none⟩)], .int .i64 y, undef, undef, undef, undef, undef, undef, undef, undef, undef, undef], defers := [] }
  case assign =>
    intro l y A K hK
    gi_wp2
    exact hK
  case body =>
    rintro l pre y A hpre ⟨⟨⟨v, hv, hrow⟩, h0⟩, hB⟩
    have hc := hv.cell
    have hc0 := h0.cell
    have hln : (eInts (cops w pre)).length ≤ 8 := by
      have h1 := way_len x w
      have h2 := hpre.length_le
      have h3 := cops_len w pre
      simp [eInts] at h2 ⊢
      omega
    have hTA : Tab A := hTV.block (hB.block 1 (by omega) (by omega))
    have hsA := hB.size
    obtain ⟨z, hz⟩ : ∃ z, Sibling y w = z := ⟨_, rfl⟩
    have hsib := fun A2 (h : Tab A2) => sibling_any y w A2 h
    rw [hz] at hsib
    have HS := Lib.hid hsib
    clear hsib
    by_cases hs : 0 ≤ z
    · have hcp : cops w (pre ++ [y]) = cops w pre ++ [z] := by rw [cops_hit pre (by omega), hz]
      have HCP := Lib.hid hcp
      clear hcp hz
      gi_wp2_with (first
        | (refine ⟨trivial, ?_⟩; gi_at_call 30; refine (CallsIn.inRound l (callsIn_wide.2 (HS.out _ hTA))).mono ?_; rintro e A2 ⟨rfl, hd⟩; have hv2 := boxed_dr hv hd; have hrow2 := row_dr hrow hd; have h02 := boxed_dr h0 hd; have hB2 := hB.dr hd; have hs2 := hB2.size; have hc2 := hv2.cell; have hko := others_dr hd; clear hc hc0)
        | (gi_at_builtin; refine wpListIn_append_own _ rfl _ _ 30 rfl V.heap.size 3 i0 (.int .i64 0) 1 8 Tryd.underlying30 hi hz0 hz1 hz2 rfl (by decide) _ _ _ rfl (hrow2.alloc _) ⟨A2.heap.size, 0, none⟩ 1 1 [.int .i64 z] rfl rfl (cell_one_new _ _ _) (by simp [Value.oneCell']) (by unfold maxLen; omega) (by omega) (by simp only [World.size_alloc]; omega) ?_; intro v' w1 hown' hgrow _; obtain ⟨g', cap', rfl⟩ := ownsRow_succ hown'; obtain ⟨hv3, hv4, hr4, hk4, hb4⟩ := appended2 (E := fun k => k = W.heap.size + 1) hv2 (by decide) hrow2 hs2 rfl hown' hgrow; have hc3 := hv3.cell; have hf3 := hv3.frozen))
      have hall := ((ButE.refl (fun k => k = W.heap.size + 1) V.heap.size A).dr hd).trans hb4
      exact ⟨hko.trans hk4, keep_of_butE hall (by omega) (by omega) (by omega) (by omega) (by omega) (by omega), ⟨⟨_, hv4, by rw [HCP.out]; simpa [eInts] using hr4⟩, (hb4.block _ (by omega) (by omega)).trans h02⟩,
        hB2.trans ⟨hb4.os, hb4.tape, hb4.output, hb4.size, fun k hk he => hb4.block k hk (fun e => he (.inl e))⟩⟩
    · have hcp : cops w (pre ++ [y]) = cops w pre := cops_miss pre (by omega)
      have HCP := Lib.hid hcp
      clear hcp hz
      gi_wp2_with (refine ⟨trivial, ?_⟩; gi_at_call 30; refine (CallsIn.inRound l (callsIn_wide.2 (HS.out _ hTA))).mono ?_; rintro e A2 ⟨rfl, hd⟩; have hv2 := boxed_dr hv hd; have hrow2 := row_dr hrow hd; have h02 := boxed_dr h0 hd; have hB2 := hB.dr hd; have hko := others_dr hd; clear hc hc0)
      have hall := (ButE.refl (fun _ => False) V.heap.size A).dr hd
      exact ⟨hko, keep_of_butE hall (by omega) (by omega) (by omega) (fun h => h) (fun h => h) (fun h => h), ⟨⟨v, hv2, by rw [HCP.out]; exact hrow2⟩, h02⟩, hB2⟩
  case done =>
    rintro D A hD ⟨⟨⟨v, hv, hrow⟩, h0⟩, hB⟩ hK
    have hc := hv.cell
    have hrd := own_rd (ownsRow_putObj hrow (.deferred none) hK rfl)
    gi_wp2
    refine ⟨by simp, .inl ⟨_, _, rfl, run_takeDeferred hK, ?_⟩⟩
    exact ⟨_, results_tmp rfl _ _ _, v, rfl, hrd, h4.below.trans ((hB.grown (grownBy_putObj' A D _) hB.size (fun k e => by cases e; exact .inr hD)).below (by omega) (by omega))⟩
  case stop =>
    rintro D pre A _ _ h _
    exact h.elim

end Go.Proofs.YtgfplpkmcdpbeaaDoor
