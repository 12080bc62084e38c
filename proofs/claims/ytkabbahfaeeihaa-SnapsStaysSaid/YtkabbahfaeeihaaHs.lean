/- Rows of the frame's own, among its boxes (entries 1000 + the elements' type): literals, appends, readings. -/
import Derived.Test.YtkabbahfaeeihaaHl
namespace Go.Proofs.Ytkabbahfaeeihaa.Q
open Go.RowKit Go.Proofs.YtkabbahfaeeihaaW.PrintWords Go.Proofs.YtkabbahfaeeihaaW.PrintLast Go.Proofs.YtkabbahfaeeihaaW.PrintMore
set_option linter.unusedVariables false
set_option linter.unusedSimpArgs false

/-- The row v is the frame's own: its elements' cells are cs; its block is among L. -/
structure Ar (w : World) (L : List Box) (W : World) (e sz : Nat) (v : Value) (cs : List (List Value)) : Prop where
  row : (Kd.raw sz).R e W w.heap.size (fun _ => True) v cs
  inL : ∀ k, v.ownBlock = some k → ∃ u, (k, u, 1000 + e) ∈ L
theorem arr_fits (cur : Array Value) (e : Nat) : Fits (.agg cur) (1000 + e) := ⟨rfl, fun h => by omega, fun h => by omega⟩
theorem mod1000 {e : Nat} (he : e < 1000) : (1000 + e) % 1000 = e := by omega
theorem Fr.uniq {w W : World} {L : List Box} (h : Fr w L W) {g t t' : Nat} {u u' : Value} (h1 : (g, u, t) ∈ L) (h2 : (g, u', t') ∈ L) : u = u' ∧ t = t' := by
  have hn := h.nd
  clear h
  induction L with
  | nil => cases h1
  | cons b L ih =>
    rw [List.map_cons, List.nodup_cons] at hn
    rcases List.mem_cons.1 h1 with e1 | m1 <;> rcases List.mem_cons.1 h2 with e2 | m2
    · rw [← e1] at e2; cases e2; exact ⟨rfl, rfl⟩
    · exact absurd (List.mem_map.2 ⟨_, m2, rfl⟩) (e1 ▸ hn.1)
    · exact absurd (List.mem_map.2 ⟨_, m1, rfl⟩) (e2 ▸ hn.1)
    · exact ih m1 m2 hn.2
theorem Ar.nil (w : World) (L : List Box) (W : World) (e sz : Nat) : Ar w L W e sz (.slice none 0 0) [] := ⟨Kd.R_nil _ _ _ _ _, fun k hk => by simp [Value.ownBlock] at hk⟩
theorem Ar.mv {w W W' : World} {L L' : List Box} {e sz : Nat} {v : Value} {cs : List (List Value)} (h : Ar w L W e sz v cs) (F : Fr w L W) (F' : Fr w L' W') (hs : ∀ b ∈ L, b.2.2 = 1000 + e → b ∈ L') : Ar w L' W' e sz v cs := by
  refine ⟨Kd.R_mono (Kd.R_move (Kd.R_tight rfl h.row) (fun k hk => ?_)) (fun _ _ => trivial), fun k hk => ?_⟩
  · obtain ⟨u, hu⟩ := h.inL k hk.symm
    rw [F.at2 hu, F'.at2 (hs _ hu rfl)]
  · obtain ⟨u, hu⟩ := h.inL k hk
    exact ⟨u, hs _ hu rfl⟩
theorem Ar.sl {w W : World} {L : List Box} {e sz : Nat} {v : Value} {cs : List (List Value)} (h : Ar w L W e sz v cs) : ∃ A c, v = .slice A cs.length c ∧ cs.length ≤ c ∧ (Kd.raw sz).C W A cs.length cs := Kd.R_reads h.row
/-- Element i's cells, wherever the frame has come to with the row's block untouched. -/
theorem Ar.at {w W : World} {L : List Box} {e sz : Nat} {A : Option Addr} {n c : Nat} {cs : List (List Value)} (h : Ar w L W e sz (.slice A n c) cs) (F : Fr w L W) (i : Nat) (hi : i < cs.length) :
    ∃ ad, A = some ad ∧ ∀ L' W', Fr w L' W' → (∀ b ∈ L, b.2.2 = 1000 + e → b ∈ L') → ∀ (j : Nat) (u : Value), (cs.getD i [])[j]? = some u → W'.cell? (ad.add (i * sz + j)) = some u := by
  obtain ⟨A1, c1, e1, _, hC⟩ := h.sl
  injection e1 with e1 e2 e3
  subst e1 e2 e3
  obtain ⟨ad, x, rfl, _, hK, hc⟩ := Kd.C_get hC [] (i : Int) (by omega) (by omega)
  refine ⟨ad, rfl, fun L' W' F' hs j u hu => ?_⟩
  obtain ⟨A2, c2, e2, _, hC2⟩ := (h.mv F F' hs).sl
  injection e2 with e2 _ _
  obtain ⟨ad', x', e3, _, hK', hc'⟩ := Kd.C_get hC2 [] (i : Int) (by omega) (by omega)
  rw [← e2] at e3
  injection e3 with e3
  subst e3
  have hx : x' = cs.getD i [] := hK'.1
  have h9 : W'.cell? (ad.add ((i : Int).toNat * sz + j)) = some u := hc' j u (by rw [hx]; exact hu)
  simpa using h9
section
variable {ops : Array Oper} {rest : List Oper} {o : Oper} {a : Act} {Q : Exit → Act → World → Prop} {w W : World} {L : List Box}
/-- A literal '[]T{..}'. -/
theorem ar_lit {N : Tmp} (h : Fr w L W) (hgd : o.guard = none) (_hd : o.dst = some N) (e n : Nat) (he : e < 1000) (inner : List Value)
    (hrun : (execOp a.eval o).run Try.prog W = .ok (.value (.slice (some ⟨W.heap.size, 0, none⟩) n n)) (W.alloc (.cells inner.toArray e)))
    (k : ∀ g W', Fr w ((g, .agg inner.toArray, 1000 + e) :: L) W' → Mv L W ((g, .agg inner.toArray, 1000 + e) :: L) W' → wpList Try.prog ops Q rest (a.put o.dst (.slice (some ⟨g, 0, none⟩) n n)) W') : wpList Try.prog ops Q (o :: rest) a W := by
  have hn := h.new (g := W.heap.size) (v := .agg inner.toArray) (t := 1000 + e) rfl (by rw [mod1000 he]; exact blk_new W (.cells inner.toArray e)) (arr_fits _ _) (below_alloc (Below.refl _ _) _)
  exact Kd.event_run hgd hrun (k _ _ hn.1 hn.2)
theorem ar_of {g e sz : Nat} {x : List Value} (h : Fr w ((g, .agg x.toArray, 1000 + e) :: L) W) (he : e < 1000) (hl : x.length = sz) (h1 : ∀ u ∈ x, u.oneCell' = true) : Ar w ((g, .agg x.toArray, 1000 + e) :: L) W e sz (.slice (some ⟨g, 0, none⟩) 1 1) [x] := by
  have hb := h.at2 List.mem_cons_self
  rw [mod1000 he] at hb
  have hsz : (Kd.raw sz).sz = sz := rfl
  refine ⟨⟨fun _ _ => trivial, x, ⟨by simp [hl, hsz], .inr ⟨g, 1, x.toArray, rfl, h.own _ List.mem_cons_self, hb, Nat.le_refl _, by simp [maxLen], by simp [hl, hsz, Value.cells], by show List.take (1 * sz) _ = x; rw [← hl]; simp [Value.cells]⟩⟩, ?_⟩, fun k hk => ?_⟩
  · refine ⟨by simp [hl, Kd.raw], fun j y hy => ?_⟩
    rcases j with _ | j
    · simp only [List.getElem?_cons_zero, Option.some.injEq] at hy
      subst hy
      simp [Kd.raw, hl]
      exact ⟨by rw [← hl, List.take_length], fun u hu => h1 u (List.mem_of_mem_take hu)⟩
    · simp at hy
  · have : g = k := by simpa [Value.ownBlock] using hk
    subst this
    exact ⟨_, List.mem_cons_self⟩
/-- append(v, x): one element more; x stands in a literal of its own, which is not looked at again. -/
theorem ar_push {g1 e sz t bytes : Nat} {z : Value} {x : List Value} (h : Fr w ((g1, .agg x.toArray, 1000 + e) :: L) W) (he : e < 1000) (hgd : o.guard = none) (s y : Operand)
    (ho : o.op = .call { callee := .builtin .append, args := #[s, y], argTypes := #[t, t] }) (ht : Try.prog.underlying t = some (.slice e)) (hinfo : (Try.prog.info? e).map (fun i => (i.zero, i.size, i.bytes)) = some (some z, sz, bytes)) (hz : z.cells.size = sz) (hs0 : 0 < sz) (hb0 : 0 < bytes)
    {v : Value} {cs : List (List Value)} (hs : a.eval s = v) (hy : a.eval y = .slice (some ⟨g1, 0, none⟩) 1 1) (hA : Ar w L W e sz v cs) (hl : x.length = sz) (h1 : ∀ u ∈ x, u.oneCell' = true) (hb : (cs.length + 1) * bytes ≤ 140737488355328)
    (k : ∀ v1 L' W', Fr w L' W' → Mv L W L' W' → Ar w L' W' e sz v1 (cs ++ [x]) → (∀ b ∈ L, b.2.2 ≠ 1000 + e → b ∈ L') → wpList Try.prog ops Q rest (a.put o.dst v1) W') : wpList Try.prog ops Q (o :: rest) a W := by
  obtain ⟨A1, c1, e1, _, hC⟩ := (ar_of h he hl h1).sl
  injection e1 with e1 _ _
  subst e1
  refine Kd.R_append_rows (Kd.raw sz) (w0 := w) w.heap.size hgd s y t e z bytes ho ht hinfo hz hs0 hb0 v cs [x] (some ⟨g1, 0, none⟩) 1 1 (fun _ => True) (fun _ => False) hs hy hA.row hC (fun _ _ hk => hk) (fun _ hk => hk.elim) (fun _ _ => trivial) h.bel h.bel.size (by simpa using hb) ?_
  intro v1 w1 hR hB hg hat
  obtain ⟨_, inner, hown, hrep⟩ := hR
  have hrest : 0 < (cs ++ [x]).length := by simp
  rcases hown.2 with ⟨_, h0⟩ | ⟨g', cap, cur, rfl, hbase, hcur, hrest'⟩
  · omega
  have hlt : ∀ b ∈ L, b.1 < W.heap.size := fun b hb => blk_lt (h.tail.box b hb).1
  have hne : ∀ b ∈ L, b.2.2 ≠ 1000 + e → some b.1 ≠ v.ownBlock := fun b hb hbe heq => by
    obtain ⟨u, hu⟩ := hA.inL b.1 heq.symm
    exact hbe (h.tail.uniq (u := b.2.1) (t := b.2.2) hb hu).2
  have hgL : ∀ b ∈ L, b.2.2 ≠ 1000 + e → b.1 ≠ g' := fun b hb hbe heq => by
    rcases hat with hat | ⟨q, hq, hqs⟩
    · exact hne b hb hbe (by rw [heq, ← hat]; simp [Value.ownBlock])
    · have : g' = q := by simpa [Value.ownBlock] using hq
      have := hlt b hb
      omega
  refine k _ ((g', .agg cur, 1000 + e) :: L.filter (fun b => b.2.2 != 1000 + e)) w1 ⟨hB, ?_, ?_, ?_⟩ ⟨hg.size, ?_⟩ ⟨⟨fun _ _ => trivial, inner, hown, hrep⟩, ?_⟩ ?_
  · intro b hb
    rcases List.mem_cons.1 hb with rfl | hb
    · exact hbase
    · exact h.tail.own b (List.mem_filter.1 hb).1
  · intro b hb
    rcases List.mem_cons.1 hb with rfl | hb
    · exact ⟨by rw [mod1000 he]; exact hcur, arr_fits _ _⟩
    · obtain ⟨hm, hp⟩ := List.mem_filter.1 hb
      have hp : b.2.2 ≠ 1000 + e := by simpa using hp
      exact ⟨(hg.block b.1 (hlt b hm) (hne b hm hp)).trans (h.tail.box b hm).1, (h.tail.box b hm).2⟩
  · rw [List.map_cons, List.nodup_cons]
    refine ⟨fun hm => ?_, List.Nodup.sublist (List.Sublist.map _ (List.filter_sublist)) h.tail.nd⟩
    obtain ⟨b, hb, hbe⟩ := List.mem_map.1 hm
    obtain ⟨hb1, hp⟩ := List.mem_filter.1 hb
    exact hgL b hb1 (by simpa using hp) hbe
  · intro i hi hoff
    have hoffL : i ∉ L.map (·.1) := hoff
    refine ⟨fun hm => ?_, hg.block i hi (fun heq => ?_)⟩
    · rcases List.mem_cons.1 (show i ∈ g' :: (L.filter (fun b => b.2.2 != 1000 + e)).map (·.1) from hm) with rfl | hm
      · rcases hat with hat | ⟨q, hq, hqs⟩
        · obtain ⟨u, hu⟩ := hA.inL i (by rw [← hat]; simp [Value.ownBlock])
          exact hoffL (List.mem_map.2 ⟨_, hu, rfl⟩)
        · have : i = q := by simpa [Value.ownBlock] using hq
          omega
      · obtain ⟨b, hb, hbe⟩ := List.mem_map.1 hm
        exact hoffL (List.mem_map.2 ⟨b, (List.mem_filter.1 hb).1, hbe⟩)
    · obtain ⟨u, hu⟩ := hA.inL i heq.symm
      exact hoffL (List.mem_map.2 ⟨_, hu, rfl⟩)
  · intro q hq
    have : g' = q := by simpa [Value.ownBlock] using hq
    subst this
    exact ⟨_, List.mem_cons_self⟩
  · intro b hb hbe
    exact List.mem_cons_of_mem _ (List.mem_filter.2 ⟨hb, by simpa using hbe⟩)
/-- append([]T{}, x...): a copy of x, which is only read from then on. -/
theorem fr_copy {α : Type} (d : Kd α) {g0 e t bytes : Nat} {z u : Value} {ys : List α} (h : Fr w ((g0, .agg #[], 1000 + e) :: L) W) (he : e < 1000) (hgd : o.guard = none) (s y : Operand)
    (ho : o.op = .call { callee := .builtin .append, args := #[s, y], argTypes := #[t, t] }) (ht : Try.prog.underlying t = some (.slice e)) (hinfo : (Try.prog.info? e).map (fun i => (i.zero, i.size, i.bytes)) = some (some z, d.sz, bytes)) (hz : z.cells.size = d.sz) (hs0 : 0 < d.sz) (hb0 : 0 < bytes)
    (hs : a.eval s = .slice (some ⟨g0, 0, none⟩) 0 0) (hy : a.eval y = u) (hV : Vw d ((g0, .agg #[], 1000 + e) :: L) W u ys) (hb : ys.length * bytes ≤ 140737488355328)
    (k : ∀ v1 W', Fr w L W' → Mv ((g0, .agg #[], 1000 + e) :: L) W L W' → Vw d L W' v1 ys → wpList Try.prog ops Q rest (a.put o.dst v1) W') : wpList Try.prog ops Q (o :: rest) a W := by
  obtain ⟨A, c, rfl, hle, hF⟩ := hV.out
  have hcell := h.at2 List.mem_cons_self
  rw [mod1000 he] at hcell
  have hg0 : g0 ∉ L.map (·.1) := (List.nodup_cons.1 h.nd).1
  have HO : Kd.N d e W w.heap.size (fun k => k = g0 ∨ Off ((g0, .agg #[], 1000 + e) :: L) k) (.slice (some ⟨g0, 0, none⟩) 0 0) ([] : List α) :=
    ⟨fun k hk => .inl (by simpa [Value.ownBlock] using hk.symm), [], rfl, ⟨fun k hk => hk.symm, [], ⟨by simp, .inr ⟨g0, 0, #[], rfl, h.own _ List.mem_cons_self, hcell, Nat.le_refl _, by simp [maxLen], by simp, by simp⟩⟩, ⟨by simp, fun j y hy => by simp at hy⟩⟩, fun j x c hx => by simp at hx⟩
  refine Kd.N_append_rows d (w0 := w) w.heap.size hgd s y t e z bytes ho ht hinfo hz hs0 hb0 _ [] ys A ys.length c _ (Off ((g0, .agg #[], 1000 + e) :: L)) hs hy HO hF (fun k hk => ⟨.inr hk, fun heq => hk (by
    have : k = g0 := by simpa [Value.ownBlock] using heq
    subst this
    exact List.mem_cons_self)⟩) (fun k hk => .inr (h.lt k hk)) h.bel h.bel.size (by simpa using hb) ?_
  intro v1 w1 hN hB hg hat
  rw [List.nil_append] at hN
  refine k v1 w1 ⟨hB, h.tail.own, fun b hb => ?_, h.tail.nd⟩ ⟨hg.size, fun i hi ho => ?_⟩ ⟨(show Kd.V d e w1 0 (Off L) v1 ys from Kd.V_mono (Kd.N_V (base' := 0) hN) (fun k hk => ?_))⟩
  · refine ⟨(hg.block b.1 (blk_lt (h.tail.box b hb).1) (fun heq => ?_)).trans (h.tail.box b hb).1, (h.tail.box b hb).2⟩
    have : b.1 = g0 := by simpa [Value.ownBlock] using heq
    exact hg0 (this ▸ List.mem_map.2 ⟨b, hb, rfl⟩)
  · refine ⟨fun hm => ho (List.mem_cons_of_mem _ hm), hg.block i hi (fun heq => ho ?_)⟩
    have : i = g0 := by simpa [Value.ownBlock] using heq
    subst this
    exact List.mem_cons_self
  · rcases hk with rfl | hk
    · exact hg0
    · exact fun hm => hk (List.mem_cons_of_mem _ hm)
end
/-- An own row of rows, read from now on: its block is no box any more. -/
theorem Ar.toVw {w W : World} {L : List Box} {e : Nat} {v : Value} {cs : List (List Value)} (F : Fr w L W) (h : Ar w L W e 1 v cs) {xs : List (List S72)} (hl : cs.length = xs.length)
    (hx : ∀ (j : Nat) (x : List S72) (c : List Value), xs[j]? = some x → cs[j]? = some c → ∃ s, c = [s] ∧ Vw k72 L W s x) :
    Fr w (L.filter (fun b => b.2.2 != 1000 + e)) W ∧ Mv L W (L.filter (fun b => b.2.2 != 1000 + e)) W ∧ Vw (Kd.slice 72 k72) (L.filter (fun b => b.2.2 != 1000 + e)) W v xs := by
  have hF : Fr w (L.filter (fun b => b.2.2 != 1000 + e)) W := ⟨F.bel, fun b hb => F.own b (List.mem_filter.1 hb).1, fun b hb => F.box b (List.mem_filter.1 hb).1, List.Nodup.sublist (List.Sublist.map _ (List.filter_sublist)) F.nd⟩
  have hoff : ∀ k, Off L k → Off (L.filter (fun b => b.2.2 != 1000 + e)) k := fun k hk hm => by
    obtain ⟨b, hb, hbe⟩ := List.mem_map.1 hm
    exact hk (List.mem_map.2 ⟨b, (List.mem_filter.1 hb).1, hbe⟩)
  refine ⟨hF, ⟨Nat.le_refl _, fun k hk ho => ⟨hoff k ho, rfl⟩⟩, ?_⟩
  have hN : Kd.N (Kd.slice 72 k72) e W w.heap.size (fun k => Off (L.filter (fun b => b.2.2 != 1000 + e)) k) v xs := by
    refine ⟨fun k hk hm => ?_, cs, hl, Kd.raw_tight h.row, fun j x c hxj hcj => ?_⟩
    · obtain ⟨u, hu⟩ := h.inL k hk
      obtain ⟨b, hb, hbe⟩ := List.mem_map.1 hm
      obtain ⟨hb1, hp⟩ := List.mem_filter.1 hb
      subst hbe
      exact absurd (F.uniq (u := b.2.1) (t := b.2.2) hb1 hu).2 (by simpa using hp)
    · obtain ⟨s, rfl, hV⟩ := hx j x c hxj hcj
      obtain ⟨A, c', rfl, hle, hFF⟩ := hV.out
      intro W' hW'
      refine ⟨A, c', rfl, hle, hFF W' (fun k hk hlt => hW' k ⟨hoff k hk, fun heq => ?_⟩ hlt)⟩
      obtain ⟨u, hu⟩ := h.inL k heq.symm
      exact hk (List.mem_map.2 ⟨_, hu, rfl⟩)
  exact ⟨(show Kd.V (Kd.slice 72 k72) e W 0 _ v xs from Kd.N_V (base' := 0) hN)⟩
/-- An element of one cell. -/
theorem Ar.one_at {w W : World} {L : List Box} {e : Nat} {A : Option Addr} {n c : Nat} {cs : List (List Value)} (h : Ar w L W e 1 (.slice A n c) cs) (F : Fr w L W) (i : Nat) (hi : i < cs.length) {x : Value} (hx : cs.getD i [] = [x]) :
    ∃ ad, A = some ad ∧ ∀ L' W', Fr w L' W' → (∀ b ∈ L, b.2.2 = 1000 + e → b ∈ L') → W'.cell? (ad.add i) = some x := by
  obtain ⟨ad, rfl, hc⟩ := h.at F i hi
  refine ⟨ad, rfl, fun L' W' F' hs => ?_⟩
  have := hc L' W' F' hs 0 x (by rw [hx]; rfl)
  simpa using this
/-- An element of four cells. -/
theorem Ar.four_at {w W : World} {L : List Box} {e : Nat} {A : Option Addr} {n c : Nat} {cs : List (List Value)} (h : Ar w L W e 4 (.slice A n c) cs) (F : Fr w L W) (i : Nat) (hi : i < cs.length) {x y z u : Value} (hx : cs.getD i [] = [x, y, z, u]) :
    ∃ ad, A = some ad ∧ ∀ L' W', Fr w L' W' → (∀ b ∈ L, b.2.2 = 1000 + e → b ∈ L') → W'.cell? (ad.add (i * 4)) = some x ∧ W'.cell? ⟨(ad.add (i * 4)).block, (ad.add (i * 4)).off + 1, none⟩ = some y
      ∧ W'.cell? ⟨(ad.add (i * 4)).block, (ad.add (i * 4)).off + 2, none⟩ = some z ∧ W'.cell? ⟨(ad.add (i * 4)).block, (ad.add (i * 4)).off + 3, none⟩ = some u := by
  obtain ⟨ad, rfl, hc⟩ := h.at F i hi
  refine ⟨ad, rfl, fun L' W' F' hs => ?_⟩
  have q := fun j v hv => hc L' W' F' hs j v (by rw [hx]; exact hv)
  exact ⟨q 0 x rfl, by rw [← add_field _ _ 1 (by omega)]; exact q 1 y rfl, by rw [← add_field _ _ 2 (by omega)]; exact q 2 z rfl, by rw [← add_field _ _ 3 (by omega)]; exact q 3 u rfl⟩
/-- What is kept of one table: the table, its numbers and rows as they were copied. -/
structure Kp where
  v : Value
  i : Value
  r : Value
  ids : List Int
  rows : List (List S72)
  room : Int
  last : Int
structure Good (L : List Box) (W : World) (x : Kp) : Prop where
  tb : Tb L W x.v x.ids x.rows x.room x.last
  vi : Vw (Kd.int .i64) L W x.i x.ids
  vr : Vw (Kd.slice 72 k72) L W x.r x.rows
  len : x.ids.length = x.rows.length
  few : x.ids.length ≤ 64
  asc : x.ids.Pairwise (· < ·)
  ok : ∀ t ∈ x.rows, RowOk t ∧ t.length ≤ 300
theorem Good.mv {L L' : List Box} {W W' : World} {x : Kp} (h : Good L W x) (m : Mv L W L' W') : Good L' W' x := ⟨h.tb.mv m, h.vi.mv m, h.vr.mv m, h.len, h.few, h.asc, h.ok⟩
/-- The three rows that the law makes, and what they keep. -/
structure Three (w : World) (L : List Box) (W : World) (v6 v7 v8 : Value) (S6 S7 S8 : List Kp) : Prop where
  fr : Fr w L W
  a6 : Ar w L W 28 4 v6 (S6.map fun x => x.v.cells.toList)
  a7 : Ar w L W 24 1 v7 (S7.map fun x => [x.i])
  a8 : Ar w L W 22 1 v8 (S8.map fun x => [x.r])
  g6 : ∀ x ∈ S6, Tb L W x.v x.ids x.rows x.room x.last
  good : ∀ x ∈ S8, Good L W x
theorem Three.mv {w W W' : World} {L L' : List Box} {v6 v7 v8 : Value} {S6 S7 S8 : List Kp} (h : Three w L W v6 v7 v8 S6 S7 S8) (F' : Fr w L' W') (m : Mv L W L' W') (hs : ∀ b ∈ L, b.2.2 = 1028 ∨ b.2.2 = 1024 ∨ b.2.2 = 1022 → b ∈ L') : Three w L' W' v6 v7 v8 S6 S7 S8 :=
  ⟨F', h.a6.mv h.fr F' (fun b hb e => hs b hb (.inl e)), h.a7.mv h.fr F' (fun b hb e => hs b hb (.inr (.inl e))), h.a8.mv h.fr F' (fun b hb e => hs b hb (.inr (.inr e))), fun x hx => (h.g6 x hx).mv m, fun x hx => (h.good x hx).mv m⟩
structure AtS (w : World) (a0 : Int) (l : List S50) (v6 v7 v8 i : Value) (W : World) : Prop where
  out : ∃ (u6 u7 u8 : Value) (L : List Box) (j : Nat) (S : List Kp), u6 = v6 ∧ u7 = v7 ∧ u8 = v8 ∧ i = .int .i64 (j : Int) ∧ j ≤ l.length ∧ S.length = j + 1 ∧ Three w L W u6 u7 u8 S S S ∧ ∃ y, S[j]? = some y ∧ ∃ gv, Once a0 y.ids y.rows y.room y.last gv j
/-- Within a round: the rows of the new table's copy, m of them. -/
structure AtR (w : World) (S6 S : List Kp) (v6 v7 v8 : Value) (g : Nat) (u i13 : Value) (ids : List Int) (rows : List (List S72)) (room last : Int) (r i : Value) (W : World) : Prop where
  out : ∃ (L : List Box) (m : Nat) (cs : List (List Value)), i = .int .i64 (m : Int) ∧ m ≤ ids.length ∧ Three w L W v6 v7 v8 S6 S S ∧ (g, u, 28) ∈ L ∧ Tb L W u ids rows room last ∧ Vw (Kd.int .i64) L W i13 ids ∧ Ar w L W 31 1 r cs ∧ cs.length = m
    ∧ ∀ (q : Nat) (x : List S72) (c : List Value), rows[q]? = some x → cs[q]? = some c → ∃ s, c = [s] ∧ Vw k72 L W s x
structure AtC (w : World) (L : List Box) (v6 v7 v8 : Value) (S : List Kp) (i : Value) (W : World) : Prop where
  out : ∃ j : Nat, i = .int .i64 (j : Int) ∧ j ≤ S.length ∧ Three w L W v6 v7 v8 S S S
structure AtE (w : World) (L : List Box) (v6 v7 v8 : Value) (S : List Kp) (v i r : Value) (ids : List Int) (rows : List (List S72)) (room last : Int) (k : Value) (W : World) : Prop where
  out : ∃ p : Nat, k = .int .i64 (p : Int) ∧ p ≤ ids.length ∧ Three w L W v6 v7 v8 S S S ∧ Tb L W v ids rows room last ∧ Vw (Kd.int .i64) L W i ids ∧ Vw (Kd.slice 72 k72) L W r rows
theorem few_len : ∀ (k : Nat) (i : Int) (t : List S72), cordwoodref10_Few.l0 k t i = some true → t.length ≤ 300
  | 0, i, t, h => by simp [cordwoodref10_Few.l0] at h
  | k + 1, i, t, h => by
    rw [cordwoodref10_Few.l0] at h
    split at h
    · split at h
      · obtain ⟨c, hc, h⟩ := Option.bind_eq_some_iff.1 h
        cases c with
        | true => exact few_len k _ t h
        | false => simp at h
      · cases h
    · have := of_decide_eq_true (Option.some.inj h)
      omega
theorem small_len (l : List S50) (hl : l.length ≤ 9223372036854775807) : ∀ (k i : Nat), cordwoodlaw21_small.l0 k l (i : Int) = some true → ∀ q : Nat, i ≤ q → q < l.length → (rd_T50 l (q : Int)).f2.length ≤ 300
  | 0, i, h => by simp [cordwoodlaw21_small.l0] at h
  | k + 1, i, h => by
    intro q hq hql
    rw [cordwoodlaw21_small.l0, if_pos (by omega), if_pos (by omega)] at h
    obtain ⟨c, hc, h⟩ := Option.bind_eq_some_iff.1 h
    cases c with
    | false => simp at h
    | true =>
      rw [if_pos rfl, wrap_inc (show i < l.length by omega) hl] at h
      by_cases e : q = i
      · subst e
        exact few_len _ _ _ hc
      · exact small_len l hl k (i + 1) h q (by omega) hql
theorem rows_all {P : List S72 → Prop} {ids : List Int} {rows : List (List S72)} {room last what I : Int} {t : List S72} {ids' : List Int} {rows' : List (List S72)} {last' i e : Int} (h : ∀ x ∈ rows, P x) (ht : P t) (hd : Did ids rows room last what I t ids' rows' last' i e) : ∀ x ∈ rows', P x := by
  cases hd with
  | kept c0 cr => intro x hx; rcases List.mem_append.1 hx with hx | hx; exact h x hx; rw [List.mem_singleton] at hx; subst hx; exact ht
  | full c0 cr => exact h
  | gone p c1 hp hI => intro x hx; exact h x ((cut_sublist rows p).subset hx)
  | none c1 hI => exact h
  | bare c0 c1 he => exact h
  | old c0 c1 hp => intro x hx; exact h x ((cut_sublist rows 0).subset hx)
theorem step_row {w : World} {A : Option Addr} {n : Nat} {l : List S50} (h : Kd.C k50 w A n l) {j : Nat} (hj : j < n) : RowOk (rd_T50 l (j : Int)).f2 := by
  obtain ⟨_, _, _, _, _, _, _, _, hC⟩ := at_T50 h (j : Int) (by omega) (by omega)
  exact row_ok hC
/-- What is got of number m of those that there are. -/
theorem get_nth {ids : List Int} {rows : List (List S72)} {room last : Int} (hl : ids.length = rows.length) (h : ids.length ≤ 64) (hasc : ids.Pairwise (· < ·)) {m : Nat} (hm : m < ids.length) :
    ∃ k x, rows[m]? = some x ∧ snaps_Get.f k ids rows room last (rd ids (m : Int)) = some (x, 0) := by
  have hp : ids[m]? = some (rd ids (m : Int)) := by simp [rd, hm]
  obtain ⟨k, hk⟩ := get_ev ids rows room last (rd ids (m : Int)) m hl (by omega) hp (fun q hq => asc_uniq hasc hp hq)
  have hm2 : m < rows.length := by omega
  refine ⟨k, rows[m], List.getElem?_eq_getElem hm2, ?_⟩
  have h9 : snaps_Get.f k ids rows room last (rd ids (m : Int)) = _ := hk k (Nat.le_refl _)
  rw [h9]
  simp [rd_L7, hm2]
end Go.Proofs.Ytkabbahfaeeihaa.Q
