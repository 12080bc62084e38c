/- The functions' contracts in the words of the hand-made walks (Hw). -/
import Derived.Test.YtkabbahfaeeihaaQ0
import Derived.Test.YtkabbahfaeeihaaQ1
import Derived.Test.YtkabbahfaeeihaaQ5
import Derived.Test.YtkabbahfaeeihaaQ8
import Derived.Test.YtkabbahfaeeihaaQ11
import Derived.Test.YtkabbahfaeeihaaQ12
import Derived.Test.YtkabbahfaeeihaaQ23
/-! The words of the walks that are made by hand: what the frame's own boxes hold (Fr), what is read of a table, a row (Tb, Vw) in a world, and what a step leaves (Mv). -/
namespace Go.Proofs.Ytkabbahfaeeihaa.Q
open Go.RowKit Go.Proofs.YtkabbahfaeeihaaW.PrintWords Go.Proofs.YtkabbahfaeeihaaW.PrintLast Go.Proofs.YtkabbahfaeeihaaW.PrintMore
set_option linter.unusedVariables false
set_option linter.unusedSimpArgs false

/-- A box: its block, what it holds, and its type; 1000 and the elements' type for a row of the frame's own. -/
abbrev Box := Nat × Value × Nat
/-- The value fits a variable of type t. -/
structure Fits (v : Value) (t : Nat) : Prop where
  agg : Value.agg v.cells = v
  size : t < 1000 → (Try.prog.info? t).map (·.size) = some v.cells.size
  one : t < 1000 → ∀ q ∈ v.cells.toList, q.oneCell' = true
/-- From w on: nothing of w's is touched; the boxes L are the frame's own, and hold what L says. -/
structure Fr (w : World) (L : List Box) (W : World) : Prop where
  bel : Below w.heap.size w W
  own : ∀ b ∈ L, w.heap.size ≤ b.1
  box : ∀ b ∈ L, W.heap[b.1]? = some (.cells b.2.1.cells (b.2.2 % 1000) (0, 0)) ∧ Fits b.2.1 b.2.2
  nd : (L.map (·.1)).Nodup
/-- No box of L. -/
def Off (L : List Box) (k : Nat) : Prop := k ∉ L.map (·.1)
structure Mv (L : List Box) (W : World) (L' : List Box) (W' : World) : Prop where
  size : W.heap.size ≤ W'.heap.size
  same : ∀ k, k < W.heap.size → Off L k → Off L' k ∧ W'.heap[k]? = W.heap[k]?
/-- The row v as it is read; none of its blocks is a box of L. -/
structure Vw {α : Type} (d : Kd α) (L : List Box) (W : World) (v : Value) (xs : List α) : Prop where
  out : Kd.V d 0 W 0 (Off L) v xs
/-- The table v as it is read. -/
structure Tb (L : List Box) (W : World) (v : Value) (ids : List Int) (rows : List (List S72)) (room last : Int) : Prop where
  out : ∃ A0 c0 A1 c1, v = .agg #[.slice A0 ids.length c0, .slice A1 rows.length c1, .int .i64 room, .int .i64 last] ∧ Vw (Kd.int .i64) L W (.slice A0 ids.length c0) ids ∧ Vw (Kd.slice 72 k72) L W (.slice A1 rows.length c1) rows

theorem Mv.refl (L : List Box) (W : World) : Mv L W L W := ⟨Nat.le_refl _, fun _ _ h => ⟨h, rfl⟩⟩
theorem Mv.trans {L L' L'' : List Box} {W W' W'' : World} (h : Mv L W L' W') (k : Mv L' W' L'' W'') : Mv L W L'' W'' :=
  ⟨Nat.le_trans h.size k.size, fun i hi ho => by
    obtain ⟨h1, h2⟩ := h.same i hi ho
    obtain ⟨k1, k2⟩ := k.same i (Nat.lt_of_lt_of_le hi h.size) h1
    exact ⟨k1, k2.trans h2⟩⟩
theorem Mv.drew {L L' : List Box} {W W' : World} (h : Mv L W L' W') : Mv L W L' W'.drew := ⟨h.size, h.same⟩
theorem Mv.drewN {L L' : List Box} {W W' : World} (n : Nat) (h : Mv L W L' W') : Mv L W L' (W'.drewN n) := ⟨h.size, h.same⟩
theorem Mv.tail {L L' : List Box} {b : Box} {W W' : World} (h : Mv L W (b :: L') W') : Mv L W L' W' := ⟨h.size, fun k hk ho => ⟨fun hm => (h.same k hk ho).1 (List.mem_cons_of_mem _ hm), (h.same k hk ho).2⟩⟩
theorem Mv.below {L : List Box} {W W' : World} (h : Below W.heap.size W W') : Mv L W L W' := ⟨h.size, fun k hk ho => ⟨ho, h.block k hk⟩⟩

theorem Vw.mv {α : Type} {d : Kd α} {L L' : List Box} {W W' : World} {v : Value} {xs : List α} (h : Vw d L W v xs) (m : Mv L W L' W') : Vw d L' W' v xs :=
  ⟨Kd.V_mono (ok := fun k => Off L k ∧ k < W.heap.size ∧ Off L' k) (Kd.V_step (Kd.V_mono (Kd.V_bound h.out) (fun k hk => ⟨hk.1, hk.2, (m.same k hk.2 hk.1).1⟩)) (fun k hk hlt => (m.same k hlt hk.1).2)) (fun _ hk => hk.2.2)⟩
theorem Tb.mv {L L' : List Box} {W W' : World} {v : Value} {ids : List Int} {rows : List (List S72)} {room last : Int} (h : Tb L W v ids rows room last) (m : Mv L W L' W') : Tb L' W' v ids rows room last := by
  obtain ⟨A0, c0, A1, c1, rfl, h0, h1⟩ := h.out
  exact ⟨A0, c0, A1, c1, rfl, h0.mv m, h1.mv m⟩
theorem Vw.sl {α : Type} {d : Kd α} {L : List Box} {W : World} {v : Value} {xs : List α} (h : Vw d L W v xs) : ∃ A c, v = .slice A xs.length c ∧ xs.length ≤ c ∧ d.C W A xs.length xs := by
  obtain ⟨A, c, rfl, hl, hf⟩ := h.out
  exact ⟨A, c, rfl, hl, Kd.F_now hf⟩
theorem Vw.nil {α : Type} (d : Kd α) (L : List Box) (W : World) : Vw d L W (.slice none 0 0) [] := ⟨Kd.V_nil _ _ _ _ _⟩
theorem Tb.fits {L : List Box} {W : World} {v : Value} {ids : List Int} {rows : List (List S72)} {room last : Int} (h : Tb L W v ids rows room last) : Fits v 28 := by
  obtain ⟨A0, c0, A1, c1, rfl, h0, h1⟩ := h.out
  refine ⟨rfl, fun _ => by kernel_rfl, ?_⟩
  intro _ q hq
  simp only [Value.cells, List.mem_cons, List.not_mem_nil, or_false] at hq
  rcases hq with rfl | rfl | rfl | rfl <;> rfl

theorem Fr.start (w : World) : Fr w [] w := ⟨Below.refl _ _, fun _ h => absurd h List.not_mem_nil, fun _ h => absurd h List.not_mem_nil, List.nodup_nil⟩
theorem Fr.drew {w W : World} {L : List Box} (h : Fr w L W) : Fr w L W.drew := ⟨⟨h.bel.os, h.bel.tape, h.bel.output, h.bel.size, h.bel.block⟩, h.own, h.box, h.nd⟩
theorem Fr.drewN {w W : World} {L : List Box} (n : Nat) (h : Fr w L W) : Fr w L (W.drewN n) := ⟨⟨h.bel.os, h.bel.tape, h.bel.output, h.bel.size, h.bel.block⟩, h.own, h.box, h.nd⟩
theorem Fr.step {w W W' : World} {L : List Box} (h : Fr w L W) (k : Below W.heap.size W W') : Fr w L W' :=
  ⟨below_step h.bel k, h.own, fun b hb => ⟨blk_below (h.box b hb).1 k, (h.box b hb).2⟩, h.nd⟩
theorem Fr.tail {w W : World} {b : Box} {L : List Box} (h : Fr w (b :: L) W) : Fr w L W :=
  ⟨h.bel, fun c hc => h.own c (List.mem_cons_of_mem _ hc), fun c hc => h.box c (List.mem_cons_of_mem _ hc), (List.nodup_cons.1 h.nd).2⟩
theorem Fr.drop2 {w W : World} {b b' : Box} {L : List Box} (h : Fr w (b :: b' :: L) W) : Fr w (b :: L) W :=
  have hs : ∀ c ∈ b :: L, c ∈ b :: b' :: L := fun c hc => by
    rcases List.mem_cons.1 hc with rfl | hc
    · exact List.mem_cons_self
    · exact List.mem_cons_of_mem _ (List.mem_cons_of_mem _ hc)
  ⟨h.bel, fun c hc => h.own c (hs c hc), fun c hc => h.box c (hs c hc), by
    have := h.nd
    simp only [List.map_cons, List.nodup_cons, List.mem_cons, not_or] at this ⊢
    exact ⟨this.1.2, this.2.2⟩⟩
theorem Mv.drop2 {L L' : List Box} {b b' : Box} {W W' : World} (h : Mv L W (b :: b' :: L') W') : Mv L W (b :: L') W' := ⟨h.size, fun k hk ho => ⟨fun hm => (h.same k hk ho).1 (by
    rcases List.mem_cons.1 (show k ∈ b.1 :: L'.map (·.1) from hm) with rfl | hm
    · exact List.mem_cons_self
    · exact List.mem_cons_of_mem _ (List.mem_cons_of_mem _ hm)), (h.same k hk ho).2⟩⟩
theorem Fr.lt {w W : World} {L : List Box} (h : Fr w L W) (k : Nat) (hk : W.heap.size ≤ k) : Off L k := by
  intro hm
  obtain ⟨b, hb, rfl⟩ := List.mem_map.1 hm
  have := blk_lt (h.box b hb).1
  omega
theorem Fr.far {w W : World} {L : List Box} (h : Fr w L W) (k : Nat) (hk : k < w.heap.size) : Off L k := by
  intro hm
  obtain ⟨b, hb, rfl⟩ := List.mem_map.1 hm
  have := h.own b hb
  omega
theorem Fr.fits {w W : World} {L : List Box} {g : Nat} {v : Value} {t : Nat} (h : Fr w L W) (hm : (g, v, t) ∈ L) : Fits v t := (h.box _ hm).2
theorem Fr.at {w W : World} {L : List Box} {g : Nat} {v : Value} {t : Nat} (h : Fr w L W) (hm : (g, v, t) ∈ L) (ht : t < 1000 := by decide) : W.heap[g]? = some (.cells v.cells t (0, 0)) := by
  have := (h.box _ hm).1
  rwa [show t % 1000 = t from Nat.mod_eq_of_lt ht] at this
theorem Fr.at2 {w W : World} {L : List Box} {g : Nat} {v : Value} {t : Nat} (h : Fr w L W) (hm : (g, v, t) ∈ L) : W.heap[g]? = some (.cells v.cells (t % 1000) (0, 0)) := (h.box _ hm).1
/-- What a call hands back: its blocks are elder, of no box, or new. -/
theorem Fr.vw {α : Type} {d : Kd α} {e b : Nat} {w W W' : World} {L : List Box} {v : Value} {xs : List α} {ok : Nat → Prop} (h : Fr w L W) (hv : Kd.V d e W' b ok v xs) (hok : ∀ k, ok k → Off L k ∨ W.heap.size ≤ k) : Vw d L W' v xs :=
  ⟨Kd.V_mono (e := 0) (base := 0) hv (fun k hk => (hok k hk).elim id (h.lt k))⟩
theorem Fr.new {w W W' : World} {L : List Box} (h : Fr w L W) {g : Nat} (hg : g = W.heap.size) {v : Value} {t : Nat} (hb : W'.heap[g]? = some (.cells v.cells (t % 1000) (0, 0))) (hf : Fits v t) (k : Below W.heap.size W W') : Fr w ((g, v, t) :: L) W' ∧ Mv L W ((g, v, t) :: L) W' := by
  have h' := h.step k
  refine ⟨⟨h'.bel, ?_, ?_, ?_⟩, k.size, ?_⟩
  · intro b hm
    rcases List.mem_cons.1 hm with rfl | hm
    · show _ ≤ g; rw [hg]; exact h.bel.size
    · exact h.own b hm
  · intro b hm
    rcases List.mem_cons.1 hm with rfl | hm
    · exact ⟨hb, hf⟩
    · exact h'.box b hm
  · exact List.nodup_cons.2 ⟨h.lt g (by omega), h.nd⟩
  · intro i hi ho
    refine ⟨fun hm => ?_, k.block i hi⟩
    rcases List.mem_cons.1 hm with he | hm
    · have : i = g := he
      omega
    · exact ho hm
/-- L', which is L but for the box g: it holds v. -/
inductive Put : List Box → Nat → Value → Nat → List Box → Prop where
  | here {g : Nat} {u v : Value} {t : Nat} {L : List Box} : Put ((g, u, t) :: L) g v t ((g, v, t) :: L)
  | there {b : Box} {g : Nat} {v : Value} {t : Nat} {L L' : List Box} (h : Put L g v t L') : Put (b :: L) g v t (b :: L')
theorem Put.fst {L L' : List Box} {g : Nat} {v : Value} {t : Nat} (h : Put L g v t L') : L'.map (·.1) = L.map (·.1) := by
  induction h with
  | here => rfl
  | there _ ih => simp [ih]
theorem Put.old {L L' : List Box} {g : Nat} {v : Value} {t : Nat} (h : Put L g v t L') : ∃ u, (g, u, t) ∈ L := by
  induction h with
  | here => exact ⟨_, List.mem_cons_self⟩
  | there _ ih => exact ih.elim fun u hu => ⟨u, List.mem_cons_of_mem _ hu⟩
theorem Put.mem {L L' : List Box} {g : Nat} {v : Value} {t : Nat} (h : Put L g v t L') (hn : (L.map (·.1)).Nodup) : ∀ b ∈ L', b = (g, v, t) ∨ (b ∈ L ∧ b.1 ≠ g) := by
  induction h with
  | here =>
    intro b hb
    rcases List.mem_cons.1 hb with rfl | hb
    · exact .inl rfl
    · refine .inr ⟨List.mem_cons_of_mem _ hb, fun he => (List.nodup_cons.1 hn).1 ?_⟩
      exact List.mem_map.2 ⟨b, hb, he⟩
  | there h ih =>
    intro b hb
    rcases List.mem_cons.1 hb with rfl | hb
    · refine .inr ⟨List.mem_cons_self, fun he => (List.nodup_cons.1 hn).1 ?_⟩
      obtain ⟨u, hu⟩ := h.old
      exact List.mem_map.2 ⟨_, hu, he.symm⟩
    · rcases ih (List.nodup_cons.1 hn).2 b hb with rfl | ⟨h1, h2⟩
      · exact .inl rfl
      · exact .inr ⟨List.mem_cons_of_mem _ h1, h2⟩
theorem Fr.put {w W : World} {L L' : List Box} {g : Nat} {v : Value} {t : Nat} (h : Fr w L W) (hp : Put L g v t L') (hf : Fits v t) (ht0 : t < 1000 := by decide) : Fr w L' (W.setCells g 0 v.cells.toList) ∧ Mv L W L' (W.setCells g 0 v.cells.toList) := by
  obtain ⟨u, hu⟩ := hp.old
  have hb := h.at hu ht0
  have hg : w.heap.size ≤ g := h.own _ hu
  have hsz : v.cells.size = u.cells.size := Option.some.inj ((hf.size ht0).symm.trans ((h.fits hu).size ht0))
  obtain ⟨s1, s2, s3, s4⟩ := setCells_same g v.cells.toList 0 W
  have hfar : ∀ k, k ≠ g → (W.setCells g 0 v.cells.toList).heap[k]? = W.heap[k]? := fun k hk => setCells_far _ _ k hk
  have hoff : ∀ k, Off L k → Off L' k ∧ k ≠ g := fun k ho => ⟨by unfold Off; rw [hp.fst]; exact ho, fun he => ho (he ▸ List.mem_map.2 ⟨_, hu, rfl⟩)⟩
  refine ⟨⟨⟨s1.trans h.bel.os, s2.trans h.bel.tape, s3.trans h.bel.output, by rw [s4]; exact h.bel.size, fun k hk => (hfar k (by omega)).trans (h.bel.block k hk)⟩, ?_, ?_, by rw [hp.fst]; exact h.nd⟩, by rw [s4]; exact Nat.le_refl _, fun k _ ho => ⟨(hoff k ho).1, hfar k (hoff k ho).2⟩⟩
  · intro b hb'
    rcases hp.mem h.nd b hb' with rfl | ⟨h1, _⟩
    · exact hg
    · exact h.own b h1
  · intro b hb'
    rcases hp.mem h.nd b hb' with rfl | ⟨h1, h2⟩
    · refine ⟨?_, hf⟩
      obtain ⟨cur', h3, h4, h5⟩ := setCells_row v.cells.toList 0 W u.cells hb (by simp [hsz])
      have : cur' = v.cells := by
        apply Array.ext'
        rw [h5]
        simp [hsz]
      rw [this] at h3
      rw [show t % 1000 = t from Nat.mod_eq_of_lt ht0]
      exact h3
    · exact ⟨(hfar b.1 h2).trans (h.box b h1).1, (h.box b h1).2⟩
theorem Fr.put4 {w W : World} {L L' : List Box} {g : Nat} {x y z u : Value} {t : Nat} (h : Fr w L W) (hp : Put L g (.agg #[x, y, z, u]) t L') (hf : Fits (.agg #[x, y, z, u]) t) (ht0 : t < 1000 := by decide) :
    Fr w L' ((((W.setCell ⟨g, 0, none⟩ x).setCell ⟨g, 1, none⟩ y).setCell ⟨g, 2, none⟩ z).setCell ⟨g, 3, none⟩ u) ∧ Mv L W L' ((((W.setCell ⟨g, 0, none⟩ x).setCell ⟨g, 1, none⟩ y).setCell ⟨g, 2, none⟩ z).setCell ⟨g, 3, none⟩ u) := h.put hp hf ht0
theorem Fr.below {w W W' : World} {L : List Box} (h : Fr w L W) (k : Below W.heap.size W W') : Fr w L W' ∧ Mv L W L W' := ⟨h.step k, Mv.below k⟩
section
variable {P : Program} {ops : Array Oper} {rest : List Oper} {o : Oper} {a : Act} {Q : Exit → Act → World → Prop} {w W : World} {L L' : List Box} {g t : Nat} {v : Value}
theorem fr_new {N : Tmp} (h : Fr w L W) (hgd : o.guard = none) (hd : o.dst = some N) (v : Value) (t : Nat) (hf : Fits v t)
    (hrun : (execOp a.eval o).run Try.prog W = .ok (.value (.pointer (some ⟨W.heap.size, 0, none⟩))) (W.alloc (.cells v.cells t (0, 0))))
    (k : ∀ g W', Fr w ((g, v, t) :: L) W' → Mv L W ((g, v, t) :: L) W' → wpList Try.prog ops Q rest (a.put o.dst (.pointer (some ⟨g, 0, none⟩))) W') (ht0 : t < 1000 := by decide) : wpList Try.prog ops Q (o :: rest) a W :=
  box_event hgd hd hrun (fun g hg W' hb hB => have hb' : W'.heap[g]? = some (.cells v.cells (t % 1000) (0, 0)) := by rw [show t % 1000 = t from Nat.mod_eq_of_lt ht0]; exact hb
    k g W' (h.new hg hb' hf hB).1 (h.new hg hb' hf hB).2)
theorem fr_load (h : Fr w L W) {x : Operand} {ty : TypeId} (hgd : o.guard = none) (ho : o.op = .load ty x) (hx : a.eval x = .pointer (some ⟨g, 0, none⟩)) (hm : (g, v, t) ∈ L) (ht : (Try.prog.info? ty).map (·.size) = (Try.prog.info? t).map (·.size)) {d : _}
    (hu : Try.prog.underlying ty = some (.struct d)) (k : wpList Try.prog ops Q rest (a.put o.dst v) W) (ht0 : t < 1000 := by decide) : wpList Try.prog ops Q (o :: rest) a W := by
  refine wpList_load_row hgd ty x ho g hx t v.cells (0, 0) _ (h.at hm ht0) hu rfl (ht.trans ((h.fits hm).size ht0)) ?_
  rw [(h.fits hm).agg]
  exact k
theorem fr_cell (h : Fr w L W) {x : Operand} {ty : TypeId} {j : Nat} {u : Value} (hgd : o.guard = none) (ho : o.op = .load ty x) (hx : a.eval x = .pointer (some ⟨g, j, none⟩)) (hm : (g, v, t) ∈ L) (hu : v.cells[j]? = some u)
    (hag : (isAgg ty).run Try.prog W = .ok false W) (k : wpList Try.prog ops Q rest (a.put o.dst u) W) : wpList Try.prog ops Q (o :: rest) a W := by
  refine wpList_plain hgd fun K hK => ?_
  have hc : W.cell? ⟨g, j, none⟩ = some u := (blk_cell (h.at2 hm) j).trans hu
  unfold Oper.wp execOp
  simp [ho, hx, Instr.loadAt, Instr.sureAddr, loadVar, Sem.run_bind, Sem.run_pure, Result.andThen_ok, hag, hc]
  exact hK _ _ k
theorem fr_store (h : Fr w L W) {p : Tmp} {x : Operand} {ty : TypeId} (hgd : o.guard = none) (ho : o.op = .store ty (.tmp p) x) (hN : o.dst = none) (hp : a.eval (.tmp p) = .pointer (some ⟨g, 0, none⟩)) (hx : a.eval x = v) (hf : Fits v ty) (hput : Put L g v ty L')
    (k : ∀ W', Fr w L' W' → Mv L W L' W' → wpList Try.prog ops Q rest a W') (ht0 : ty < 1000 := by decide) : wpList Try.prog ops Q (o :: rest) a W := by
  refine wpList_plain hgd fun K hK => ?_
  obtain ⟨u, hu⟩ := hput.old
  have hsz : v.cells.size = u.cells.size := Option.some.inj ((hf.size ht0).symm.trans ((h.fits hu).size ht0))
  have hrun : (Instr.storeAt ty (.pointer (some ⟨g, 0, none⟩)) v).run Try.prog W = .ok () (W.setCells g 0 v.cells.toList) :=
    run_store_run ty v v.cells.toList (h.at hu ht0) rfl (by rw [hf.size ht0]; simp) (by simp [hsz]) (hf.one ht0)
  unfold Oper.wp execOp
  simp only [ho, hp, hx, Sem.run_bind, Sem.run_pure, Result.andThen_ok, hrun]
  show K (a.put o.dst undef) _
  rw [hN]
  exact hK a _ (k _ (h.put hput hf ht0).1 (h.put hput hf ht0).2)
end
theorem Vw.int_at {L : List Box} {W : World} {A : Option Addr} {n c : Nat} {xs : List Int} (h : Vw (Kd.int .i64) L W (.slice A n c) xs) (i : Int) (h0 : 0 ≤ i) (h1 : i < n) :
    ∃ ad, A = some ad ∧ ∀ L' W', Mv L W L' W' → W'.cell? (ad.add i.toNat) = some (.int .i64 (rd xs i)) := by
  obtain ⟨e, _, hC⟩ := Kd.V_reads' h.out
  obtain ⟨ad, rfl, _⟩ := Kd.at_int hC i h0 (by omega)
  refine ⟨ad, rfl, fun L' W' m => ?_⟩
  obtain ⟨ad', e', hc⟩ := Kd.at_int (Kd.V_reads' (h.mv m).out).2.2 i h0 (by omega)
  injection e' with e'
  subst e'
  exact hc
theorem Fr.cell {w W : World} {L : List Box} {g : Nat} {v : Value} {t : Nat} (h : Fr w L W) (hm : (g, v, t) ∈ L) (j : Nat) {u : Value} (hu : v.cells[j]? = some u) : W.cell? ⟨g, j, none⟩ = some u := (blk_cell (h.at2 hm) j).trans hu
theorem Fr.frozen {w W : World} {L : List Box} {g : Nat} {v : Value} {t : Nat} (h : Fr w L W) (hm : (g, v, t) ∈ L) (j : Nat) : W.frozen? ⟨g, j, none⟩ = false := blk_frozen (h.at2 hm) j
/-- Within a region: whatever was done since W0, the boxes Ls hold what they held, and what was read there is read still. -/
structure Held (w : World) (Ls L0 : List Box) (W0 W : World) : Prop where
  out : ∃ L, Fr w L W ∧ Mv L0 W0 L W ∧ ∀ b ∈ Ls, b ∈ L
theorem Held.start {w W : World} {L : List Box} (h : Fr w L W) : Held w L L W.drew W.drew := ⟨L, h.drew, Mv.refl _ _, fun _ h => h⟩
theorem Held.of {w W0 W : World} {Ls L0 L : List Box} (h : Fr w L W) (m : Mv L0 W0 L W) (hs : ∀ b ∈ Ls, b ∈ L) : Held w Ls L0 W0 W := ⟨L, h, m, hs⟩
theorem Fr.run_load {w W : World} {L : List Box} {g t : Nat} {v : Value} (h : Fr w L W) {o : Oper} {a : Act} {x : Operand} {ty : TypeId} (ho : o.op = .load ty x) (hx : a.eval x = .pointer (some ⟨g, 0, none⟩)) (hm : (g, v, t) ∈ L) (ht : (Try.prog.info? ty).map (·.size) = (Try.prog.info? t).map (·.size)) {d : _}
    (hu : Try.prog.underlying ty = some (.struct d)) (ht0 : t < 1000 := by decide) : (execOp a.eval o).run Try.prog W = .ok (.value v) W := by
  unfold execOp
  simp only [ho, hx, Instr.loadAt, Instr.sureAddr, Sem.run_bind, Sem.run_pure, Result.andThen_ok, run_loadVar_row W g t ty v.cells (0, 0) _ (h.at hm ht0) hu rfl (ht.trans ((h.fits hm).size ht0))]
  rw [(h.fits hm).agg]
theorem Held.run_load {w W0 W : World} {Ls L0 : List Box} {g t : Nat} {v : Value} (h : Held w Ls L0 W0 W) {o : Oper} {a : Act} {x : Operand} {ty : TypeId} (ho : o.op = .load ty x) (hx : a.eval x = .pointer (some ⟨g, 0, none⟩)) (hm : (g, v, t) ∈ Ls) (ht : (Try.prog.info? ty).map (·.size) = (Try.prog.info? t).map (·.size)) {d : _}
    (hu : Try.prog.underlying ty = some (.struct d)) (ht0 : t < 1000 := by decide) : (execOp a.eval o).run Try.prog W = .ok (.value v) W := by
  obtain ⟨L, hF, _, hs⟩ := h.out
  exact hF.run_load ho hx (hs _ hm) ht hu ht0
theorem Fr.run_store {w W : World} {L L' : List Box} {g : Nat} {v : Value} (h : Fr w L W) {o : Oper} {a : Act} {p : Tmp} {x : Operand} {ty : TypeId} (ho : o.op = .store ty (.tmp p) x) (hp : a.eval (.tmp p) = .pointer (some ⟨g, 0, none⟩)) (hx : a.eval x = v) (hf : Fits v ty) (hput : Put L g v ty L') (ht0 : ty < 1000 := by decide) :
    (execOp a.eval o).run Try.prog W = .ok .skip (W.setCells g 0 v.cells.toList) := by
  obtain ⟨u, hu⟩ := hput.old
  have hsz : v.cells.size = u.cells.size := Option.some.inj ((hf.size ht0).symm.trans ((h.fits hu).size ht0))
  have hrun : (Instr.storeAt ty (.pointer (some ⟨g, 0, none⟩)) v).run Try.prog W = .ok () (W.setCells g 0 v.cells.toList) :=
    run_store_run ty v v.cells.toList (h.at hu ht0) rfl (by rw [hf.size ht0]; simp) (by simp [hsz]) (hf.one ht0)
  unfold execOp
  simp only [ho, hp, hx, Sem.run_bind, Sem.run_pure, Result.andThen_ok, hrun]
def zero28 : Value := .agg #[.slice none 0 0, .slice none 0 0, .int .i64 0, .int .i64 0]
theorem zero_fits : Fits zero28 28 := ⟨rfl, fun _ => by kernel_rfl, fun _ q hq => by
  simp only [zero28, Value.cells, List.mem_cons, List.not_mem_nil, or_false] at hq
  rcases hq with rfl | rfl | rfl | rfl <;> rfl⟩
def zero46 : Value := .agg #[.slice none 0 0, .int .i64 0, .int .i64 0]
theorem zero46_fits : Fits zero46 46 := ⟨rfl, fun _ => by kernel_rfl, fun _ q hq => by
  simp only [zero46, Value.cells, List.mem_cons, List.not_mem_nil, or_false] at hq
  rcases hq with rfl | rfl | rfl <;> rfl⟩
theorem Held.run_cell {w W0 W : World} {Ls L0 : List Box} {g t j : Nat} {v u : Value} (h : Held w Ls L0 W0 W) {o : Oper} {a : Act} {x : Operand} {ty : TypeId} (ho : o.op = .load ty x) (hx : a.eval x = .pointer (some ⟨g, j, none⟩)) (hm : (g, v, t) ∈ Ls) (hu : v.cells[j]? = some u)
    (hag : (isAgg ty).run Try.prog W = .ok false W) : (execOp a.eval o).run Try.prog W = .ok (.value u) W := by
  obtain ⟨L, hF, _, hs⟩ := h.out
  have hc : W.cell? ⟨g, j, none⟩ = some u := hF.cell (hs _ hm) j hu
  unfold execOp
  simp [ho, hx, Instr.loadAt, Instr.sureAddr, loadVar, Sem.run_bind, Result.andThen_ok, hag, hc]
end Go.Proofs.Ytkabbahfaeeihaa.Q

/-! The functions' contracts in the words of the hand-made walks (Hw). -/
namespace Go.Proofs.Ytkabbahfaeeihaa.Q
open Go.RowKit Go.Proofs.YtkabbahfaeeihaaW.PrintWords Go.Proofs.YtkabbahfaeeihaaW.PrintLast Go.Proofs.YtkabbahfaeeihaaW.PrintMore
set_option linter.unusedVariables false
set_option linter.unusedSimpArgs false
variable {w W : World} {L : List Box} {v u : Value} {ids : List Int} {rows : List (List S72)} {room last : Int} {l : List S72} {r1 : List Int} {r2 : List (List S72)} {r3 r4 r5 r6 : Int}

theorem tb_mk {W' : World} {v0 v1 : Value} {e0 e1 b0 b1 : Nat} {ok0 ok1 : Nat → Prop} (hF : Fr w L W) (h0 : Kd.V (Kd.int .i64) e0 W' b0 ok0 v0 ids) (h1 : Kd.V (Kd.slice 72 k72) e1 W' b1 ok1 v1 rows)
    (o0 : ∀ k, ok0 k → Off L k ∨ W.heap.size ≤ k) (o1 : ∀ k, ok1 k → Off L k ∨ W.heap.size ≤ k) : Tb L W' (.agg #[v0, v1, .int .i64 room, .int .i64 last]) ids rows room last := by
  obtain ⟨A0, c0, rfl⟩ := Kd.V_slice h0
  obtain ⟨A1, c1, rfl⟩ := Kd.V_slice h1
  exact ⟨A0, c0, A1, c1, rfl, hF.vw h0 o0, hF.vw h1 o1⟩
theorem new_c (a0 : Int) (hF : Fr w L W) : Calls Try.prog 10 #[.int .i64 a0] W fun e W' => ∃ v, e = .returned v ∧ Tb L W' v [] [] (mx 0 (mn a0 64)) 0 ∧ Fr w L W' ∧ Mv L W L W' := by
  refine (snaps_New.calls a0 _ _ _ _ W rfl).mono ?_
  rintro e W' ⟨v0, v1, rfl, h0, h1, hb⟩
  exact ⟨_, rfl, tb_mk hF (Kd.R_V (base' := 0) (Kd.R_bound h0)) (Kd.R_V (base' := 0) (Kd.R_bound h1)) (fun k hk => .inr hk.2.1) (fun k hk => .inr hk.2.1), hF.below hb⟩
theorem keep_c (hF : Fr w L W) (hT : Tb L W v ids rows room last) (hl : Vw k72 L W u l) (h : snaps_Keep.f ids rows room last l = some (r1, r2, r3, r4, r5, r6)) :
    Calls Try.prog 12 #[v, u] W fun e W' => ∃ v', e = .returned (.tuple #[v', .int .i64 r5, .int .i64 r6]) ∧ Tb L W' v' r1 r2 r3 r4 ∧ Fr w L W' ∧ Mv L W L W' := by
  obtain ⟨A0, c0, A1, c1, rfl, h0, h1⟩ := hT.out
  obtain ⟨A, c, rfl, _⟩ := hl.sl
  refine (snaps_Keep.calls A0 c0 ids (Off L) A1 c1 rows room last (Off L) A c l r1 r2 r3 r4 r5 r6 W (Kd.F_now (Kd.V_F h0.out)) (Kd.V_at h0.out).2.1 h1.out hl.out h).mono ?_
  rintro e W' ⟨v0, v1, rfl, g0, g1, hb⟩
  exact ⟨_, rfl, tb_mk hF (Kd.R_V (base' := 0) g0) (Kd.N_V (base' := 0) g1) (fun k hk => .inr hk) (fun k hk => hk.1.elim (fun h => .inl (h.elim id id)) .inr), hF.below hb⟩
theorem forget_c {k : Nat} {id : Int} (hF : Fr w L W) (hT : Tb L W v ids rows room last) (h : snaps_Forget.f k ids rows room last id = some (r1, r2, r3, r4, r5)) :
    Calls Try.prog 16 #[v, .int .i64 id] W fun e W' => ∃ v', e = .returned (.tuple #[v', .int .i64 r5]) ∧ Tb L W' v' r1 r2 r3 r4 ∧ Fr w L W' ∧ Mv L W L W' := by
  obtain ⟨A0, c0, A1, c1, rfl, h0, h1⟩ := hT.out
  refine (snaps_Forget.calls k A0 c0 ids (Off L) A1 c1 rows room last id r1 r2 r3 r4 r5 W (Kd.F_now (Kd.V_F h0.out)) (Kd.V_at h0.out).2.1 h1.out h).mono ?_
  rintro e W' ⟨v0, v1, rfl, g0, g1, hb⟩
  exact ⟨_, rfl, tb_mk hF (Kd.R_V (base' := 0) g0) (Kd.N_V (base' := 0) g1) (fun k hk => .inr hk) (fun k hk => hk.1.elim .inl .inr), hF.below hb⟩
/-- without: as Forget's, of the inner table. -/
theorem without_c {k : Int} (hF : Fr w L W) (hT : Tb L W v ids rows room last) (h : api_Node_without.f ids rows room last k = some (r1, r2, r3, r4)) :
    Calls Try.prog 31 #[v, .int .i64 k] W fun e W' => ∃ v', e = .returned v' ∧ Tb L W' v' r1 r2 r3 r4 ∧ Fr w L W' ∧ Mv L W L W' := by
  obtain ⟨A0, c0, A1, c1, rfl, h0, h1⟩ := hT.out
  refine (api_Node_without.calls A0 c0 ids (Off L) A1 c1 rows room last k r1 r2 r3 r4 W (Kd.F_now (Kd.V_F h0.out)) (Kd.V_at h0.out).2.1 h1.out h).mono ?_
  rintro e W' ⟨v0, v1, rfl, g0, g1, hb⟩
  exact ⟨_, rfl, tb_mk hF (Kd.R_V (base' := 0) g0) (Kd.N_V (base' := 0) g1) (fun k hk => .inr hk) (fun k hk => hk.1.elim .inl .inr), hF.below hb⟩
theorem get_c {k : Nat} {id : Int} (hF : Fr w L W) (hT : Tb L W v ids rows room last) (h : snaps_Get.f k ids rows room last id = some (l, r6)) :
    Calls Try.prog 13 #[v, .int .i64 id] W fun e W' => ∃ v', e = .returned (.tuple #[v', .int .i64 r6]) ∧ Vw k72 L W' v' l ∧ Fr w L W' ∧ Mv L W L W' := by
  obtain ⟨A0, c0, A1, c1, rfl, h0, h1⟩ := hT.out
  refine (snaps_Get.calls k A0 c0 ids (Off L) A1 c1 rows room last id l r6 W (Kd.F_now (Kd.V_F h0.out)) (Kd.V_at h0.out).2.1 h1.out h).mono ?_
  rintro e W' ⟨v0, rfl, g0, hb⟩
  exact ⟨_, rfl, hF.vw g0 (fun k hk => hk.elim .inl .inr), hF.below hb⟩
theorem ids_c (hF : Fr w L W) (hT : Tb L W v ids rows room last) (h : snaps_IDs.f ids rows room last = some r1) :
    Calls Try.prog 15 #[v] W fun e W' => ∃ v', e = .returned v' ∧ Vw (Kd.int .i64) L W' v' r1 ∧ Fr w L W' ∧ Mv L W L W' := by
  obtain ⟨A0, c0, A1, c1, rfl, h0, h1⟩ := hT.out
  refine (snaps_IDs.calls A0 c0 ids A1 c1 rows room last r1 W (Kd.F_now (Kd.V_F h0.out)) (Kd.V_at h0.out).2.1 (Kd.F_now (Kd.V_F h1.out)) (Kd.V_at h1.out).2.1 h).mono ?_
  rintro e W' ⟨v0, rfl, g0, hb⟩
  exact ⟨_, rfl, hF.vw (Kd.R_V (base' := 0) (Kd.R_bound g0)) (fun k hk => .inr hk.2.1), hF.below hb⟩
end Go.Proofs.Ytkabbahfaeeihaa.Q
