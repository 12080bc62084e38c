/- A range over a function whose iterator keeps a variable of its own in a box (block Bx) between the rounds: one law for the statement. -/
import Derived.RangeFuncNested
import Derived.RangeFuncBound
import Derived.RangeFuncCalls
import Derived.RangeFuncLeaves
namespace Go.Proofs.YtgfplpkmcdpbeaaDoor
open Go.RowKit

/-- What a step of the caller's book-keeping or of the iterator may turn: the iterator's box, or a block from n on that is no cells. -/
def May (Bx n : Nat) (A : World) (row : Option Nat) : Prop := ∀ r, row = some r → r = Bx ∨ (n ≤ r ∧ ∃ o : Obj, A.heap[r]? = some o ∧ o.isCells = false)
def Holds (Bx n : Nat) {β : Type} (I : β → World → Prop) : Prop := ∀ s A B row, I s A → A.grownBy B row → May Bx n A row → I s B

/-- The iterator gf, called in W, gives the elements of L one by one; between them it turns its own box alone; a round that goes on keeps Kp. -/
def IterAt {α : Type} (P : Program) (gf : Nat) (lb : Array Value) (encs : α → Array Value) (Bx : Nat) (Kp : World → World → Prop) (L : List α) (W : World) : Prop :=
  ∀ (l : Nat) (J Jx : List α → World → Prop),
    (∀ s A B, J s A → A.grownBy B (some Bx) → J s B) → (∀ s A B, Jx s A → A.grownBy B (some Bx) → Jx s B) →
    (∀ pre x A, pre ++ [x] <+: L → J pre A → YieldAt Fence.wide 1 P l (encs x) A fun e B =>
      (e = .returned (.bool true) ∧ J (pre ++ [x]) B ∧ Kp A B) ∨ (e = .returned (.bool false) ∧ Jx (pre ++ [x]) B)) →
    J [] W →
    CallsIn Fence.wide 2 P gf (#[.func (.yield l) #[] #[]] ++ lb) W fun e B => (∃ v, e = .returned v) ∧ (J L B ∨ ∃ pre, pre <+: L ∧ Jx pre B)

/-- How a round's body may be left: it goes on, or it returns. -/
def LeftBy {α : Type} (Kp : World → World → Prop) (I Ix : List α → World → Prop) (xs : List α) (W : World) : Exit → Act → World → Prop
  | .normal, _, B => KeepsOthers W B ∧ Kp W B ∧ I xs B
  | .ret, _, B => KeepsOthers W B ∧ Ix xs B
  | _, _, _ => False

section law
variable {P : Program} {α : Type}

theorem rangeSeq {g : Operand} {ps : Array Tmp} {assign body : Code} {Q : Exit → Act → World → Prop} {a : Act} {w : World}
    {gf : Nat} {lb : Array Value} (hg : a.eval g = .func (.func gf) #[] lb) (eg : ∀ args w, (callFunc gf args).run P w = .ok (.enter gf args) w)
    {encs : α → Array Value} {Bx : Nat} {Kp : World → World → Prop} {L : List α} (hBx : ∃ o, w.heap[Bx]? = some o ∧ o.isCells = true)
    (hseq : ∀ o1 o2, IterAt P gf lb encs Bx Kp L ((w.alloc o1).alloc o2)) (hps : ∀ x, (encs x).size = ps.size)
    (hKt : ∀ {A B C : World}, Kp A B → Kp B C → Kp A C) (hKb : ∀ (A : World) (k : Nat) (o' : Obj), w.heap.size ≤ k → Kp A (A.putObj k o'))
    (I Ix : List α → World → Prop) (hI : Holds Bx w.heap.size I) (hIx : Holds Bx w.heap.size Ix) (h0 : I [] w) (a₁ : α → Act)
    (hassign : ∀ (l : Nat) (x : α) (W : World) (K : Act → World → Prop), K (a₁ x) W →
      assign.wpIn (Fence.wide.inRound l) 1 P (Exit.then K (fun _ _ _ => False)) { tmps := (ps.zip (encs x)).foldl (fun t (p, v) => t.setIfInBounds p v) a.tmps, defers := [] } W)
    (hbody : ∀ (l : Nat) (pre : List α) (x : α) (W : World), pre ++ [x] <+: L → I pre W → body.wpIn (Fence.wide.inRound l) 1 P (LeftBy Kp I Ix (pre ++ [x]) W) (a₁ x) W)
    (hdone : ∀ (D : Nat) (W : World), w.heap.size ≤ D → I L W → W.heap[D]? = some (.deferred (some [])) → Q .normal { a with defers := { target := .collected D, args := #[] } :: a.defers } W)
    (hstop : ∀ (D : Nat) (pre : List α) (W : World), w.heap.size ≤ D → pre <+: L → Ix pre W → W.heap[D]? = some (.deferred (some [])) → Q .ret { a with defers := { target := .collected D, args := #[] } :: a.defers } W) :
    (Code.rangeFunc g ps assign body).wpIn Fence.wide 3 P Q a w := by
  refine wpIn_rangeFunc fun fn hfn => ?_
  -- the record of the loop, and the two blocks that the statement lays
  let rec_ : LoopState → Option Code → Obj := fun st pe => .loop { state := st, pending := pe, fn, tmps := a.tmps, params := ps, assign, body, defers := w.heap.size }
  have hlay := run_enterLoop_outer (P := P) (w := w) fn a.tmps ps assign body
  obtain ⟨V, hV⟩ : ∃ V, (w.alloc (.deferred (some []))).alloc (rec_ .ready none) = V := ⟨_, rfl⟩
  have hlay2 : (Instr.enterLoop fn a.tmps ps assign body Fence.wide.round).run P w = .ok (w.heap.size + 1, [{ target := .collected w.heap.size, args := #[] }]) V := by rw [← hV]; exact hlay
  have hVl : V.heap[w.heap.size + 1]? = some (rec_ .ready none) := by
    rw [← hV]
    have := World.alloc_heap_new (w.alloc (.deferred (some []))) (rec_ .ready none)
    rwa [World.size_alloc] at this
  have hVd : V.heap[w.heap.size]? = some (.deferred (some [])) := by
    rw [← hV]
    exact (Below.heap_alloc _ _ _ (by simp)).trans (World.alloc_heap_new w _)
  have hVI : I [] V := by
    rw [← hV]
    exact hI _ _ _ none (hI _ _ _ none h0 (World.grownBy_alloc w _ none) (fun r e => by cases e)) (World.grownBy_alloc _ _ none) (fun r e => by cases e)
  obtain ⟨oB, hoB, hcB⟩ := hBx
  have hltB : Bx < w.heap.size := (Array.getElem?_eq_some_iff.1 hoB).1
  -- the two blocks stand through a step of the iterator's
  have stand : ∀ {A B : World} {k : Nat} {o : Obj}, A.grownBy B (some Bx) → w.heap.size ≤ k → A.heap[k]? = some o → B.heap[k]? = some o := fun {A B k o} hgr hk ho =>
    (hgr.block k (Array.getElem?_eq_some_iff.1 ho).1 (fun e => by cases e; omega)).trans ho
  have put : ∀ {K : List α → World → Prop}, Holds Bx w.heap.size K → ∀ {s : List α} {A : World} {k : Nat} {o : Obj} (o' : Obj), w.heap.size ≤ k → A.heap[k]? = some o → o.isCells = false → K s A → K s (A.putObj k o') :=
    fun {K} hK {s A k o} o' hk ho hc hs => hK s A _ (some k) hs (grownBy_putObj' A k o') (fun r e => by cases e; exact .inr ⟨hk, o, ho, hc⟩)
  let J : List α → World → Prop := fun pre W => I pre W ∧ W.heap[w.heap.size + 1]? = some (rec_ .ready none) ∧ W.heap[w.heap.size]? = some (.deferred (some []))
  let Jx : List α → World → Prop := fun pre W => Ix pre W ∧ W.heap[w.heap.size + 1]? = some (rec_ .done (some .ret)) ∧ W.heap[w.heap.size]? = some (.deferred (some []))
  have hcall := hseq (.deferred (some [])) (rec_ .ready none) (w.heap.size + 1) J Jx
    (fun s A B hs hgr => ⟨hI s A B _ hs.1 hgr (fun r e => by cases e; exact .inl rfl), stand hgr (by omega) hs.2.1, stand hgr (Nat.le_refl _) hs.2.2⟩)
    (fun s A B hs hgr => ⟨hIx s A B _ hs.1 hgr (fun r e => by cases e; exact .inl rfl), stand hgr (by omega) hs.2.1, stand hgr (Nat.le_refl _) hs.2.2⟩)
    (by
      -- one round
      rintro pre x W hpre ⟨hi, hl, hk⟩
      have hlt : w.heap.size + 1 < W.heap.size := (Array.getElem?_eq_some_iff.1 hl).1
      refine ⟨fn, _, assign, body, run_yield hl (hps x), roundIn_of_wpIn hfn (hassign _ x W _ ⟨_, run_beginRound hl rfl, ?_⟩)⟩
      have hl2 : (W.putObj (w.heap.size + 1) (rec_ .busy none)).heap[w.heap.size + 1]? = some (rec_ .busy none) := World.putObj_heap_same hlt
      have hk2 : (W.putObj (w.heap.size + 1) (rec_ .busy none)).heap[w.heap.size]? = some (.deferred (some [])) := (World.putObj_heap_other (by omega)).trans hk
      refine wpIn_mono (hbody _ pre x _ hpre (put hI _ (by omega) hl rfl hi)) ?_
      intro e a3 W3 hp
      cases e with
      | normal =>
        obtain ⟨ko, kp, hi3⟩ := hp
        have hl3 := ko.same _ _ hl2 rfl
        have hk3 := ko.same _ _ hk2 rfl
        exact ⟨_, _, run_endRound none hl3, .inl ⟨rfl, ⟨put hI _ (by omega) hl3 rfl hi3, World.putObj_heap_same (Array.getElem?_eq_some_iff.1 hl3).1, (World.putObj_heap_other (by omega)).trans hk3⟩,
          hKt (hKt (hKb W _ _ (by omega)) kp) (hKb W3 _ _ (by omega))⟩⟩
      | ret =>
        obtain ⟨ko, hi3⟩ := hp
        have hl3 := ko.same _ _ hl2 rfl
        have hk3 := ko.same _ _ hk2 rfl
        exact ⟨_, _, run_endRound (some .ret) hl3, .inr ⟨rfl, put hIx _ (by omega) hl3 rfl hi3, World.putObj_heap_same (Array.getElem?_eq_some_iff.1 hl3).1, (World.putObj_heap_other (by omega)).trans hk3⟩⟩
      | _ => exact hp.elim)
    (by rw [hV]; exact ⟨hVI, hVl, hVd⟩)
  refine ⟨w.heap.size + 1, [{ target := .collected w.heap.size, args := #[] }], V, { target := .fn (.func gf) lb, args := #[.func (.yield (w.heap.size + 1)) #[] #[]] }, V, gf,
    #[.func (.yield (w.heap.size + 1)) #[] #[]] ++ lb, V, hlay2, ?_, ?_, ?_, fun _ => by omega, ?_⟩
  · simp only [resolve, hg]
    simp [go_sem]
  · intro f' _
    trivial
  · simp [invoke, go_sem, eg]
  · rw [hV] at hcall
    refine hcall.mono ?_
    rintro e W2 ⟨⟨v, rfl⟩, ⟨hi, hl, hk⟩ | ⟨pre, hpre, hi, hl, hk⟩⟩
    · exact ⟨none, _, run_endLoop hl (fun h => by cases h), hdone _ _ (Nat.le_refl _) (put hI _ (by omega) hl rfl hi) ((World.putObj_heap_other (by omega)).trans hk)⟩
    · exact ⟨some .ret, _, run_endLoop hl (fun h => by cases h), wpIn_ret (hstop _ pre _ (Nat.le_refl _) hpre (put hIx _ (by omega) hl rfl hi) ((World.putObj_heap_other (by omega)).trans hk))⟩
end law
end Go.Proofs.YtgfplpkmcdpbeaaDoor
