/- The way up, as an iterator: what walk.up hands back gives the nodes from x to the root, one by one. -/
import Derived.Test.YtgfplpkmcdpbeaaDoorGr
import Derived.Test.YtgfplpkmcdpbeaaDoorFin
import Derived.Test.YtgfplpkmcdpbeaaDoorRange
import Derived.Shelf.Abstract
import Derived.OwnWalkIn
import Derived.TacticsInMore
import Derived.LoopNIn
import Derived.LoopIn
import Derived.Maps.AppendAt
import Derived.RangeFuncBox
namespace Go.Proofs.YtgfplpkmcdpbeaaDoor
open Go.RowKit Go.Shelf

attribute [local go_sem] Oper.semAt_some

/-- The nodes from x up. -/
def ups (w : Int) : Nat → Int → List Int
  | 0, _ => []
  | n + 1, x => if 0 ≤ x then x :: ups w n (Parent x w) else []
def way (x w : Int) : List Int := if isN x w then ups w 8 x else []

theorem ups_neg {w y : Int} (k : Nat) (h : y < 0) : ups w k y = [] := by
  cases k with
  | zero => rfl
  | succ k => simp only [ups]; rw [if_neg (by omega)]
theorem ups_pos {w y : Int} (k : Nat) (h : 0 ≤ y) : ups w (k + 1) y = y :: ups w k (Parent y w) := by
  simp only [ups]; rw [if_pos h]
theorem way_out {x w : Int} (h : isN x w = false) : way x w = [] := by simp [way, h]
theorem way_in {x w : Int} (h : isN x w = true) : way x w = ups w 8 x := by simp [way, h]

/-- Where the iterator stands: at y, k nodes at the most still to come. -/
structure UpAt6 (w y : Int) (k : Nat) : Prop where
  out : y < 0 ∨ (isN y w = true ∧ 7 ≤ lvl y + k)
theorem UpAt6.next {w y : Int} {k : Nat} (hi : isN y w = true) (h : 7 ≤ lvl y + ((k + 1 : Nat) : Int)) : UpAt6 w (Parent y w) k := by
  obtain ⟨u1, u2⟩ := up_at hi
  by_cases hr : y = root w
  · obtain ⟨e, -⟩ := u2 hr
    exact ⟨.inl (by omega)⟩
  · obtain ⟨e1, e2, -⟩ := u1 hr
    exact ⟨.inr ⟨e1, by omega⟩⟩

structure Keep (Bx Bw : Nat) (A B : World) : Prop where
  x : B.heap[Bx]? = A.heap[Bx]?
  w : B.heap[Bw]? = A.heap[Bw]?
  t : B.heap[1]? = A.heap[1]?
theorem Keep.trans {Bx Bw : Nat} {A B C : World} (h : Keep Bx Bw A B) (k : Keep Bx Bw B C) : Keep Bx Bw A C := ⟨k.x.trans h.x, k.w.trans h.w, k.t.trans h.t⟩
theorem Keep.putObj {Bx Bw n : Nat} (hx : Bx < n) (hw : Bw < n) (ht : 1 < n) (A : World) (k : Nat) (o' : Obj) (hk : n ≤ k) : Keep Bx Bw A (A.putObj k o') :=
  ⟨World.putObj_heap_other (by omega), World.putObj_heap_other (by omega), World.putObj_heap_other (by omega)⟩
theorem Tab.block {A B : World} (hT : Tab A) (h : B.heap[1]? = A.heap[1]?) : Tab B :=
  ⟨fun j hj => (World.cell?_of_block (w := A) (w' := B) (a := ⟨1, j, none⟩) h).trans (hT.cell j hj)⟩
theorem dr_heap {A B : World} (h : Dr A B) : B.heap = A.heap := by
  obtain ⟨n, rfl⟩ := h
  induction n with
  | zero => rfl
  | succ n ih => rw [← World.drew_drewN]; exact ih
theorem dr_grownBy {A B : World} (h : Dr A B) (row : Option Nat) : A.grownBy B row := by
  have hg := (dr_grown h).1
  have hh := dr_heap h
  obtain ⟨n, rfl⟩ := h
  induction n with
  | zero => exact ⟨rfl, rfl, rfl, Nat.le_refl _, fun _ _ _ => rfl⟩
  | succ n ih => exact ⟨rfl, rfl, rfl, by rw [hh]; exact Nat.le_refl _, fun k _ _ => by rw [hh]⟩

/-- How far it is to the root, read off the iterator's box. -/
def upLeft (Bx : Nat) (W : World) : Nat :=
  match W.cell? ⟨Bx, 0, none⟩ with
  | some (.int _ y) => if 0 ≤ y then 8 - (lvl y).toNat else 0
  | _ => 0
theorem upLeft_eq {Bx : Nat} {W : World} {y : Int} (h : W.cell? ⟨Bx, 0, none⟩ = some (.int .i64 y)) : upLeft Bx W = if 0 ≤ y then 8 - (lvl y).toNat else 0 := by
  unfold upLeft
  rw [h]

set_option maxRecDepth 100000 in
set_option maxHeartbeats 2000000 in
theorem up_iter (Bx Bw : Nat) (hne : Bx ≠ Bw) (hx1 : Bx ≠ 1) (x w : Int) (W : World) (hx : Boxed W Bx 3 (.int .i64 x)) (hw : Boxed W Bw 3 (.int .i64 w)) (hT : Tab W) :
    IterAt Tryd.prog 57 #[.pointer (some ⟨Bx, 0, none⟩), .pointer (some ⟨Bw, 0, none⟩)] (fun y : Int => #[.int .i64 y]) Bx (Keep Bx Bw) (way x w) W := by
  intro l J Jx hJ hJx hY h0
  refine callsIn_of_wp Tryd.func57 rfl trivial ?_ rfl
  simp only [Tryd.ntmps57, List.size_toArray, List.length_cons, List.length_nil, Nat.reduceAdd, Nat.reduceSub, Array.replicate_succ, Array.replicate_zero, List.push_toArray, List.append_toArray, List.nil_append, List.cons_append]
  have hcx := hx.cell
  have hcw := hw.cell
  have hfx := hx.frozen
  cases hi : isN x w
  · rw [way_out hi] at *
    gi_wp2_with (refine ⟨trivial, ?_⟩; gi_at_call 18; refine (callsIn_wide.2 (is_any _ _ _)).mono ?_; rw [hi]; rintro e w' ⟨rfl, rfl⟩)
    exact bodyPost_ret (results_none rfl _ _ _) rfl ⟨⟨_, rfl⟩, .inl h0⟩
  · have hway := Lib.hid (way_in hi)
    gi_wp2_with (refine ⟨trivial, ?_⟩; gi_at_call 18; refine (callsIn_wide.2 (is_any _ _ _)).mono ?_; rw [hi]; rintro e w' ⟨rfl, rfl⟩)
    gi_loopw [] (fun wr => ∃ (pre : List Int) (y : Int) (k : Nat), Boxed wr Bx 3 (.int .i64 y) ∧ Boxed wr Bw 3 (.int .i64 w) ∧ Tab wr ∧ UpAt6 w y k ∧ way x w = pre ++ ups w k y ∧ J pre wr) (fun wr => upLeft Bx wr)
    case atStart =>
      have := isN_range hi
      have hl := (leaves_at hi).1
      exact ⟨[], x, 8, hx, hw, hT, ⟨.inr ⟨hi, by omega⟩⟩, hway.out, h0⟩
    case round =>
      obtain ⟨pre, y, k, bx, bw, hT', hat, hwy, hJp⟩ := hrel
      clear hcx hcw hfx hx hw hT h0 hi hway
      have hcx := bx.cell
      have hcw := bw.cell
      have hfx := bx.frozen
      have HW := Lib.hid hwy
      clear hwy
      by_cases hy : 0 ≤ y
      · obtain ⟨hi, hk⟩ : isN y w = true ∧ 7 ≤ lvl y + k := by
          rcases hat.out with h | h
          · omega
          · exact h
        have hl := (leaves_at hi).2.1
        obtain ⟨k, rfl⟩ : ∃ j, k = j + 1 := ⟨k - 1, by omega⟩
        have hw2 : way x w = (pre ++ [y]) ++ ups w k (Parent y w) := by rw [HW.out, ups_pos k hy]; simp
        have hnext := UpAt6.next hi hk
        obtain ⟨fn, tmps, assign, body, hy2, hR⟩ := hY pre y wr ⟨_, hw2.symm⟩ hJp
        have HW2 := Lib.hid hw2
        have HI := Lib.hid hi
        have hm0 := upLeft_eq hcx
        rw [if_pos hy] at hm0
        have HM0 := Lib.hid hm0
        clear hw2 hi hm0 HW hk
        gi_wp2
        refine hR.mono ?_
        rintro e W3 (⟨rfl, hJ3, hk3⟩ | ⟨rfl, hJx3⟩)
        · have bx3 : Boxed W3 Bx 3 (.int .i64 y) := hk3.x.trans bx
          have bw3 : Boxed W3 Bw 3 (.int .i64 w) := hk3.w.trans bw
          have hT3 := hT'.block hk3.t
          have hc3 := bx3.cell
          have hw3 := bw3.cell
          have hf3 := bx3.frozen
          clear hk3 hcx hcw hfx bx bw hT'
          gi_wp2_with (refine ⟨trivial, ?_⟩; gi_at_call 28; refine (callsIn_wide.2 (parent_any _ _ _ hT3)).mono ?_; rintro e w4 ⟨rfl, hd⟩; have hh := dr_heap hd; have bx4 : Boxed w4 Bx 3 (.int .i64 y) := by { unfold Boxed; rw [hh]; exact bx3 }; have hc4 := bx4.cell; have hf4 := bx4.frozen; have HH := Lib.hid hh; clear hh)
          have bwx : Boxed (w4.setCell ⟨Bx, 0, none⟩ (.int .i64 (Parent y w))) Bw 3 (.int .i64 w) := by
            unfold Boxed
            rw [Below.heap_setCell _ _ _ _ (fun e => hne e.symm), HH.out]
            exact bw3
          have hTx : Tab (w4.setCell ⟨Bx, 0, none⟩ (.int .i64 (Parent y w))) := (hT3.dr hd).block (Below.heap_setCell _ _ _ _ (fun e => hx1 e.symm))
          have hJx4 : J (pre ++ [y]) (w4.setCell ⟨Bx, 0, none⟩ (.int .i64 (Parent y w))) := hJ _ _ _ (hJ _ _ _ hJ3 (dr_grownBy hd _)) (grownBy_setCell' _ _ _)
          go_roundw
          case rel => exact ⟨pre ++ [y], Parent y w, k, bx4.set _, bwx, hTx, hnext, HW2.out, hJx4⟩
          case measure =>
            rw [HM0.out, upLeft_eq (bx4.set (.int .i64 (Parent y w))).cell]
            split
            · rename_i hp
              have h2 : lvl (Parent y w) = lvl y + 1 := by
                obtain ⟨u1, u2⟩ := up_at HI.out
                by_cases hr : y = root w
                · have := (u2 hr).1
                  omega
                · exact (u1 hr).2.1
              have h0 := (leaves_at HI.out).1
              omega
            · omega
        · gi_wp2
          go_end0
          exact ⟨⟨_, rfl⟩, .inr ⟨pre ++ [y], ⟨_, HW2.out.symm⟩, hJx3⟩⟩
      · have hn : y < 0 := by omega
        have hL : J (way x w) wr := by rw [HW.out, ups_neg k hn]; simpa using hJp
        clear hy
        gi_wp2
        refine ⟨fun _ h => (by cases h), ?_⟩
        gi_wp2
        go_end0
        exact ⟨⟨_, rfl⟩, .inl hL⟩

end Go.Proofs.YtgfplpkmcdpbeaaDoor
