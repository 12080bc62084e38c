/- The ways up as lists: plain facts, no program in sight. -/
import Derived.Test.YtgfplpkmcdpbeaaDoorUnd
namespace Go.Proofs.YtgfplpkmcdpbeaaDoor

def ConsAt (x w : Int) : Prop := way x w = x :: way (Parent x w) w
instance (x w : Int) : Decidable (ConsAt x w) := by unfold ConsAt; infer_instance
theorem way_cons {x w : Int} (h : isN x w = true) : way x w = x :: way (Parent x w) w := fin_node (P := ConsAt) (by decide +kernel) h
theorem parent_cases {x w : Int} (h : isN x w = true) : (x = root w ∧ isN (Parent x w) w = false) ∨ (isN (Parent x w) w = true ∧ lvl (Parent x w) = lvl x + 1) := by
  obtain ⟨u1, u2⟩ := up_at h
  by_cases hr : x = root w
  · refine .inl ⟨hr, ?_⟩
    rw [(u2 hr).1]
    unfold isN
    simp
  · exact .inr ⟨(u1 hr).1, (u1 hr).2.1⟩
theorem lvl_bound {x w : Int} (h : isN x w = true) : 0 ≤ lvl x ∧ lvl x ≤ 6 := ⟨(leaves_at h).1, (leaves_at h).2.1⟩

theorem node_ind {w : Int} {M : Int → Prop} (h : ∀ x, isN x w = true → (isN (Parent x w) w = true → M (Parent x w)) → M x) : ∀ x, isN x w = true → M x := by
  suffices H : ∀ k : Nat, ∀ x, isN x w = true → 7 ≤ lvl x + k → M x from fun x hx => H 7 x hx (by have := lvl_bound hx; omega)
  intro k
  induction k with
  | zero => intro x hx hk; have := lvl_bound hx; omega
  | succ k ih =>
    intro x hx hk
    refine h x hx (fun hp => ih _ hp ?_)
    rcases parent_cases hx with ⟨_, h2⟩ | ⟨_, h2⟩
    · rw [h2] at hp; cases hp
    · omega

theorem way_mem {w z : Int} : ∀ x, isN x w = true → z ∈ way x w → isN z w = true ∧ (z = x ∨ lvl x < lvl z) ∧ ∃ pre, way x w = pre ++ way z w := by
  refine node_ind fun x hx ih hz => ?_
  rw [way_cons hx] at hz
  rcases List.mem_cons.1 hz with rfl | hz
  · exact ⟨hx, .inl rfl, [], rfl⟩
  · cases hp : isN (Parent x w) w
    · rw [way_out hp] at hz
      cases hz
    · obtain ⟨h1, h2, pre, h3⟩ := ih hp hz
      have hl : lvl (Parent x w) = lvl x + 1 := by
        rcases parent_cases hx with ⟨_, h⟩ | ⟨_, h⟩
        · rw [h] at hp; cases hp
        · exact h
      refine ⟨h1, .inr ?_, x :: pre, by rw [way_cons hx, h3]; rfl⟩
      rcases h2 with rfl | h2 <;> omega
theorem way_isN {w z x : Int} (h : z ∈ way x w) : isN z w = true ∧ isN x w = true := by
  cases hx : isN x w
  · rw [way_out hx] at h; cases h
  · exact ⟨(way_mem x hx h).1, rfl⟩
theorem way_suffix {w z x : Int} (h : z ∈ way x w) : ∃ pre, way x w = pre ++ way z w := (way_mem x (way_isN h).2 h).2.2
theorem way_self {w x : Int} (h : isN x w = true) : x ∈ way x w := by rw [way_cons h]; exact List.mem_cons_self ..
theorem root_mem {w : Int} : ∀ x, isN x w = true → root w ∈ way x w := by
  refine node_ind fun x hx ih => ?_
  rw [way_cons hx]
  rcases parent_cases hx with ⟨rfl, _⟩ | ⟨hp, _⟩
  · exact List.mem_cons_self ..
  · exact List.mem_cons_of_mem _ (ih hp)
theorem way_lt {w : Int} : ∀ x, isN x w = true → (way x w).Pairwise (fun a b => lvl a < lvl b) := by
  refine node_ind fun x hx ih => ?_
  rw [way_cons hx]
  cases hp : isN (Parent x w) w
  · rw [way_out hp]
    exact List.pairwise_singleton ..
  · have hl : lvl (Parent x w) = lvl x + 1 := by
      rcases parent_cases hx with ⟨_, h⟩ | ⟨_, h⟩
      · rw [h] at hp; cases hp
      · exact h
    refine List.pairwise_cons.2 ⟨fun z hz => ?_, ih hp⟩
    rcases (way_mem _ hp hz).2.1 with rfl | h <;> omega
theorem way_apart {w x z : Int} {pre : List Int} (h : way x w = pre ++ way z w) (hx : isN x w = true) {u : Int} (h1 : u ∈ pre) (h2 : u ∈ way z w) : False := by
  have := way_lt x hx
  rw [h, List.pairwise_append] at this
  have := this.2.2 u h1 u h2
  omega

/-- The lowest node under which both are. -/
structure Meet (x y w c : Int) : Prop where
  nx : isN x w = true
  ny : isN y w = true
  nc : isN c w = true
  cx : c ∈ way x w
  cy : c ∈ way y w
  split : ∃ p q, way x w = p ++ way c w ∧ way y w = q ++ way c w ∧ (∀ u ∈ p, u ∉ way y w) ∧ (∀ u ∈ q, u ∉ way x w)

theorem first_split {l : List Int} {P : Int → Prop} [DecidablePred P] (h : ∃ u ∈ l, P u) : ∃ p c s, l = p ++ c :: s ∧ (∀ u ∈ p, ¬ P u) ∧ P c := by
  induction l with
  | nil => obtain ⟨u, hu, _⟩ := h; cases hu
  | cons a t ih =>
    by_cases ha : P a
    · exact ⟨[], a, t, rfl, (fun u hu => by cases hu), ha⟩
    · obtain ⟨u, hu, hp⟩ := h
      rcases List.mem_cons.1 hu with rfl | hu
      · exact absurd hp ha
      · obtain ⟨p, c, s, rfl, h1, h2⟩ := ih ⟨u, hu, hp⟩
        refine ⟨a :: p, c, s, rfl, fun v hv => ?_, h2⟩
        rcases List.mem_cons.1 hv with rfl | hv
        · exact ha
        · exact h1 v hv

theorem cut_at {x w c : Int} {p s : List Int} (hx : isN x w = true) (h : way x w = p ++ c :: s) : way x w = p ++ way c w := by
  have hc : c ∈ way x w := by rw [h]; simp
  obtain ⟨q, hq⟩ := way_suffix hc
  have hcn := (way_isN hc).1
  -- p and q are the nodes ahead of c: their lengths are one
  have hnd := way_lt x hx
  have hpq : p = q := by
    rw [way_cons hcn] at hq
    have hE : p ++ c :: s = q ++ c :: way (Parent c w) w := by rw [← h, hq]
    rw [h] at hnd
    have key : ∀ (p q s t : List Int), p ++ c :: s = q ++ c :: t → (p ++ c :: s).Pairwise (fun a b => lvl a < lvl b) → p = q := by
      intro p
      induction p with
      | nil =>
        intro q s t he hpw
        cases q with
        | nil => rfl
        | cons b q =>
          simp only [List.nil_append, List.cons_append, List.cons.injEq] at he
          obtain ⟨rfl, he⟩ := he
          simp only [List.nil_append] at hpw
          rw [List.pairwise_cons] at hpw
          have := hpw.1 c (by rw [he]; simp)
          omega
      | cons a p ih =>
        intro q s t he hpw
        cases q with
        | nil =>
          simp only [List.nil_append, List.cons_append, List.cons.injEq] at he
          obtain ⟨rfl, he⟩ := he
          simp only [List.cons_append] at hpw
          rw [List.pairwise_cons] at hpw
          have := hpw.1 a (by simp)
          omega
        | cons b q =>
          simp only [List.cons_append, List.cons.injEq] at he
          obtain ⟨rfl, he⟩ := he
          simp only [List.cons_append] at hpw
          rw [List.pairwise_cons] at hpw
          rw [ih q s t he hpw.2]
    exact key p q s _ hE hnd
  rw [hpq]
  exact hq

theorem common_meet {x y w : Int} (hx : isN x w = true) (hy : isN y w = true) : Meet x y w (common x y w) := by
  obtain ⟨p, c, s, h1, h2, h3⟩ := first_split (l := way x w) (P := fun z => z ∈ way y w) ⟨root w, root_mem x hx, root_mem y hy⟩
  have hc : common x y w = c := common_some (p := p) ⟨s, by rw [h1]; simp⟩ h2 h3
  rw [hc]
  have hcx : c ∈ way x w := by rw [h1]; simp
  have hx2 := cut_at hx h1
  obtain ⟨q, hq⟩ := way_suffix h3
  refine ⟨hx, hy, (way_isN hcx).1, hcx, h3, p, q, hx2, hq, h2, fun u hu hux => ?_⟩
  rw [hx2] at hux
  rcases List.mem_append.1 hux with h | h
  · exact h2 u h (by rw [hq]; exact List.mem_append.2 (.inl hu))
  · exact way_apart hq hy hu h

theorem meet_common {x y w c : Int} (h : Meet x y w c) : common x y w = c := by
  obtain ⟨p, q, h1, _, h3, _⟩ := h.split
  refine common_some (p := p) ?_ h3 h.cy
  rw [h1, way_cons h.nc]
  exact ⟨_, by rw [List.append_assoc]; rfl⟩
theorem Meet.symm {x y w c : Int} (h : Meet x y w c) : Meet y x w c := by
  obtain ⟨p, q, h1, h2, h3, h4⟩ := h.split
  exact ⟨h.ny, h.nx, h.nc, h.cy, h.cx, q, p, h2, h1, h4, h3⟩
theorem common_comm {x y w : Int} (hx : isN x w = true) (hy : isN y w = true) : common y x w = common x y w := meet_common (common_meet hx hy).symm
theorem Meet.lower {x y w c l : Int} (h : Meet x y w c) (hl : isN l w = true) (hp : Parent l w = c) (h1 : l ∈ way x w) (h2 : l ∈ way y w) : False := by
  obtain ⟨p, q, e1, _, e3, _⟩ := h.split
  rw [e1] at h1
  rcases List.mem_append.1 h1 with h1 | h1
  · exact e3 l h1 h2
  · rcases (way_mem c h.nc h1).2.1 with rfl | hlt
    · rcases parent_cases hl with ⟨_, hh⟩ | ⟨_, hh⟩
      · rw [hp, hl] at hh; cases hh
      · rw [hp] at hh; omega
    · rcases parent_cases hl with ⟨_, hh⟩ | ⟨_, hh⟩
      · rw [hp, h.nc] at hh; cases hh
      · rw [hp] at hh; omega
theorem Meet.of_under {x y w c : Int} (h : Meet x y w c) (hu : y ∈ way x w) : c = y := by
  obtain ⟨p, q, e1, e2, e3, _⟩ := h.split
  rw [e1] at hu
  rcases List.mem_append.1 hu with h1 | h1
  · exact absurd (way_self h.ny) (e3 y h1)
  · -- y is above c, and c above y
    rcases (way_mem c h.nc h1).2.1 with h2 | h2
    · exact h2.symm
    · rcases (way_mem y h.ny h.cy).2.1 with h3 | h3
      · exact h3
      · omega
theorem common_out {x y w : Int} (h : isN x w = false ∨ isN y w = false) : common x y w = -1 := by
  apply common_none
  intro z hz
  rcases h with h | h
  · rw [way_out h] at hz; cases hz
  · rw [way_out h]; simp

end Go.Proofs.YtgfplpkmcdpbeaaDoor
