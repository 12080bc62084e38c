/- Arguments that are slices of structs with slices in them: what a reading of them tells, in the words of the contracts (Kd.K). -/
import Derived.Test.YtkabbahfaeeihaaQ0
import Derived.Deep.Slices
import Derived.Deep.Fields
import Derived.ChangeSame
namespace Go.Proofs.Ytkabbahfaeeihaa.Q
open Go.RowKit Go.ChangeShapes Go.WideShapes Go.Deep Go.Proofs.YtkabbahfaeeihaaW.PrintWords Go.Proofs.YtkabbahfaeeihaaW.PrintLast Go.Proofs.YtkabbahfaeeihaaW.PrintMore

section
variable {H : Type} {enc : TypeId × Value → H} {w : World} {base : Nat} {spare : Nat → Bool} {held : Bool}
/-- Whatever is read at type t is told by d. -/
def Opens {α : Type} (enc : TypeId × Value → H) (w : World) (base : Nat) (spare : Nat → Bool) (held : Bool) (d : Kd α) (t : TypeId) : Prop :=
  ∀ (fuel : Nat) (cs : List Value) (x : DataW H × List MemPlace), DataW.trod enc Try.prog w base spare held fuel t cs = some x → ∃ y, d.K w y cs

theorem opens_int {k : IntKind} {t : TypeId} (ht : Try.prog.underlying t = some (.int k)) : Opens enc w base spare held (Kd.int k) t := by
  intro fuel cs x h
  obtain ⟨n, rfl, _⟩ := DataW.trod_int ht h
  exact ⟨n, rfl⟩

theorem all_choose {α : Type} {Q : Nat → α → Prop} : ∀ (n : Nat), (∀ i, i < n → ∃ y, Q i y) → ∃ ys : List α, ys.length = n ∧ ∀ i y, ys[i]? = some y → Q i y
  | 0, _ => ⟨[], rfl, fun i y h => by simp at h⟩
  | n + 1, h => by
    obtain ⟨ys, hl, hq⟩ := all_choose n (fun i hi => h i (by omega))
    obtain ⟨y, hy⟩ := h n (by omega)
    refine ⟨ys ++ [y], by simp [hl], fun i z hz => ?_⟩
    by_cases c : i < n
    · rw [List.getElem?_append_left (by omega)] at hz
      exact hq i z hz
    · by_cases c2 : i = n
      · subst c2
        rw [List.getElem?_append_right (by omega), hl, Nat.sub_self] at hz
        simp at hz
        exact hz ▸ hy
      · rw [List.getElem?_eq_none (by simp; omega)] at hz
        cases hz

theorem opens_slice {α : Type} {d : Kd α} {t e : TypeId} (e' : Nat) (ht : Try.prog.underlying t = some (.slice e)) (hc : Try.prog.cellsOf e = d.sz) (hd : Opens enc w base spare held d e) : Opens enc w base spare held (Kd.slice e' d) t := by
  intro fuel cs x h
  rcases open_slice ht h with ⟨rfl, _⟩ | ⟨a, len, cap, m, n, D, Pl, rfl, hb, hl, hm, hmm, hx, hi⟩
  · exact ⟨[], none, 0, rfl, by simp, rfl, by simp, fun hp => by simp at hp⟩
  · have hlm : len ≤ m := by rw [hmm]; split <;> omega
    obtain ⟨ys, hyl, hq⟩ := all_choose (Q := fun i y => ∃ cs', w.cells? base (a.add (i * Try.prog.cellsOf e)) (Try.prog.cellsOf e) = some cs' ∧ d.K w y cs') len (fun i hi' => by
      obtain ⟨cs', h1, h2⟩ := hi i (by omega)
      obtain ⟨y, hy⟩ := hd _ _ _ h2
      exact ⟨y, cs', h1, hy⟩)
    refine ⟨ys, some a, cap, by rw [hyl], by rw [hyl]; exact hl, rfl, by rw [hyl]; exact Nat.le_trans hl (by simpa [maxLen] using hm), fun _ => ⟨a, rfl, fun j p hj => ?_⟩⟩
    obtain ⟨cs', h1, h2⟩ := hq j p hj
    obtain ⟨_, hcl, hat⟩ := World.cells?_some h1
    rw [hc] at hcl hat
    refine ⟨cs', hcl, h2, fun i u hu => ?_⟩
    have hi2 : i < d.sz := by have := (List.getElem?_eq_some_iff.1 hu).1; omega
    have := hat i hi2
    rw [← Go.Deep.add_add, this, hu]

theorem drop_take_split {l : List Value} {a b : Nat} (h : l.length = a + b) : l = l.take a ++ (l.drop a).take b := by
  have e : (l.drop a).take b = l.drop a := List.take_of_length_le (by simp; omega)
  rw [e, List.take_append_drop]

theorem opens_struct3 {α β γ : Type} {d0 : Kd α} {d1 : Kd β} {d2 : Kd γ} {t : TypeId} {f0 f1 f2 : Field} (ht : Try.prog.underlying t = some (.struct #[f0, f1, f2]))
    (hs : Try.prog.cellsOf t = d0.sz + (d1.sz + d2.sz)) (o0 : f0.offset = 0) (o1 : f1.offset = d0.sz) (o2 : f2.offset = d0.sz + d1.sz) (c0 : Try.prog.cellsOf f0.type = d0.sz) (c1 : Try.prog.cellsOf f1.type = d1.sz) (c2 : Try.prog.cellsOf f2.type = d2.sz)
    (h0 : Opens enc w base spare held d0 f0.type) (h1 : Opens enc w base spare held d1 f1.type) (h2 : Opens enc w base spare held d2 f2.type) : Opens enc w base spare held (Kd.pair d0 (Kd.pair d1 d2)) t := by
  intro fuel cs x h
  obtain ⟨xs, n, _, hx, hcl, hlen, hg⟩ := DataW.trod_struct ht h
  simp only [List.size_toArray, List.length_cons, List.length_nil] at hlen
  match xs, hlen with
  | [y0, y1, y2], _ =>
    have g0 := hg 0 f0 rfl
    have g1 := hg 1 f1 rfl
    have g2 := hg 2 f2 rfl
    rw [o0, c0, List.drop_zero] at g0
    rw [o1, c1] at g1
    rw [o2, c2] at g2
    obtain ⟨z0, k0⟩ := h0 _ _ _ (g0.trans rfl)
    obtain ⟨z1, k1⟩ := h1 _ _ _ (g1.trans rfl)
    obtain ⟨z2, k2⟩ := h2 _ _ _ (g2.trans rfl)
    rw [hs] at hcl
    refine ⟨(z0, z1, z2), cs.take d0.sz, cs.drop d0.sz, (List.take_append_drop _ _).symm, k0, (cs.drop d0.sz).take d1.sz, (cs.drop d0.sz).drop d1.sz, (List.take_append_drop _ _).symm, k1, ?_⟩
    have e : (cs.drop d0.sz).drop d1.sz = (cs.drop (d0.sz + d1.sz)).take d2.sz := by
      rw [List.drop_drop, List.take_of_length_le (by simp; omega)]
    rw [e]
    exact k2

theorem opens_struct4 {α β γ δ : Type} {d0 : Kd α} {d1 : Kd β} {d2 : Kd γ} {d3 : Kd δ} {t : TypeId} {f0 f1 f2 f3 : Field} (ht : Try.prog.underlying t = some (.struct #[f0, f1, f2, f3]))
    (hs : Try.prog.cellsOf t = d0.sz + (d1.sz + (d2.sz + d3.sz))) (o0 : f0.offset = 0) (o1 : f1.offset = d0.sz) (o2 : f2.offset = d0.sz + d1.sz) (o3 : f3.offset = d0.sz + d1.sz + d2.sz) (c0 : Try.prog.cellsOf f0.type = d0.sz) (c1 : Try.prog.cellsOf f1.type = d1.sz) (c2 : Try.prog.cellsOf f2.type = d2.sz) (c3 : Try.prog.cellsOf f3.type = d3.sz)
    (h0 : Opens enc w base spare held d0 f0.type) (h1 : Opens enc w base spare held d1 f1.type) (h2 : Opens enc w base spare held d2 f2.type) (h3 : Opens enc w base spare held d3 f3.type) : Opens enc w base spare held (Kd.pair d0 (Kd.pair d1 (Kd.pair d2 d3))) t := by
  intro fuel cs x h
  obtain ⟨xs, n, _, hx, hcl, hlen, hg⟩ := DataW.trod_struct ht h
  simp only [List.size_toArray, List.length_cons, List.length_nil] at hlen
  match xs, hlen with
  | [y0, y1, y2, y3], _ =>
    have g0 := hg 0 f0 rfl
    have g1 := hg 1 f1 rfl
    have g2 := hg 2 f2 rfl
    have g3 := hg 3 f3 rfl
    rw [o0, c0, List.drop_zero] at g0
    rw [o1, c1] at g1
    rw [o2, c2] at g2
    rw [o3, c3] at g3
    obtain ⟨z0, k0⟩ := h0 _ _ _ (g0.trans rfl)
    obtain ⟨z1, k1⟩ := h1 _ _ _ (g1.trans rfl)
    obtain ⟨z2, k2⟩ := h2 _ _ _ (g2.trans rfl)
    obtain ⟨z3, k3⟩ := h3 _ _ _ (g3.trans rfl)
    rw [hs] at hcl
    refine ⟨(z0, z1, z2, z3), cs.take d0.sz, cs.drop d0.sz, (List.take_append_drop _ _).symm, k0, (cs.drop d0.sz).take d1.sz, (cs.drop d0.sz).drop d1.sz, (List.take_append_drop _ _).symm, k1, ?_⟩
    rw [List.drop_drop]
    refine ⟨(cs.drop (d0.sz + d1.sz)).take d2.sz, (cs.drop (d0.sz + d1.sz)).drop d2.sz, (List.take_append_drop _ _).symm, k2, ?_⟩
    have e : (cs.drop (d0.sz + d1.sz)).drop d2.sz = (cs.drop (d0.sz + d1.sz + d2.sz)).take d3.sz := by
      rw [List.drop_drop, List.take_of_length_le (by simp; omega)]
    rw [e]
    exact k3

theorem opens_iso {α β : Type} {d : Kd α} {f : β → α} {t : TypeId} (g : α → β) (hfg : ∀ a, f (g a) = a) (h : Opens enc w base spare held d t) : Opens enc w base spare held (Kd.iso d f) t := by
  intro fuel cs x hx
  obtain ⟨y, hy⟩ := h fuel cs x hx
  exact ⟨g y, by show d.K w (f (g y)) cs; rw [hfg]; exact hy⟩

theorem opens_bytes : Opens enc w base spare held (Kd.slice 5 (Kd.int .u8)) 66 := opens_slice 5 Try.underlying66 (by kernel_rfl) (opens_int Try.underlying5)
theorem opens_ints : Opens enc w base spare held (Kd.slice 3 (Kd.int .i64)) 24 := opens_slice 3 Try.underlying24 (by kernel_rfl) (opens_int Try.underlying3)
theorem opens68 : Opens enc w base spare held k68 68 := opens_iso (fun y => ⟨y.1, y.2.1, y.2.2.1, y.2.2.2⟩) (fun _ => rfl)
  (opens_struct4 Try.underlying68 (by kernel_rfl) rfl rfl rfl rfl (by kernel_rfl) (by kernel_rfl) (by kernel_rfl) (by kernel_rfl) opens_bytes opens_bytes (opens_int Try.underlying3) opens_bytes)
theorem opens70 : Opens enc w base spare held k70 70 := opens_iso (fun y => ⟨y.1, y.2.1, y.2.2⟩) (fun _ => rfl)
  (opens_struct3 Try.underlying70 (by kernel_rfl) rfl rfl rfl (by kernel_rfl) (by kernel_rfl) (by kernel_rfl) opens_bytes opens_bytes opens_ints)
theorem opens72 : Opens enc w base spare held k72 72 := opens_iso (fun y => ⟨y.1, y.2.1, y.2.2⟩) (fun _ => rfl)
  (opens_struct3 Try.underlying72 (by kernel_rfl) rfl rfl rfl (by kernel_rfl) (by kernel_rfl) (by kernel_rfl) (opens_int Try.underlying3) opens68 opens70)
theorem opens31 : Opens enc w base spare held (Kd.slice 72 k72) 31 := opens_slice 72 Try.underlying31 (by kernel_rfl) opens72
theorem opens50 : Opens enc w base spare held k50 50 := opens_iso (fun y => ⟨y.1, y.2.1, y.2.2⟩) (fun _ => rfl)
  (opens_struct3 Try.underlying50 (by kernel_rfl) rfl rfl rfl (by kernel_rfl) (by kernel_rfl) (by kernel_rfl) (opens_int Try.underlying3) (opens_int Try.underlying3) opens31)
theorem opens42 : Opens enc w base spare held (Kd.slice 50 k50) 42 := opens_slice 50 Try.underlying42 (by kernel_rfl) opens50
theorem opens22 : Opens enc w base spare held (Kd.slice 31 (Kd.slice 72 k72)) 22 := opens_slice 31 Try.underlying22 (by kernel_rfl) opens31
end
end Go.Proofs.Ytkabbahfaeeihaa.Q
