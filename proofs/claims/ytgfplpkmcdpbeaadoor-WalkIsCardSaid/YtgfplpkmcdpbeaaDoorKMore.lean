/- More on slices that read as lists. -/
import Derived.Test.YtgfplpkmcdpbeaaDoorK
import Derived.Test.YtgfplpkmcdpbeaaDoorWays
import Derived.Deep.RegionHeld3
namespace Go.Proofs.YtgfplpkmcdpbeaaDoor
open Go.RowKit

theorem K.head {W0 W : World} {vs : List (Value × List Int)} {v : Value} {l : List Int} (h : K W0 ((v, l) :: vs) W) : Rd W v l := h.rds _ (List.mem_cons_self ..)
theorem K.rd2 {W0 W : World} {vs : List (Value × List Int)} {p : Value × List Int} {v : Value} {l : List Int} (h : K W0 (p :: (v, l) :: vs) W) : Rd W v l := h.rds (v, l) (by simp)
theorem K.rd3 {W0 W : World} {vs : List (Value × List Int)} {p q : Value × List Int} {v : Value} {l : List Int} (h : K W0 (p :: q :: (v, l) :: vs) W) : Rd W v l := h.rds (v, l) (by simp)
theorem K.drew {W0 W : World} {vs : List (Value × List Int)} (h : K W0 vs W) : K W0 vs W.drew := h.dr (Dr.refl _).one
theorem K.drewN {W0 W : World} {vs : List (Value × List Int)} (h : K W0 vs W) (n : Nat) : K W0 vs (W.drewN n) := h.dr ((Dr.refl _).step n)
theorem ints_same (va vb : Value) (l : List Int) {W0 : World} {vs : List (Value × List Int)} (W : World) (h : K W0 vs W) (ha : Rd W va l) (hb : Rd W vb l) : Calls Tryd.prog 35 #[va, vb] W fun e W' => e = .returned (.bool true) ∧ K W0 vs W' :=
  (ints_k va vb l l W h ha hb).mono fun _ _ ⟨a, b⟩ => ⟨by rw [a]; simp, b⟩
theorem rd_nil (W : World) (A : Option Addr) (c : Nat) (h : c ≤ 9223372036854775807) : Rd W (.slice A 0 c) [] := ⟨A, c, by simp, by simp, h, fun hp => by simp at hp⟩
theorem Rd.cellAt {W : World} {b o n c : Nat} {l : List Int} (h : Rd W (.slice (some ⟨b, o, none⟩) n c) l) (k : Nat) (hk : k < l.length) : W.cell? ⟨b, o + k, none⟩ = some (.int .i64 (l[k]'hk)) := by
  obtain ⟨b', o', e, hc⟩ := h.cell k hk
  simp only [Option.some.injEq, Addr.mk.injEq, and_true] at e
  obtain ⟨rfl, rfl⟩ := e
  exact hc
theorem Rd.drop {W : World} {b o n c : Nat} {l : List Int} (h : Rd W (.slice (some ⟨b, o, none⟩) n c) l) (k : Nat) (hk : k ≤ l.length) (hkc : k < c) : Rd W (.slice (some ⟨b, o + k, none⟩) (n - k) (c - k)) (l.drop k) := by
  obtain ⟨A, c', e, hc, hm, hr⟩ := h
  simp only [Value.slice.injEq] at e
  obtain ⟨rfl, rfl, rfl⟩ := e
  refine ⟨some ⟨b, o + k, none⟩, c - k, by simp, by simp; omega, by omega, fun hp => ?_⟩
  have hp2 : 0 < l.length := by simp at hp; omega
  obtain ⟨b', o', e', hcell⟩ := hr hp2
  simp only [Option.some.injEq, Addr.mk.injEq, and_true] at e'
  obtain ⟨rfl, rfl⟩ := e'
  refine ⟨b, o + k, rfl, fun i hi => ?_⟩
  have hi2 : k + i < l.length := by simp at hi; omega
  have := hcell (k + i) hi2
  rw [show o + k + i = o + (k + i) by omega, this]
  simp
theorem Rd.drop_all {W : World} {l : List Int} (k : Nat) (hk : k = l.length) (B : Option Addr) : Rd W (.slice B 0 0) (l.drop k) := by
  subst hk
  exact ⟨B, 0, by simp, by simp, by omega, fun hp => by simp at hp⟩
theorem rd_sl {W : World} {A : Option Addr} {c : Nat} {l r : List Int} (h : Rd W (.slice A l.length c) l) (k : Nat) (hk : k ≤ l.length) (hr : l.drop k = r) : Rd W (.slice (Option.map (fun x => x.add k) A) (l.length - k) (c - k)) r := by
  obtain ⟨A', c', e, hc, hm, hcell⟩ := h
  simp only [Value.slice.injEq, true_and] at e
  obtain ⟨rfl, rfl⟩ := e
  subst hr
  refine ⟨Option.map (fun x => x.add k) A, c - k, by simp, by simp; omega, by omega, fun hp => ?_⟩
  have hp2 : 0 < l.length := by simp at hp; omega
  obtain ⟨b', o', rfl, hcl⟩ := hcell hp2
  refine ⟨b', o' + k, by simp [Addr.add], fun i hi => ?_⟩
  have hi2 : k + i < l.length := by simp at hi; omega
  have := hcl (k + i) hi2
  rw [show o' + k + i = o' + (k + i) by omega, this]
  simp
theorem rd_sl0 {W : World} {B : Option Addr} {l r : List Int} (k : Nat) (hk : l.length ≤ k) (hr : l.drop k = r) : Rd W (.slice B (l.length - k) 0) r := by
  subst hr
  exact ⟨B, 0, by simp, by simp; omega, by omega, fun hp => by simp at hp; omega⟩
theorem rd_sl00 {W : World} {B : Option Addr} {l r : List Int} (k : Nat) (hk : l.length ≤ k) (hr : l.drop k = r) : Rd W (.slice B 0 0) r := by
  have e : r = [] := by rw [← hr]; exact List.drop_eq_nil_of_le hk
  subst e
  exact rd_nil W B 0 (by omega)
/-- An empty slice's address, or a row's. -/
theorem Rd.shape {W : World} {A : Option Addr} {n c : Nat} {l : List Int} (h : Rd W (.slice A n c) l) : l = [] ∨ (l ≠ [] ∧ ∃ b o, A = some ⟨b, o, none⟩) := by
  cases l with
  | nil => exact .inl rfl
  | cons a t =>
    obtain ⟨b, o, e, _⟩ := h.cell 0 (by simp)
    exact .inr ⟨by simp, b, o, e⟩

/-- Where a loop stands: at a count up to n. -/
structure CountAt (W0 : World) (vs : List (Value × List Int)) (n : Nat) (i : Value) (wr : World) : Prop where
  at_ : ∃ k : Nat, k ≤ n ∧ i = .int .i64 k ∧ K W0 vs wr

end Go.Proofs.YtgfplpkmcdpbeaaDoor
