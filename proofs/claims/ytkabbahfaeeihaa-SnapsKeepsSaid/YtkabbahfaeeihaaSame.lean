/- A row of nodes is the same as itself; what is kept is got. -/
import Derived.Test.YtkabbahfaeeihaaPlain
import Derived.Test.YtkabbahfaeeihaaQ22
namespace Go.Proofs.Ytkabbahfaeeihaa.Q
open Go.RowKit Go.Proofs.YtkabbahfaeeihaaW.PrintWords Go.Proofs.YtkabbahfaeeihaaW.PrintLast Go.Proofs.YtkabbahfaeeihaaW.PrintMore

theorem ints_self (l : List Int) (hl : l.length ≤ 9223372036854775807) : ∀ (m i : Nat), m + i = l.length → Ev (fun k => cordwoodref02_Ints.l0 k l l (i : Int)) true
  | 0, i, h => Ev.step (fun k => by rw [cordwoodref02_Ints.l0, if_neg (by omega)]) (Ev.const _)
  | m + 1, i, h => by
    have hi : i < l.length := by omega
    have hw := wrap_inc hi hl
    refine Ev.step (fun k => ?_) (ints_self l hl m (i + 1) (by omega))
    rw [cordwoodref02_Ints.l0, if_pos (by omega), if_pos (by omega)]
    simp only [if_pos (show (i : Int) < (l.length : Int) by omega), hw, if_true]
/-- A row of nodes whose lists are no longer than may be. -/
def RowOk (t : List S72) : Prop := t.length ≤ 9223372036854775807 ∧ ∀ i : Nat, i < t.length → (rd_T72 t (i : Int)).f2.f2.length ≤ 9223372036854775807
theorem same9_ev (x : S72) (h : x.f2.f2.length ≤ 9223372036854775807) : Ev (fun k => cordwoodref09_Same.f k x.f0 x.f1.f0 x.f1.f1 x.f1.f2 x.f1.f3 x.f2.f0 x.f2.f1 x.f2.f2 x.f0 x.f1.f0 x.f1.f1 x.f1.f2 x.f1.f3 x.f2.f0 x.f2.f1 x.f2.f2) true := by
  obtain ⟨k0, hk⟩ := ints_self x.f2.f2 h _ 0 (by rw [Nat.add_zero])
  refine ⟨k0, fun k hle => ?_⟩
  have h2 : cordwoodref02_Ints.f k x.f2.f2 x.f2.f2 = some true := by
    unfold cordwoodref02_Ints.f
    rw [if_pos rfl]
    exact hk k hle
  simp only [cordwoodref09_Same.f, cordwoodref07_Same.f, cordwoodref08_Same.f, h2, if_true, Option.bind_some, beq_self_eq_true]
theorem same_self (t : List S72) (hl : RowOk t) : ∀ (m i : Nat), m + i = t.length → Ev (fun k => cordwoodref10_Same.l0 k t t (i : Int)) true
  | 0, i, h => Ev.step (fun k => by rw [cordwoodref10_Same.l0, if_neg (by omega)]) (Ev.const _)
  | m + 1, i, h => by
    have hi : i < t.length := by omega
    have hw := wrap_inc hi hl.1
    have ih := same_self t hl m (i + 1) (by omega)
    refine Ev.step (fun k => by rw [cordwoodref10_Same.l0, if_pos (by omega), if_pos (by omega), if_pos (by omega), hw]) (Ev.bind (same9_ev _ (hl.2 i hi)) ?_)
    exact Ev.of (fun k => by rw [if_pos rfl]) ih
theorem same_ev (t : List S72) (hl : RowOk t) : Ev (fun k => cordwoodref10_Same.f k t t) true :=
  Ev.of (g := fun k => cordwoodref10_Same.l0 k t t ((0 : Nat) : Int)) (fun k => by unfold cordwoodref10_Same.f; rw [if_pos rfl]; rfl) (same_self t hl t.length 0 (by omega))
theorem row_ok {W : World} {A : Option Addr} {n : Nat} {t : List S72} (h : Kd.C k72 W A n t) : RowOk t := by
  have hn := h.1
  refine ⟨by have := h.2.1; omega, fun i hi => ?_⟩
  obtain ⟨ad, c, e, hcl, hK, _⟩ := Kd.C_get h z72 (i : Int) (by omega) (by omega)
  obtain ⟨A1, c1, A2, c2, A4, c4, A5, c5, A6, c6, A7, c7, _, _, _, _, _, _, _, _, _, _, _, _, hC⟩ := k72_open hK
  exact hC.2.1
theorem get_ev (ids : List Int) (rows : List (List S72)) (room last : Int) (id : Int) (p : Nat) (hl : ids.length = rows.length) (h : ids.length ≤ 1000) (hp : ids[p]? = some id) (hu : ∀ q, ids[q]? = some id → q = p) :
    Ev (fun k => snaps_Get.f k ids rows room last id) (rd_L7 rows (p : Int), 0) := by
  obtain ⟨r, ⟨k0, hk⟩, hr⟩ := index_ev ids id (by omega) ids.length 0 (by omega)
  have hidx : ∀ k, k0 ≤ k → slices_Index_int_int.f k ids id = some r := hk
  have hpl : p < ids.length := (List.getElem?_eq_some_iff.1 hp).1
  rcases hr with ⟨rfl, hn⟩ | ⟨q, rfl, _, hq⟩
  · exact absurd hp (hn p (by omega))
  · obtain rfl := hu q hq
    refine ⟨k0, fun k hle => ?_⟩
    simp only [snaps_Get.f, api_Node_place.f, hidx k hle, Option.bind_some]
    rw [if_neg (by omega), if_pos (by omega), if_pos (by omega)]
end Go.Proofs.Ytkabbahfaeeihaa.Q
