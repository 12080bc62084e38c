/- cordwoodref02.Ints, cordwoodref06.has, walk.Below over the translation. -/
import Derived.Test.YtgfplpkmcdpbeaaDoorUnd
namespace Go.Proofs.YtgfplpkmcdpbeaaDoor
open Go.RowKit

theorem Rd.dr {W W' : World} {v : Value} {l : List Int} (h : Rd W v l) (hd : Dr W W') : Rd W' v l := by
  obtain ⟨A, c, e, hc, hm, hr⟩ := h
  refine ⟨A, c, e, hc, hm, fun hp => ?_⟩
  obtain ⟨b, o, ea, hcell⟩ := hr hp
  refine ⟨b, o, ea, fun i hi => ?_⟩
  obtain ⟨n, rfl⟩ := hd
  rw [World.cell?_drewN]
  exact hcell i hi

/-- A cell of such a slice. -/
theorem Rd.cell {W : World} {A : Option Addr} {n c : Nat} {l : List Int} (h : Rd W (.slice A n c) l) (k : Nat) (hk : k < l.length) : ∃ b o, A = some ⟨b, o, none⟩ ∧ W.cell? ⟨b, o + k, none⟩ = some (.int .i64 l[k]) := by
  obtain ⟨A', c', e, hc, hm, hr⟩ := h
  obtain ⟨b, o, ea, hcell⟩ := hr (by omega)
  simp only [Value.slice.injEq] at e
  exact ⟨b, o, by rw [e.1]; exact ea, hcell k hk⟩

structure IntsAt (W : World) (la lb : List Int) (i : Value) (wr : World) : Prop where
  at_ : ∃ k : Nat, k ≤ la.length ∧ (∀ j, j < k → la[j]? = lb[j]?) ∧ i = .int .i64 k ∧ Dr W wr

theorem ints_true {la lb : List Int} (hl : la.length = lb.length) (h : ∀ j, j < la.length → la[j]? = lb[j]?) : la = lb := by
  apply List.ext_getElem?
  intro j
  by_cases hj : j < la.length
  · exact h j hj
  · rw [List.getElem?_eq_none (by omega), List.getElem?_eq_none (by omega)]

set_option maxHeartbeats 2000000 in
theorem ints_any (va vb : Value) (la lb : List Int) (W : World) (ha : Rd W va la) (hb : Rd W vb lb) :
    Calls Tryd.prog 35 #[va, vb] W fun e W' => e = .returned (.bool (decide (la = lb))) ∧ Dr W W' := by
  have ha0 := ha
  have hb0 := hb
  obtain ⟨A, ca, rfl, hca, hcma, -⟩ := ha
  obtain ⟨B, cb, rfl, hcb, hcmb, -⟩ := hb
  obtain ⟨r, hr⟩ : ∃ r, decide (la = lb) = r := ⟨_, rfl⟩
  rw [hr]
  have HR := Lib.hid hr
  clear hr
  by_cases hl : la.length = lb.length
  · have hq : ((la.length : Int) != (lb.length : Int)) = false := by simp [hl]
    have HL := Lib.hid hl
    clear hl
    go_enter Tryd.func35, Tryd.ntmps35
    go_wp2
    go_loopw [5] (fun i wr => IntsAt W la lb i wr) (fun i _ => la.length - (intOf i).toNat)
    case atStart => exact ⟨0, Nat.zero_le _, fun j hj => absurd hj (Nat.not_lt_zero _), rfl, Dr.refl _⟩
    case round =>
      obtain ⟨k, hk, hall, rfl, hd⟩ := hrel
      have HA := Lib.hid hall
      clear hall
      by_cases hlt : k < la.length
      · have hltb : k < lb.length := by rw [← HL.out]; exact hlt
        obtain ⟨b1, o1, rfl, c1⟩ := (ha0.dr hd).cell k hlt
        obtain ⟨b2, o2, rfl, c2⟩ := (hb0.dr hd).cell k hltb
        clear ha0 hb0
        have hlt1 : (k : Int) < (la.length : Int) := by omega
        have hlt2 : (k : Int) < (lb.length : Int) := by omega
        have hk0 : (0 : Int) ≤ (k : Int) := by omega
        by_cases he : la[k] = lb[k]
        · have hqe : (la[k] != lb[k]) = false := by simp [he]
          have HE := Lib.hid he
          clear he
          go_wp2
          go_quiet (fail)
          go_wp2
          go_roundw
          case rel =>
            refine ⟨k + 1, by omega, fun j hj => ?_, by go_num, hd.step _⟩
            by_cases hjk : j < k
            · exact HA.out j hjk
            · have : j = k := by omega
              subst this
              rw [List.getElem?_eq_getElem hlt, List.getElem?_eq_getElem hltb, HE.out]
          case measure => simp [intOf]; omega
        · have hqe : (la[k] != lb[k]) = true := by simp [he]
          have hr : decide (la = lb) = false := decide_eq_false (fun h => he (by simp only [h]))
          have hres := Lib.hid (HR.out.symm.trans hr)
          clear he hr
          go_wp2
          go_quiet (fail)
          go_wp2
          go_ret
          exact ⟨by rw [hres.out]; rfl, hd.step _⟩
      · have hr : decide (la = lb) = true := decide_eq_true (ints_true HL.out (fun j hj => HA.out j (by omega)))
        have hres := Lib.hid (HR.out.symm.trans hr)
        clear hr ha0 hb0
        go_wp2
        go_ret
        exact ⟨by rw [hres.out]; rfl, hd⟩
  · have hq : ((la.length : Int) != (lb.length : Int)) = true := by simp; omega
    have hr : decide (la = lb) = false := decide_eq_false (fun h => hl (by rw [h]))
    have hres := Lib.hid (HR.out.symm.trans hr)
    clear hr hl
    go_enter Tryd.func35, Tryd.ntmps35
    go_wp2
    go_ret
    exact ⟨by rw [hres.out]; rfl, Dr.refl _⟩

def lo (x : Int) : Int := (x - (2 ^ (lvl x).toNat - 1)) / 2
def hi (x : Int) : Int := (x + (2 ^ (lvl x).toNat - 1)) / 2

theorem ret_pair {a b c d : Int} (h : a = c) (k : b = d) : Ending.returned (.tuple #[.int .i64 a, .int .i64 b]) = .returned (.tuple #[.int .i64 c, .int .i64 d]) := by rw [h, k]

set_option maxHeartbeats 1000000 in
theorem below_any (x w : Int) (W : World) (hT : Tab W) :
    Calls Tryd.prog 33 #[.int .i64 x, .int .i64 w] W fun e W' => e = .returned (.tuple #[.int .i64 (if isN x w then lo x else -1), .int .i64 (if isN x w then hi x else -1)]) ∧ W = W' := by
  cases hi' : isN x w
  · go_enter Tryd.func33, Tryd.ntmps33
    go_wp2_with (go_at_call 18; refine (is_any _ _ _).mono ?_; rw [hi']; rintro e w' ⟨rfl, rfl⟩)
    go_ret2
    exact ⟨rfl, rfl⟩
  · obtain ⟨r0, r1, r2, r3⟩ := isN_range hi'
    obtain ⟨-, -, -, -, -, -, f7, f8, -⟩ := leaves_at hi'
    obtain ⟨p, hp⟩ : ∃ p, lo x = p := ⟨_, rfl⟩
    obtain ⟨q, hq⟩ : ∃ q, hi x = q := ⟨_, rfl⟩
    simp only [if_true]
    rw [hp, hq]
    unfold lo at hp
    unfold hi at hq
    have hl := level_any x W hT
    rcases lvl_cases r0 r1 with h | h | h | h | h | h | h
    all_goals
      rw [h] at hl hp hq f7 f8
      simp only [Int.reduceToNat, Int.reducePow, Int.reduceSub] at f7 f8 hp hq
      have HL := Lib.hid hl
      have HP := Lib.hid hp
      have HQ := Lib.hid hq
      clear hl h hp hq
      go_enter Tryd.func33, Tryd.ntmps33
      go_wp2_with (first
        | (go_at_call 18; refine (is_any _ _ _).mono ?_; rw [hi']; rintro e w' ⟨rfl, rfl⟩)
        | (go_at_call 20; refine (HL.out).mono ?_; rintro e w' ⟨rfl, rfl⟩))
      go_ret2
      exact ⟨ret_pair (by have := HP.out; omega) (by have := HQ.out; omega), rfl⟩

end Go.Proofs.YtgfplpkmcdpbeaaDoor
