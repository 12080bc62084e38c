/- The contracts of the reference of layer 6 over the translation. -/
import Derived.Test.YtgfplpkmcdpbeaaDoorKMore
import Derived.Test.YtgfplpkmcdpbeaaDoorRefB
import Derived.Test.YtgfplpkmcdpbeaaDoorFast
namespace Go.Proofs.YtgfplpkmcdpbeaaDoor
open Go.RowKit

/-- A row of the call's own while a loop appends to it. -/
structure RowAt (W0 : World) (l : List Int) (v : Value) (wr : World) : Prop where
  own : wr.ownsRow W0.heap.size 3 1 v (eInts l).length (eInts l)
  k : K W0 [] wr
  one : 1 < W0.heap.size

theorem RowAt.rd {W0 wr : World} {l : List Int} {v : Value} (h : RowAt W0 l v wr) : Rd wr v l := own_rd h.own

theorem way_tail (x w : Int) : (way x w).tail = way (Parent x w) w := by
  cases h : isN x w
  · have hn : isN (-1) w = false := by unfold isN; simp
    rw [way_out h, Parent_out h, way_out hn]
    rfl
  · rw [way_cons h]
    rfl
theorem way_pos {y w : Int} (h : 0 ≤ y) (hv : y = -1 ∨ isN y w = true) : isN y w = true := by
  rcases hv with rfl | hv
  · omega
  · exact hv
theorem parent_valid (x w : Int) : Parent x w = -1 ∨ isN (Parent x w) w = true := by
  cases h : isN x w
  · exact .inl (Parent_out h)
  · obtain ⟨u1, u2⟩ := up_at h
    by_cases hr : x = root w
    · exact .inl (u2 hr).1
    · exact .inr (u1 hr).1

theorem RowAt.push {W0 W w1 : World} {l : List Int} {v v' : Value} {z : Int} {m : Nat} {ys : List Value} {tmp : Obj} (h : RowAt W0 l v W) (hm : m = (eInts l).length + 1) (hy : ys = eInts l ++ [.int .i64 z])
    (hown : w1.ownsRow W0.heap.size 3 1 v' m ys) (hg : (W.alloc tmp).grownBy w1 v.ownBlock) : RowAt W0 (l ++ [z]) v' w1 := by
  have hs := h.k.below.size
  have hb : Below W0.heap.size W w1 := ((Below.refl _ W).alloc hs tmp).grown hg (by simp only [World.size_alloc]; omega) (fun j ej => by
    rcases h.own.2 with ⟨rfl, _⟩ | ⟨g, cap, cur, rfl, hb, _, _⟩
    · simp [Value.ownBlock] at ej
    · obtain rfl : g = j := by simpa [Value.ownBlock] using ej
      exact hb)
  refine ⟨?_, ⟨h.k.below.trans hb, h.k.tab.block (hb.block 1 h.one), (fun p hp => by cases hp)⟩, h.one⟩
  have e : eInts (l ++ [z]) = eInts l ++ [.int .i64 z] := by simp [eInts]
  rw [e]
  subst hm hy
  simpa using hown
theorem RowAt.next {W0 W w1 : World} {l : List Int} {v : Value} (h : RowAt W0 l v W) (hb : Below W.heap.size W w1) : RowAt W0 l v w1 :=
  ⟨h.own.kept (⟨hb.os, hb.tape, hb.output, hb.size, fun i hi _ => hb.block i hi⟩ : W.grownBy w1 none) (by cases v.ownBlock <;> simp), h.k.next hb, h.one⟩

structure DirAt (W0 : World) (L : List Int) (w : Int) (v p : Value) (wr : World) : Prop where
  at_ : ∃ (pre : List Int) (y : Int), L = pre ++ way y w ∧ (y = -1 ∨ isN y w = true) ∧ p = .int .i64 y ∧ RowAt W0 pre v wr
/-- How far it is to the root. -/
def toGo (p : Value) : Nat := if 0 ≤ intOf p then 8 - (lvl (intOf p)).toNat else 0

theorem toGo_step {y w : Int} (h : isN y w = true) : toGo (.int .i64 (Parent y w)) < toGo (.int .i64 y) := by
  have hb := lvl_bound h
  have hr := isN_range h
  have e1 : toGo (.int .i64 y) = if 0 ≤ y then 8 - (lvl y).toNat else 0 := rfl
  have e2 : toGo (.int .i64 (Parent y w)) = if 0 ≤ Parent y w then 8 - (lvl (Parent y w)).toNat else 0 := rfl
  rw [e1, e2, if_pos hr.1]
  split
  · rename_i hp
    rcases parent_cases h with ⟨_, h2⟩ | ⟨_, h2⟩
    · rcases parent_valid y w with h3 | h3
      · omega
      · rw [h3] at h2; cases h2
    · omega
  · omega

set_option maxRecDepth 100000 in
set_option maxHeartbeats 4000000 in
theorem rdirect_any (x w : Int) (W : World) (hT : Tab W) :
    Calls Tryd.prog 37 #[.int .i64 x, .int .i64 w] W fun e W' => ∃ v, e = .returned v ∧ K W [(v, (way x w).tail)] W' := by
  obtain ⟨i0, hi, hz0, hz1, hz2⟩ := info_parts Tryd.info3
  have hlen := way_len x w
  obtain ⟨L, hL⟩ : ∃ L, (way x w).tail = L := ⟨_, rfl⟩
  have hLl : L.length ≤ 8 := by rw [← hL]; simp; omega
  have hwt := way_tail x w
  rw [hL] at hwt ⊢
  have HWT := Lib.hid hwt
  clear hL hwt hlen
  have hpv := parent_valid x w
  have hk0 := K.refl hT
  go_enter Tryd.func37, Tryd.ntmps37
  go_wp2_with (go_at_call 29; refine (rparent_any _ _ _).mono ?_; rintro e w' ⟨rfl, rfl⟩)
  go_loopw [5, 6] (fun v p wr => DirAt W L w v p wr) (fun _ p _ => toGo p)
  case atStart => exact ⟨[], Parent x w, HWT.out, hpv, rfl, World.ownsRow_nil _ _ _ _, hk0, hT.lt⟩
  case round =>
    obtain ⟨pre, y, hpre, hyv, rfl, hr⟩ := hrel
    have hrow := hr.own
    have hk := hr.k
    have HP := Lib.hid hpre
    clear hpre hpv hk0
    by_cases hy : 0 ≤ y
    · have hn := way_pos hy hyv
      have hsplit : L = (pre ++ [y]) ++ way (Parent y w) w := by rw [HP.out, way_cons hn]; simp
      have hln : (eInts pre).length ≤ 8 := by
        have : pre.length ≤ L.length := by rw [HP.out]; simp
        simp [eInts]
        omega
      have HS := Lib.hid hsplit
      have HN := Lib.hid hn
      have hsz := hk.below.size
      clear hsplit hn hyv
      go_wp2_with (first
        | (at_builtin; refine wpList_append_own _ rfl _ _ 30 rfl W.heap.size 3 i0 (.int .i64 0) 1 8 Tryd.underlying30 hi hz0 hz1 hz2 rfl (by decide) _ _ _ rfl (hrow.alloc _) ⟨wr.heap.size, 0, none⟩ 1 1 [.int .i64 y] rfl rfl (cell_one_new _ _ _) (by simp [Value.oneCell']) (by unfold maxLen; omega) (by omega) (by simp only [World.size_alloc]; omega) ?_; intro v' w1 hown' hgrow _; have hr2 := hr.push rfl rfl hown' hgrow; clear hrow hk hown' hgrow)
        | (go_at_call 29; refine (rparent_any _ _ _).mono ?_; rintro e w2 ⟨rfl, rfl⟩))
      have hpv2 := parent_valid y w
      go_roundw
      case rel => exact ⟨pre ++ [y], Parent y w, HS.out, hpv2, rfl, hr2⟩
      case measure => exact toGo_step HN.out
    · have hy1 : y = -1 := by
        rcases hyv with h | h
        · exact h
        · have := isN_range h
          omega
      have hL : L = pre := by
        rw [HP.out, hy1, way_out (show isN (-1) w = false by unfold isN; simp)]
        simp
      have HL := Lib.hid hL
      clear hL
      subst hy1
      clear hyv hy
      go_wp2
      go_ret
      exact ⟨_, rfl, by rw [HL.out]; exact hk.cons hr.rd⟩

def CopAt (x w : Int) : Prop := (0 ≤ Parent x w → 0 ≤ Sibling x w) ∧ (Parent x w < 0 → Sibling x w < 0)
instance (x w : Int) : Decidable (CopAt x w) := by unfold CopAt; infer_instance
theorem cop_at {x w : Int} (h : isN x w = true) : CopAt x w := fin_node (P := CopAt) (by decide +kernel) h
theorem cops_step {y w : Int} (h : 0 ≤ Parent y w) : isN y w = true ∧ cops w (way y w) = Sibling y w :: cops w (way (Parent y w) w) := by
  have hn : isN y w = true := by
    cases hn : isN y w
    · rw [Parent_out hn] at h; omega
    · rfl
  refine ⟨hn, ?_⟩
  have := (cop_at hn).1 h
  rw [way_cons hn]
  simp [cops, this]
theorem cops_end {y w : Int} (h : Parent y w < 0) : cops w (way y w) = [] := by
  cases hn : isN y w
  · rw [way_out hn]; rfl
  · have hs := (cop_at hn).2 h
    have hp : Parent y w = -1 := by
      rcases parent_valid y w with hp | hp
      · exact hp
      · have := isN_range hp; omega
    rw [way_cons hn, hp, way_out (show isN (-1) w = false by unfold isN; simp)]
    simp [cops]
    omega

structure CopLoop (W0 : World) (L : List Int) (w : Int) (x v : Value) (wr : World) : Prop where
  at_ : ∃ (pre : List Int) (y : Int), L = pre ++ cops w (way y w) ∧ x = .int .i64 y ∧ RowAt W0 pre v wr
/-- How far it is to the root, from any number. -/
noncomputable def toGo2 (w : Int) (p : Value) : Nat := if 0 ≤ Parent (intOf p) w then 8 - (lvl (intOf p)).toNat else 0
theorem toGo2_step {y w : Int} (h : 0 ≤ Parent y w) : toGo2 w (.int .i64 (Parent y w)) < toGo2 w (.int .i64 y) := by
  have hn := (cops_step h).1
  have hb := lvl_bound hn
  have e1 : toGo2 w (.int .i64 y) = if 0 ≤ Parent y w then 8 - (lvl y).toNat else 0 := rfl
  have e2 : toGo2 w (.int .i64 (Parent y w)) = if 0 ≤ Parent (Parent y w) w then 8 - (lvl (Parent y w)).toNat else 0 := rfl
  rw [e1, e2, if_pos h]
  split
  · rcases parent_cases hn with ⟨_, h2⟩ | ⟨_, h2⟩
    · rcases parent_valid y w with h3 | h3
      · omega
      · rw [h3] at h2; cases h2
    · omega
  · omega

set_option maxRecDepth 100000 in
set_option maxHeartbeats 4000000 in
theorem rcopath_any (x w : Int) (W : World) (hT : Tab W) :
    Calls Tryd.prog 39 #[.int .i64 x, .int .i64 w] W fun e W' => ∃ v, e = .returned v ∧ K W [(v, cops w (way x w))] W' := by
  obtain ⟨i0, hi, hz0, hz1, hz2⟩ := info_parts Tryd.info3
  have hlen := way_len x w
  have hcl := cops_len w (way x w)
  obtain ⟨L, hL⟩ : ∃ L, cops w (way x w) = L := ⟨_, rfl⟩
  rw [hL] at hcl ⊢
  have hLl : L.length ≤ 8 := by omega
  have HL := Lib.hid hL
  clear hL hlen hcl
  have hk0 := K.refl hT
  go_enter Tryd.func39, Tryd.ntmps39
  go_wp2
  go_loopw [0, 5] (fun x v wr => CopLoop W L w x v wr) (fun x _ _ => toGo2 w x)
  case atStart => exact ⟨[], x, HL.out.symm, rfl, World.ownsRow_nil _ _ _ _, hk0, hT.lt⟩
  case round =>
    obtain ⟨pre, y, hpre, rfl, hr⟩ := hrel
    have hrow := hr.own
    have hk := hr.k
    have HP := Lib.hid hpre
    clear hpre hk0
    by_cases hy : 0 ≤ Parent y w
    · obtain ⟨hn, hst⟩ := cops_step hy
      have hsplit : L = (pre ++ [Sibling y w]) ++ cops w (way (Parent y w) w) := by rw [HP.out, hst]; simp
      have hln : (eInts pre).length ≤ 8 := by
        have : pre.length ≤ L.length := by rw [HP.out]; simp
        simp [eInts]
        omega
      have HS := Lib.hid hsplit
      have HY := Lib.hid hy
      have hsz := hk.below.size
      clear hsplit hn hst
      go_wp2_with (first
        | (at_builtin; refine wpList_append_own _ rfl _ _ 30 rfl W.heap.size 3 i0 (.int .i64 0) 1 8 Tryd.underlying30 hi hz0 hz1 hz2 rfl (by decide) _ _ _ rfl (hrow.alloc _) ⟨wr.heap.size, 0, none⟩ 1 1 [.int .i64 (Sibling y w)] rfl rfl (cell_one_new _ _ _) (by simp [Value.oneCell']) (by unfold maxLen; omega) (by omega) (by simp only [World.size_alloc]; omega) ?_; intro v' w1 hown' hgrow _; have hr2 := hr.push rfl rfl hown' hgrow; clear hrow hk hown' hgrow)
        | (go_at_call 31; refine (rsibling_any _ _ _).mono ?_; rintro e w2 ⟨rfl, rfl⟩)
        | (go_at_call 29; refine (rparent_any _ _ _).mono ?_; rintro e w2 ⟨rfl, rfl⟩))
      go_roundw
      case rel => exact ⟨pre ++ [Sibling y w], Parent y w, HS.out, rfl, hr2⟩
      case measure => exact toGo2_step HY.out
    · have hL : L = pre := by
        rw [HP.out, cops_end (by omega)]
        simp
      have HL2 := Lib.hid hL
      clear hL
      go_wp2_with (go_at_call 29; refine (rparent_any _ _ _).mono ?_; rintro e w2 ⟨rfl, rfl⟩)
      go_ret
      exact ⟨_, rfl, by rw [HL2.out]; exact hk.cons hr.rd⟩

structure HasAt (W : World) (l : List Int) (x : Int) (i : Value) (wr : World) : Prop where
  at_ : ∃ k : Nat, k ≤ l.length ∧ (∀ j (h : j < l.length), j < k → l[j] ≠ x) ∧ i = .int .i64 k ∧ wr = W

set_option maxHeartbeats 2000000 in
theorem rhas_any (v : Value) (l : List Int) (x : Int) (W : World) (hv : Rd W v l) :
    Calls Tryd.prog 53 #[v, .int .i64 x] W fun e W' => e = .returned (.bool (decide (x ∈ l))) ∧ W = W' := by
  have hv0 := hv
  obtain ⟨A, c, rfl, hc, hcm, -⟩ := hv
  obtain ⟨r, hr⟩ : ∃ r, decide (x ∈ l) = r := ⟨_, rfl⟩
  rw [hr]
  have HR := Lib.hid hr
  clear hr
  go_enter Tryd.func53, Tryd.ntmps53
  go_wp2
  go_loopw [5] (fun i wr => HasAt W l x i wr) (fun i _ => l.length - (intOf i).toNat)
  case atStart => exact ⟨0, Nat.zero_le _, (fun j _ hj => absurd hj (Nat.not_lt_zero _)), rfl, rfl⟩
  case round =>
    obtain ⟨k, hk, hall, rfl, rfl⟩ := hrel
    have HA := Lib.hid hall
    clear hall
    by_cases hlt : k < l.length
    · obtain ⟨b1, o1, rfl, c1⟩ := hv0.cell k hlt
      have hlt1 : (k : Int) < (l.length : Int) := by omega
      have hk0 : (0 : Int) ≤ (k : Int) := by omega
      by_cases he : l[k] = x
      · have hq : (l[k] == x) = true := by simp [he]
        have hin : decide (x ∈ l) = true := decide_eq_true (by rw [← he]; exact List.getElem_mem _)
        have HI := Lib.hid (HR.out.symm.trans hin)
        clear he hin
        go_wp2
        go_ret
        exact ⟨by rw [HI.out]; rfl, rfl⟩
      · have hq : (l[k] == x) = false := by simp [he]
        have HE := Lib.hid he
        clear he
        go_wp2
        go_roundw
        case rel =>
          refine ⟨k + 1, by omega, fun j hj hjk => ?_, by go_num, rfl⟩
          by_cases h2 : j < k
          · exact HA.out j hj h2
          · obtain rfl : j = k := by omega
            exact HE.out
        case measure => simp [intOf]; omega
    · have hin : decide (x ∈ l) = false := decide_eq_false (fun h => by
        obtain ⟨j, hj, hjx⟩ := List.mem_iff_getElem.1 h
        exact HA.out j hj (by omega) hjx)
      have HI := Lib.hid (HR.out.symm.trans hin)
      clear hin
      go_wp2
      go_ret
      exact ⟨by rw [HI.out]; rfl, rfl⟩

theorem runder_eq (x y w : Int) (hx : isN x w = true) : decide (y ∈ way x w) = (decide (x = y) || decide (y ∈ (way x w).tail)) := by
  rw [way_cons hx, Bool.eq_iff_iff]
  by_cases h : x = y
  · simp [h]
  · have h' : ¬ y = x := fun e => h e.symm
    by_cases hm : y ∈ way (Parent x w) w <;> simp [h, h', hm]

set_option maxHeartbeats 2000000 in
theorem runder_k (x y w : Int) {W0 : World} {vs : List (Value × List Int)} (W : World) (h : K W0 vs W) : Calls Tryd.prog 43 #[.int .i64 x, .int .i64 y, .int .i64 w] W fun e W' => e = .returned (.bool (decide (y ∈ way x w))) ∧ K W0 vs W' := by
  have hT := h.tab
  have fin : ∀ W', Below W.heap.size W W' → K W0 vs W' := fun W' hb => h.next hb
  have FIN := Lib.hid fin
  clear fin h
  obtain ⟨r, hr⟩ : ∃ r, decide (y ∈ way x w) = r := ⟨_, rfl⟩
  rw [hr]
  cases hx : isN x w
  · have hf : r = false := by rw [← hr, way_out hx]; simp
    subst hf
    clear hr
    go_enter Tryd.func43, Tryd.ntmps43
    go_wp2_with (go_at_call 19; refine (ris_any _ _ _).mono ?_; rintro e w2 ⟨rfl, rfl⟩)
    go_ret
    exact ⟨rfl, FIN.out _ (Below.refl _ _)⟩
  · cases hy : isN y w
    · have hf : r = false := by
        rw [← hr]
        exact decide_eq_false (fun hm => by rw [(way_isN hm).1] at hy; cases hy)
      subst hf
      clear hr
      go_enter Tryd.func43, Tryd.ntmps43
      go_wp2_with (go_at_call 19; refine (ris_any _ _ _).mono ?_; rintro e w2 ⟨rfl, rfl⟩)
      go_ret
      exact ⟨rfl, FIN.out _ (Below.refl _ _)⟩
    · rw [runder_eq x y w hx] at hr
      by_cases he : x = y
      · have hf : r = true := by rw [← hr]; simp [he]
        subst hf
        have hq : (x == y) = true := by simp [he]
        clear hr he
        go_enter Tryd.func43, Tryd.ntmps43
        go_wp2_with (go_at_call 19; refine (ris_any _ _ _).mono ?_; rintro e w2 ⟨rfl, rfl⟩)
        go_ret
        exact ⟨rfl, FIN.out _ (Below.refl _ _)⟩
      · have hq : (x == y) = false := by simp [he]
        have hr2 : decide (y ∈ (way x w).tail) = r := by rw [← hr]; simp [he]
        have HR := Lib.hid hr2
        clear hr hr2 he
        go_enter Tryd.func43, Tryd.ntmps43
        go_wp2_with (first
          | (go_at_call 19; refine (ris_any _ _ _).mono ?_; rintro e w2 ⟨rfl, rfl⟩)
          | (go_at_call 37; refine (rdirect_any _ _ _ hT).mono ?_; rintro e w3 ⟨v3, rfl, hk3⟩)
          | (go_at_call 53; refine (rhas_any _ _ _ _ hk3.head).mono ?_; rw [HR.out]; rintro e w4 ⟨rfl, rfl⟩))
        go_ret
        exact ⟨rfl, FIN.out _ hk3.below⟩

structure ComAt (W0 : World) (y w : Int) (L : List Int) (x : Value) (wr : World) : Prop where
  at_ : ∃ (pre : List Int) (z : Int), L = pre ++ way z w ∧ (∀ u ∈ pre, u ∉ way y w) ∧ isN z w = true ∧ x = .int .i64 z ∧ K W0 [] wr

set_option maxHeartbeats 4000000 in
theorem rcommon_any (x y w : Int) (W : World) (hT : Tab W) :
    Calls Tryd.prog 41 #[.int .i64 x, .int .i64 y, .int .i64 w] W fun e W' => e = .returned (.int .i64 (common x y w)) ∧ K W [] W' := by
  have hk0 := K.refl hT
  cases hx : isN x w
  · rw [common_out (.inl hx)]
    go_enter Tryd.func41, Tryd.ntmps41
    go_wp2_with (go_at_call 19; refine (ris_any _ _ _).mono ?_; rintro e w2 ⟨rfl, rfl⟩)
    go_ret
    exact ⟨rfl, hk0⟩
  · cases hy : isN y w
    · rw [common_out (.inr hy)]
      go_enter Tryd.func41, Tryd.ntmps41
      go_wp2_with (go_at_call 19; refine (ris_any _ _ _).mono ?_; rintro e w2 ⟨rfl, rfl⟩)
      go_ret
      exact ⟨rfl, hk0⟩
    · obtain ⟨c, hc⟩ : ∃ c, common x y w = c := ⟨_, rfl⟩
      rw [hc]
      have hrt := root_mem y hy
      obtain ⟨L, hL⟩ : ∃ L, way x w = L := ⟨_, rfl⟩
      have HL := Lib.hid hL
      have HC := Lib.hid hc
      have HR := Lib.hid hrt
      clear hc hrt hL
      go_enter Tryd.func41, Tryd.ntmps41
      go_wp2_with (go_at_call 19; refine (ris_any _ _ _).mono ?_; rintro e w2 ⟨rfl, rfl⟩)
      go_loopw [0] (fun x wr => ComAt W y w L x wr) (fun x _ => toGo x)
      case atStart => exact ⟨[], x, HL.out.symm, (fun u hu => by cases hu), hx, rfl, hk0⟩
      case round =>
        obtain ⟨pre, z, hpre, hall, hz, rfl, hk⟩ := hrel
        have HP := Lib.hid hpre
        have HA := Lib.hid hall
        clear hpre hall hk0
        by_cases hm : z ∈ way y w
        · have hd := decide_eq_true hm
          have hcz : c = z := by
            rw [← HC.out]
            refine common_some (p := pre) ?_ HA.out hm
            rw [HL.out, HP.out, way_cons hz]
            exact ⟨_, by rw [List.append_assoc]; rfl⟩
          have HCZ := Lib.hid hcz
          have HD := Lib.hid hd
          clear hm hd hcz
          go_wp2_with (go_at_call 43; refine (runder_k _ _ _ _ (by assumption)).mono ?_; rw [HD.out]; rintro e w3 ⟨rfl, hk3⟩)
          go_ret
          exact ⟨ret_int HCZ.out.symm, hk3⟩
        · have hd := decide_eq_false hm
          have hpn : isN (Parent z w) w = true := by
            rcases parent_cases hz with ⟨h1, _⟩ | ⟨h1, _⟩
            · exact absurd (by rw [h1]; exact HR.out) hm
            · exact h1
          have hsp : L = (pre ++ [z]) ++ way (Parent z w) w := by rw [HP.out, way_cons hz]; simp
          have hall2 : ∀ u ∈ pre ++ [z], u ∉ way y w := fun u hu => by
            rcases List.mem_append.1 hu with h | h
            · exact HA.out u h
            · rw [List.mem_singleton.1 h]; exact hm
          have HSP := Lib.hid hsp
          have HA2 := Lib.hid hall2
          have HPN := Lib.hid hpn
          have HZ := Lib.hid hz
          have HD := Lib.hid hd
          clear hm hd hpn hsp hall2 hz
          go_wp2_with (first
            | (go_at_call 43; refine (runder_k _ _ _ _ (by assumption)).mono ?_; rw [HD.out]; rintro e w3 ⟨rfl, hk3⟩)
            | (go_at_call 29; refine (rparent_any _ _ _).mono ?_; rintro e w4 ⟨rfl, rfl⟩))
          go_roundw
          case rel => exact ⟨pre ++ [z], Parent z w, HSP.out, HA2.out, HPN.out, rfl, hk3⟩
          case measure => exact toGo_step HZ.out

/-- What the search for the leaves below has found, the leaves ahead of k having been asked. -/
structure SpanAt (W0 : World) (x w : Int) (f l i : Value) (wr : World) : Prop where
  at_ : ∃ (k p q : Int), 0 ≤ k ∧ k ≤ 64 ∧ i = .int .i64 (2 * k) ∧ f = .int .i64 p ∧ l = .int .i64 q ∧
    ((isN x w = false ∧ p = -1 ∧ q = -1) ∨ (isN x w = true ∧ p = (if lo x < k then lo x else -1) ∧ q = (if lo x < k then (if hi x < k then hi x else k - 1) else -1))) ∧ K W0 [] wr

set_option maxHeartbeats 4000000 in
theorem rbelow_any (x w : Int) (W : World) (hT : Tab W) :
    Calls Tryd.prog 34 #[.int .i64 x, .int .i64 w] W fun e W' => e = .returned (.tuple #[.int .i64 (if isN x w then lo x else -1), .int .i64 (if isN x w then hi x else -1)]) ∧ K W [] W' := by
  have hk0 := K.refl hT
  obtain ⟨rp, hrp⟩ : ∃ r, (if isN x w = true then lo x else -1) = r := ⟨_, rfl⟩
  obtain ⟨rq, hrq⟩ : ∃ r, (if isN x w = true then hi x else -1) = r := ⟨_, rfl⟩
  rw [hrp, hrq]
  have HRP := Lib.hid hrp
  have HRQ := Lib.hid hrq
  clear hrp hrq
  go_enter Tryd.func34, Tryd.ntmps34
  go_wp2
  go_loopw [6, 7, 8] (fun f l i wr => SpanAt W x w f l i wr) (fun _ _ i _ => (130 - intOf i).toNat)
  case atStart =>
    refine ⟨0, -1, -1, by omega, by omega, rfl, rfl, rfl, ?_, hk0⟩
    cases hx : isN x w
    · exact .inl ⟨rfl, rfl, rfl⟩
    · have h0 := (span_at hx).2.2.2.1
      exact .inr ⟨rfl, by rw [if_neg (by omega)], by rw [if_neg (by omega)]⟩
  case round =>
    obtain ⟨k, p, q, k0, k64, rfl, rfl, rfl, hpq, hk⟩ := hrel
    clear hk0
    by_cases hgo : 2 * k < w ∧ w ≤ 127
    · obtain ⟨g1, g2⟩ := hgo
      rcases hpq with ⟨hx, hp, hq⟩ | ⟨hx, hp, hq⟩
      · have hd : decide (x ∈ way (2 * k) w) = false := decide_eq_false (fun hm => by rw [(way_isN hm).1] at hx; cases hx)
        have HD := Lib.hid hd
        have HX := Lib.hid hx
        clear hd hx
        subst hp hq
        go_wp2_with (go_at_call 43; refine (runder_k _ _ _ _ (by assumption)).mono ?_; rw [HD.out]; rintro e w3 ⟨rfl, hk3⟩)
        go_roundw
        case rel => exact ⟨k + 1, -1, -1, by omega, by omega, by rw [show 2 * (k + 1) = 2 * k + 2 by omega], rfl, rfl, .inl ⟨HX.out, rfl, rfl⟩, hk3⟩
        case measure => simp [intOf]; omega
      · have h2 : isN (2 * k) w = true := by
          unfold isN at hx ⊢
          simp only [Bool.and_eq_true, decide_eq_true_eq] at hx ⊢
          exact ⟨hx.1, by omega, g1⟩
        have hpair := pair_at hx k0 (by omega) h2
        obtain ⟨-, -, -, s1, s2, s3, -, -⟩ := span_at hx
        obtain ⟨l, hl⟩ : ∃ l, lo x = l := ⟨_, rfl⟩
        obtain ⟨h, hh⟩ : ∃ h, hi x = h := ⟨_, rfl⟩
        rw [hl, hh] at hpair
        rw [hl] at s1 s3 hp hq
        rw [hh] at s2 s3 hq
        have HL := Lib.hid hl
        have HH := Lib.hid hh
        have HX := Lib.hid hx
        have HP := Lib.hid hp
        have HQ := Lib.hid hq
        clear hl hh hx h2 hp hq
        have fin : ∀ (P : Prop), ((decide (x ∈ way (2 * k) w) = false ∧ k < l ∧ p = -1) → P) → ((decide (x ∈ way (2 * k) w) = true ∧ l = k ∧ k ≤ h ∧ p = -1) → P) → ((decide (x ∈ way (2 * k) w) = true ∧ l < k ∧ k ≤ h ∧ p = l) → P) → ((decide (x ∈ way (2 * k) w) = false ∧ h < k ∧ p = l ∧ q = h) → P) → P := by
          intro P a1 a2 a3 a4
          have hp := HP.out
          have hq := HQ.out
          by_cases c1 : l ≤ k
          · by_cases c2 : k ≤ h
            · have hm := decide_eq_true (hpair.2 ⟨c1, c2⟩)
              by_cases c3 : l = k
              · exact a2 ⟨hm, c3, c2, by rw [hp, if_neg (by omega)]⟩
              · exact a3 ⟨hm, by omega, c2, by rw [hp, if_pos (by omega)]⟩
            · have hm : decide (x ∈ way (2 * k) w) = false := decide_eq_false (fun c => c2 (hpair.1 c).2)
              exact a4 ⟨hm, by omega, by rw [hp, if_pos (by omega)], by rw [hq, if_pos (by omega), if_pos (by omega)]⟩
          · have hm : decide (x ∈ way (2 * k) w) = false := decide_eq_false (fun c => c1 (hpair.1 c).1)
            exact a1 ⟨hm, by omega, by rw [hp, if_neg (by omega)]⟩
        clear hpair
        refine fin _ ?_ ?_ ?_ ?_
        · rintro ⟨hm, c1, hp⟩
          have hq : q = -1 := by rw [HQ.out, if_neg (by omega)]
          clear fin HP HQ
          have HM := Lib.hid hm
          clear hm
          subst hp hq
          go_wp2_with (go_at_call 43; refine (runder_k _ _ _ _ (by assumption)).mono ?_; rw [HM.out]; rintro e w3 ⟨rfl, hk3⟩)
          go_roundw
          case rel => exact ⟨k + 1, -1, -1, by omega, by omega, by rw [show 2 * (k + 1) = 2 * k + 2 by omega], rfl, rfl, .inr ⟨HX.out, by rw [HL.out, if_neg (by omega)], by rw [HL.out, if_neg (by omega)]⟩, hk3⟩
          case measure => simp [intOf]; omega
        · rintro ⟨hm, c1, c2, hp⟩
          clear fin HP HQ
          have HM := Lib.hid hm
          clear hm
          subst hp
          go_wp2_with (go_at_call 43; refine (runder_k _ _ _ _ (by assumption)).mono ?_; rw [HM.out]; rintro e w3 ⟨rfl, hk3⟩)
          go_roundw
          case rel =>
            refine ⟨k + 1, _, _, by omega, by omega, by rw [show 2 * (k + 1) = 2 * k + 2 by omega], rfl, rfl, .inr ⟨HX.out, ?_, ?_⟩, hk3⟩
            · rw [HL.out, if_pos (by omega)]; omega
            · rw [HL.out, HH.out, if_pos (by omega)]
              split <;> omega
          case measure => simp [intOf]; omega
        · rintro ⟨hm, c1, c2, hp⟩
          clear fin HP HQ
          have HM := Lib.hid hm
          clear hm
          subst hp
          go_wp2_with (go_at_call 43; refine (runder_k _ _ _ _ (by assumption)).mono ?_; rw [HM.out]; rintro e w3 ⟨rfl, hk3⟩)
          go_roundw
          case rel =>
            refine ⟨k + 1, _, _, by omega, by omega, by rw [show 2 * (k + 1) = 2 * k + 2 by omega], rfl, rfl, .inr ⟨HX.out, ?_, ?_⟩, hk3⟩
            · rw [HL.out, if_pos (by omega)]
            · rw [HL.out, HH.out, if_pos (by omega)]
              split <;> omega
          case measure => simp [intOf]; omega
        · rintro ⟨hm, c1, hp, hq⟩
          clear fin HP HQ
          have HM := Lib.hid hm
          clear hm
          subst hp hq
          go_wp2_with (go_at_call 43; refine (runder_k _ _ _ _ (by assumption)).mono ?_; rw [HM.out]; rintro e w3 ⟨rfl, hk3⟩)
          go_roundw
          case rel =>
            refine ⟨k + 1, _, _, by omega, by omega, by rw [show 2 * (k + 1) = 2 * k + 2 by omega], rfl, rfl, .inr ⟨HX.out, ?_, ?_⟩, hk3⟩
            · rw [HL.out, if_pos (by omega)]
            · rw [HL.out, HH.out, if_pos (by omega), if_pos (by omega)]
          case measure => simp [intOf]; omega
    · have hres : p = rp ∧ q = rq := by
        rcases hpq with ⟨hx, hp, hq⟩ | ⟨hx, hp, hq⟩
        · have a := HRP.out
          have b := HRQ.out
          rw [hx] at a b
          simp only [Bool.false_eq_true, if_false] at a b
          omega
        · have a := HRP.out
          have b := HRQ.out
          rw [hx] at a b
          simp only [if_true] at a b
          obtain ⟨-, -, -, s1, s2, s3, -, -⟩ := span_at hx
          obtain ⟨-, -, -, r3⟩ := isN_range hx
          have f8 := (leaves_at hx).2.2.2.2.2.2.2.1
          have hh : 2 * hi x < w := by unfold hi; omega
          rw [if_pos (by omega)] at hp
          rw [if_pos (by omega), if_pos (by omega)] at hq
          omega
      have HRES := Lib.hid hres
      clear hres hpq
      by_cases g1 : 2 * k < w
      · have g2 : ¬ w ≤ 127 := fun c => hgo ⟨g1, c⟩
        clear hgo
        go_wp2
        go_ret2
        exact ⟨ret_pair HRES.out.1 HRES.out.2, hk⟩
      · clear hgo
        go_wp2
        go_ret2
        exact ⟨ret_pair HRES.out.1 HRES.out.2, hk⟩

end Go.Proofs.YtgfplpkmcdpbeaaDoor
