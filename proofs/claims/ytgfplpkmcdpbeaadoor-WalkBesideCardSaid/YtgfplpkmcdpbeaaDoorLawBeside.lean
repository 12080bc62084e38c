/- The walk of a law of layer 6: it returns true, whatever the input. -/
import Derived.Test.YtgfplpkmcdpbeaaDoorKMore
import Derived.Test.YtgfplpkmcdpbeaaDoorFast
namespace Go.Proofs.YtgfplpkmcdpbeaaDoor
open Go.RowKit

def BesideAt (x w : Int) : Prop := (cops w (way x w)).length = (way x w).tail.length ∧
  ∀ i, i < (cops w (way x w)).length → Parent ((cops w (way x w)).getD i 0) w = (way x w).tail.getD i 0 ∧ ((cops w (way x w)).getD i 0) ∉ way x w ∧ ((way x w).tail.getD i 0) ∈ way x w ∧
    isN ((cops w (way x w)).getD i 0) w = true
instance (x w : Int) : Decidable (BesideAt x w) := by unfold BesideAt; infer_instance
theorem beside_at {x w : Int} (h : isN x w = true) : BesideAt x w := fin_node (P := BesideAt) (by decide +kernel) h

/-- How many of some nodes have a leaf below. -/
def cnt (y : Int) (l : List Int) : Nat := (l.filter fun s => decide (2 * lo s ≤ y) && decide (y ≤ 2 * hi s)).length
theorem cnt_snoc (y : Int) (l : List Int) (s : Int) : cnt y (l ++ [s]) = cnt y l + if 2 * lo s ≤ y ∧ y ≤ 2 * hi s then 1 else 0 := by
  unfold cnt
  rw [List.filter_append]
  by_cases h : 2 * lo s ≤ y ∧ y ≤ 2 * hi s <;> simp [h]
theorem cnt_le (y : Int) (l : List Int) : cnt y l ≤ l.length := by unfold cnt; exact List.length_filter_le _ _

def sibN (v : Nat) : Nat := if (v / pw v) % 2 = 0 then v + pw v else v - pw v
def copN (n w : Nat) : List Nat := ((wayN n w).filter fun v => !Nat.beq (pw v) (w + 1)).map sibN
def cntN (m : Nat) (l : List Nat) : Nat := (l.filter fun s => Nat.ble (loN s) m && Nat.ble m (hiN s)).length
theorem fast_cop : ∀ w ∈ widths, ∀ n : Nat, n < w → cops (w : Int) (way (n : Int) (w : Int)) = (copN n w).map (fun m : Nat => (m : Int)) ∧ ∀ s ∈ copN n w, lo (s : Int) = (loN s : Int) ∧ hi (s : Int) = (hiN s : Int) := by decide +kernel
theorem cnts_all : (widths.all fun w => (List.range 64).all fun j => !Nat.ble (2 * j + 1) w || (List.range 64).all fun m => !Nat.ble (2 * m + 1) w || Nat.beq (cntN m (copN (2 * j) w)) (if Nat.beq m j then 0 else 1)) = true := by decide +kernel

theorem cnt_cast (m : Nat) : ∀ l : List Nat, (∀ s ∈ l, lo (s : Int) = (loN s : Int) ∧ hi (s : Int) = (hiN s : Int)) → cnt (2 * (m : Int)) (l.map fun s : Nat => (s : Int)) = cntN m l
  | [], _ => rfl
  | s :: l, h => by
    have ih := cnt_cast m l (fun t ht => h t (List.mem_cons_of_mem _ ht))
    obtain ⟨h1, h2⟩ := h s (List.mem_cons_self ..)
    unfold cnt cntN at ih ⊢
    have e : (decide (2 * lo (s : Int) ≤ 2 * (m : Int)) && decide (2 * (m : Int) ≤ 2 * hi (s : Int))) = (Nat.ble (loN s) m && Nat.ble m (hiN s)) := by
      rw [h1, h2, Bool.eq_iff_iff]
      simp only [Bool.and_eq_true, decide_eq_true_eq, Nat.ble_eq]
      omega
    rw [List.map_cons, List.filter_cons, List.filter_cons, e]
    split
    · simp only [List.length_cons, ih]
    · exact ih

theorem cnt_at {x w y : Int} (hx : isN x w = true) (he : x % 2 = 0) (y0 : 0 ≤ y) (yw : y < w) (ye : y % 2 = 0) : cnt y (cops w (way x w)) = if y = x then 0 else 1 := by
  obtain ⟨n, rfl, hn⟩ := width_of hx
  obtain ⟨r0, r1, r2, r3⟩ := isN_range hx
  obtain ⟨j, rfl⟩ : ∃ j : Nat, x = ((2 * j : Nat) : Int) := ⟨(x / 2).toNat, by omega⟩
  obtain ⟨m, rfl⟩ : ∃ m : Nat, y = 2 * (m : Int) := ⟨(y / 2).toNat, by omega⟩
  obtain ⟨f1, f2⟩ := fast_cop n hn (2 * j) (by omega)
  rw [f1, cnt_cast m _ f2]
  have hall := cnts_all
  rw [List.all_eq_true] at hall
  have h3 := hall n hn
  rw [List.all_eq_true] at h3
  have h4 := h3 j (List.mem_range.2 (by omega))
  rw [Nat.ble_eq_true_of_le (show 2 * j + 1 ≤ n by omega)] at h4
  simp only [Bool.not_true, Bool.false_or] at h4
  rw [List.all_eq_true] at h4
  have h5 := h4 m (List.mem_range.2 (by omega))
  rw [Nat.ble_eq_true_of_le (show 2 * m + 1 ≤ n by omega)] at h5
  simp only [Bool.not_true, Bool.false_or] at h5
  have h6 := Nat.eq_of_beq_eq_true h5
  rw [h6]
  by_cases hmj : m = j
  · subst hmj
    simp
  · have h7 : Nat.beq m j = false := by rw [← Bool.not_eq_true]; exact fun h => hmj (Nat.eq_of_beq_eq_true h)
    simp only [h7, Bool.false_eq_true, if_false]
    rw [if_neg (by omega)]

theorem and16 (a : Int) : 0 ≤ bits BinOp.and IntKind.i64 a 65535 ∧ bits BinOp.and IntKind.i64 a 65535 ≤ 65535 := by
  have h : (BitVec.ofInt 64 a &&& BitVec.ofInt 64 65535).toNat ≤ 65535 := by
    rw [BitVec.toNat_and]
    exact Nat.and_le_right
  have e : bits BinOp.and IntKind.i64 a 65535 = IntKind.i64.wrap ((BitVec.ofInt 64 a &&& BitVec.ofInt 64 65535).toNat : Int) := rfl
  rw [e, IntKind.wrap_i64]
  omega

/-- The loop over the leaves. -/
structure LeafAt (W0 : World) (vs : List (Value × List Int)) (w : Int) (y : Value) (wr : World) : Prop where
  at_ : ∃ z : Int, 0 ≤ z ∧ z % 2 = 0 ∧ z ≤ 128 ∧ y = .int .i64 z ∧ K W0 vs wr
/-- The count of those that have the leaf below. -/
structure CntAt (W0 : World) (vs : List (Value × List Int)) (y : Int) (C : List Int) (n i : Value) (wr : World) : Prop where
  at_ : ∃ (k q : Nat), k ≤ C.length ∧ i = .int .i64 k ∧ n = .int .i64 q ∧ q = cnt y (C.take k) ∧ q ≤ 8 ∧ K W0 vs wr

set_option maxHeartbeats 4000000 in
theorem beside_out (leaf w : Int) (W0 : World) (h : K W0 [] W0) (ho : isN (2 * bits BinOp.and IntKind.i64 leaf 65535) w = false) :
    Calls Tryd.prog 10 #[.int .i64 leaf, .int .i64 w] W0 fun e W' => e = .returned (.bool true) ∧ ∃ vs, K W0 vs W' := by
  obtain ⟨q0, q1⟩ := and16 leaf
  have e1 : (way (2 * bits BinOp.and IntKind.i64 leaf 65535) w).tail = [] := by rw [way_out ho]; rfl
  have e2 : cops w (way (2 * bits BinOp.and IntKind.i64 leaf 65535) w) = [] := by rw [way_out ho]; rfl
  obtain ⟨q, hq⟩ : ∃ q, bits BinOp.and IntKind.i64 leaf 65535 = q := ⟨_, rfl⟩
  rw [hq] at q0 q1 e1 e2 ho
  have E1 := Lib.hid e1
  have E2 := Lib.hid e2
  clear e1 e2
  go_enter Tryd.func10, Tryd.ntmps10
  go_wp2_with (first
    | (go_at_call 32; refine (awake6_h _ (by assumption)).mono ?_; rintro e w1 ⟨rfl, hk1⟩)
    | (go_at_call 18; refine (is_k _ _ _ (by assumption)).mono ?_; rintro e w2 ⟨rfl, hk2⟩)
    | (go_at_call 38; refine (copath_k _ _ _ (by assumption)).mono ?_; rw [E2.out]; rintro e w3 ⟨v3, rfl, hk3⟩; obtain ⟨A3, c3, rfl, -, -, -⟩ := hk3.head)
    | (go_at_call 36; refine (direct_k _ _ _ (by assumption)).mono ?_; rw [E1.out]; rintro e w4 ⟨v4, rfl, hk4⟩; obtain ⟨A4, c4, rfl, -, -, -⟩ := hk4.head))
  go_ret
  exact ⟨rfl, _, hk4⟩

set_option maxRecDepth 100000 in
set_option maxHeartbeats 8000000 in
theorem beside_in (leaf w : Int) (W0 : World) (h : K W0 [] W0) (hi' : isN (2 * bits BinOp.and IntKind.i64 leaf 65535) w = true) :
    Calls Tryd.prog 10 #[.int .i64 leaf, .int .i64 w] W0 fun e W' => e = .returned (.bool true) ∧ ∃ vs, K W0 vs W' := by
  obtain ⟨q0, q1⟩ := and16 leaf
  obtain ⟨q, hq⟩ : ∃ q, bits BinOp.and IntKind.i64 leaf 65535 = q := ⟨_, rfl⟩
  rw [hq] at q0 q1 hi'
  obtain ⟨r0, r1, r2, r3⟩ := isN_range hi'
  have hcnt := fun y h1 h2 h3 => cnt_at (y := y) hi' (by omega) h1 h2 h3
  obtain ⟨hCD, hall⟩ := beside_at hi'
  have hwl := way_len (2 * q) w
  have hwm : ∀ z, z ∈ way (2 * q) w → True := fun _ _ => trivial
  obtain ⟨C, hC⟩ : ∃ C, cops w (way (2 * q) w) = C := ⟨_, rfl⟩
  obtain ⟨D, hD⟩ : ∃ D, (way (2 * q) w).tail = D := ⟨_, rfl⟩
  have lD : D.length ≤ 8 := by rw [← hD]; simp; omega
  rw [hC] at hcnt hCD hall
  rw [hD] at hCD hall
  have lC : C.length ≤ 8 := by omega
  have HC := Lib.hid hC
  have HD := Lib.hid hD
  have HCD := Lib.hid hCD
  have HALL := Lib.hid hall
  have HCNT := Lib.hid hcnt
  have hne : ((C.length : Int) != (D.length : Int)) = false := by simp [hCD]
  clear hC hD hCD hall hcnt hwl hwm
  go_enter Tryd.func10, Tryd.ntmps10
  go_wp2_with (first
    | (go_at_call 32; refine (awake6_h _ (by assumption)).mono ?_; rintro e w1 ⟨rfl, hk1⟩)
    | (go_at_call 18; refine (is_k _ _ _ (by assumption)).mono ?_; rintro e w2 ⟨rfl, hk2⟩)
    | (go_at_call 36; refine (direct_k _ _ _ (by assumption)).mono ?_; rw [HD.out]; rintro e w3 ⟨v3, rfl, hk3⟩; obtain ⟨A3, c3, rfl, hc3, hc3m, -⟩ := hk3.head)
    | (go_at_call 38; refine (copath_k _ _ _ (by assumption)).mono ?_; rw [HC.out]; rintro e w4 ⟨v4, rfl, hk4⟩; obtain ⟨A4, c4, rfl, hc4, hc4m, -⟩ := hk4.head))
  obtain ⟨vs, hkv, hvs⟩ : ∃ vs, K W0 vs w4 ∧ (∀ W, K W0 vs W → Rd W (.slice A3 D.length c3) D ∧ Rd W (.slice A4 C.length c4) C) := ⟨_, hk4, fun W h => ⟨h.rd2, h.head⟩⟩
  have HVS := Lib.hid hvs
  clear hvs hk4 hk3 hk2 hk1 h
  go_loopw [9] (fun i wr => CountAt W0 vs C.length i wr) (fun i _ => C.length - (intOf i).toNat)
  case atStart => exact ⟨0, Nat.zero_le _, rfl, hkv⟩
  case round =>
    obtain ⟨i, hil, rfl, hkr⟩ := hrel
    clear hkv
    by_cases hlt : i < C.length
    · have hltD : i < D.length := by rw [← HCD.out]; exact hlt
      obtain ⟨b1, o1, e1, c1⟩ := (HVS.out _ hkr).1.cell i hltD
      obtain ⟨b2, o2, e2, c2⟩ := (HVS.out _ hkr).2.cell i hlt
      subst e1
      subst e2
      obtain ⟨f1, f2, f3, -⟩ := HALL.out i hlt
      have g1 : C.getD i 0 = C[i] := by simp [List.getD_eq_getElem?_getD, hlt]
      have g2 : D.getD i 0 = D[i] := by simp [List.getD_eq_getElem?_getD, hltD]
      rw [g1] at f1 f2
      rw [g2] at f1 f3
      obtain ⟨zc, hzc⟩ : ∃ z, C[i] = z := ⟨_, rfl⟩
      obtain ⟨zd, hzd⟩ : ∃ z, D[i] = z := ⟨_, rfl⟩
      rw [hzc] at c2 f1 f2
      rw [hzd] at c1 f1 f3
      have i0 : (0 : Int) ≤ (i : Int) := by omega
      have i1 : (i : Int) < (C.length : Int) := by omega
      have i2 : (i : Int) < (D.length : Int) := by omega
      have hcellC : ∀ W, K W0 vs W → W.cell? ⟨b2, o2 + i, none⟩ = some (.int .i64 zc) := fun W hW => by rw [← hzc]; exact (HVS.out W hW).2.cellAt i hlt
      have hcellD : ∀ W, K W0 vs W → W.cell? ⟨b1, o1 + i, none⟩ = some (.int .i64 zd) := fun W hW => by rw [← hzd]; exact (HVS.out W hW).1.cellAt i hltD
      have HCC := Lib.hid hcellC
      have HCDD := Lib.hid hcellD
      have F1 := Lib.hid f1
      have F2 := Lib.hid (decide_eq_false f2)
      have F3 := Lib.hid (decide_eq_true f3)
      clear hcellC hcellD hzc hzd g1 g2 f1 f2 f3
      go_wp2_with fail
      go_region_held3 (fun w' => w'.cell? ⟨b2, o2 + i, none⟩ = some (.int .i64 zc) ∧ w'.cell? ⟨b1, o1 + i, none⟩ = some (.int .i64 zd))
        (first | go_keep)
        (first
          | (go_at_call 28; refine (parent_k _ _ _ (by first | exact hkr | exact hkr.drew)).mono ?_; rw [F1.out]; rintro e w5 ⟨rfl, hk5⟩; have c5 := HCC.out _ hk5; have d5 := HCDD.out _ hk5)
          | (go_at_call 42; ((with_reducible refine (under_k _ zc _ _ (by first | exact hk5 | exact hk5.drew)).mono ?_); rw [F2.out]; rintro e w6 ⟨rfl, hk6⟩; have c6 := HCC.out _ hk6; have d6 := HCDD.out _ hk6))
          | (go_at_call 42; ((with_reducible refine (under_k _ zd _ _ (by first | exact hk6 | exact hk6.drew)).mono ?_); rw [F3.out]; rintro e w7 ⟨rfl, hk7⟩; have c7 := HCC.out _ hk7; have d7 := HCDD.out _ hk7)))
      go_wp2
      go_roundw
      case rel => exact ⟨i + 1, by omega, by go_num, by first | exact hk7 | exact hk7.drew⟩
      case measure => simp [intOf]; omega
    · have hiC : i = C.length := by omega
      have HIC := Lib.hid hiC
      clear hiC
      go_wp2
      go_loopw [10] (fun y wr => LeafAt W0 vs w y wr) (fun y _ => (130 - intOf y).toNat)
      case atStart => exact ⟨0, by omega, by omega, by omega, rfl, hkr⟩
      case round =>
        obtain ⟨y, y0, ye, y128, rfl, hky⟩ := hrel
        clear hkr
        by_cases hyw : y < w
        · have HCY := Lib.hid (HCNT.out y y0 hyw ye)
          go_wp2
          go_loopw [11, 12] (fun n i wr => CntAt W0 vs y C n i wr) (fun _ i _ => C.length - (intOf i).toNat)
          case atStart => exact ⟨0, 0, Nat.zero_le _, rfl, rfl, rfl, by omega, hky⟩
          case round =>
            obtain ⟨k, n, hkl, rfl, rfl, hn, hn8, hkk⟩ := hrel
            clear hky
            have HN := Lib.hid hn
            clear hn
            by_cases hkC : k < C.length
            · obtain ⟨b2, o2, e2, c2⟩ := (HVS.out _ hkk).2.cell k hkC
              subst e2
              obtain ⟨-, -, -, hin⟩ := HALL.out k hkC
              have g1 : C.getD k 0 = C[k] := by simp [List.getD_eq_getElem?_getD, hkC]
              rw [g1] at hin
              have htake : C.take (k + 1) = C.take k ++ [C[k]] := by simp
              obtain ⟨z, hz⟩ : ∃ z, C[k] = z := ⟨_, rfl⟩
              rw [hz] at c2 hin htake
              obtain ⟨-, -, -, p1, p2, p3, -, -⟩ := span_at hin
              have hsn := cnt_snoc y (C.take k) z
              rw [← htake, ← HN.out] at hsn
              have hle := cnt_le y (C.take (k + 1))
              have hle2 : (C.take (k + 1)).length ≤ 8 := by simp; omega
              clear g1 hz htake
              have k0 : (0 : Int) ≤ (k : Int) := by omega
              have k1 : (k : Int) < (C.length : Int) := by omega
              by_cases hb1 : 2 * lo z ≤ y
              · by_cases hb2 : y ≤ 2 * hi z
                · rw [if_pos ⟨hb1, hb2⟩] at hsn
                  have HSN := Lib.hid hsn.symm
                  have hn7 : n + 1 ≤ 8 := by omega
                  clear hsn hle hle2
                  go_wp2_with (go_at_call 33; refine (below_k _ _ _ (by assumption)).mono ?_; rintro e w5 ⟨rfl, hk5⟩)
                  go_roundw
                  case rel => exact ⟨k + 1, n + 1, by omega, by go_num, by go_num, HSN.out, hn7, hk5⟩
                  case measure => simp [intOf]; omega
                · rw [if_neg (fun c => hb2 c.2)] at hsn
                  have HSN := Lib.hid hsn.symm
                  clear hsn hle hle2
                  go_wp2_with (go_at_call 33; refine (below_k _ _ _ (by assumption)).mono ?_; rintro e w5 ⟨rfl, hk5⟩)
                  go_roundw
                  case rel => exact ⟨k + 1, n, by omega, by go_num, by go_num, HSN.out, hn8, hk5⟩
                  case measure => simp [intOf]; omega
              · rw [if_neg (fun c => hb1 c.1)] at hsn
                have HSN := Lib.hid hsn.symm
                clear hsn hle hle2
                go_wp2_with (go_at_call 33; refine (below_k _ _ _ (by assumption)).mono ?_; rintro e w5 ⟨rfl, hk5⟩)
                go_roundw
                case rel => exact ⟨k + 1, n, by omega, by go_num, by go_num, HSN.out, hn8, hk5⟩
                case measure => simp [intOf]; omega
            · have hkE : C.take k = C := List.take_of_length_le (by omega)
              have hfin : n = if y = 2 * q then 0 else 1 := by rw [HN.out, hkE]; exact HCY.out
              have HKC := Lib.hid hkC
              have hkC2 : (C.length : Int) ≤ (k : Int) := by omega
              clear hkE HN hkC
              by_cases hyx : y = 2 * q
              · rw [if_pos hyx] at hfin
                have hm0 : (n : Int) = 0 := by omega
                generalize (n : Int) = m at hm0 ⊢
                subst hm0
                clear hfin
                have hq1 : (y == 2 * q) = true := by simp [hyx]
                have hq2 : (y != 2 * q) = false := by simp [hyx]
                have HYX := Lib.hid hyx
                clear hyx
                go_wp2
                go_roundw
                case rel => exact ⟨y + 2, by omega, by omega, by omega, rfl, hkk⟩
                case measure => simp [intOf]; omega
              · rw [if_neg hyx] at hfin
                have hm0 : (n : Int) = 1 := by omega
                generalize (n : Int) = m at hm0 ⊢
                subst hm0
                clear hfin
                have hq1 : (y == 2 * q) = false := by simp [hyx]
                have hq2 : (y != 2 * q) = true := by simp [hyx]
                clear hyx
                go_wp2
                go_roundw
                case rel => exact ⟨y + 2, by omega, by omega, by omega, rfl, hkk⟩
                case measure => simp [intOf]; omega
        · go_wp2
          go_ret
          exact ⟨rfl, _, hky⟩

theorem beside_walk (leaf w : Int) (W0 : World) (h : K W0 [] W0) :
    Calls Tryd.prog 10 #[.int .i64 leaf, .int .i64 w] W0 fun e W' => e = .returned (.bool true) ∧ ∃ vs, K W0 vs W' := by
  cases hi' : isN (2 * bits BinOp.and IntKind.i64 leaf 65535) w
  · exact beside_out leaf w W0 h hi'
  · exact beside_in leaf w W0 h hi'

theorem beside_w (leaf w : Int) (W : World) (hT : Tab W) : Calls Tryd.prog 10 #[.int .i64 leaf, .int .i64 w] W fun e W' => e = .returned (.bool true) ∧ Below W.heap.size W W' :=
  (beside_walk leaf w W (K.refl hT)).mono fun _ _ ⟨a, _, b⟩ => ⟨a, b.below⟩

end Go.Proofs.YtgfplpkmcdpbeaaDoor
