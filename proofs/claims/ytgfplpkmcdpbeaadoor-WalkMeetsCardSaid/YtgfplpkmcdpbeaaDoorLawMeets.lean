/- The walk of a law of layer 6: it returns true, whatever the input. -/
import Derived.Test.YtgfplpkmcdpbeaaDoorKMore
namespace Go.Proofs.YtgfplpkmcdpbeaaDoor
open Go.RowKit

/-- The two ways, cut where they meet. -/
structure Cut (x y w c : Int) (U V R : List Int) : Prop where
  a : (way x w).tail = U ++ R
  b : (way y w).tail = V ++ R
  r : (way c w).tail = R
  apart : ∀ u ∈ U, ∀ v ∈ V, u = v → u = c
theorem Meet.cut {x y w c : Int} (h : Meet x y w c) : ∃ U V R, Cut x y w c U V R := by
  obtain ⟨p, q, h1, h2, h3, h4⟩ := h.split
  have hc := way_cons h.nc
  refine ⟨(p ++ [c]).tail, (q ++ [c]).tail, way (Parent c w) w, ?_, ?_, by rw [hc]; rfl, ?_⟩
  · rw [h1, hc, show p ++ c :: way (Parent c w) w = (p ++ [c]) ++ way (Parent c w) w by simp, List.tail_append_of_ne_nil (by simp)]
  · rw [h2, hc, show q ++ c :: way (Parent c w) w = (q ++ [c]) ++ way (Parent c w) w by simp, List.tail_append_of_ne_nil (by simp)]
  · rintro u hu v hv rfl
    have hu1 := List.mem_of_mem_tail hu
    have hv1 := List.mem_of_mem_tail hv
    rcases List.mem_append.1 hu1 with hu2 | hu2
    · rcases List.mem_append.1 hv1 with hv2 | hv2
      · exact absurd (by rw [h2]; exact List.mem_append.2 (.inl hv2)) (h3 u hu2)
      · simpa using hv2
    · simpa using hu2

theorem drop_cut {U R L : List Int} (h : L = U ++ R) : L.drop U.length = R := by rw [h]; simp

set_option maxHeartbeats 4000000 in
theorem meets_in (x y w c : Int) (U V R : List Int) (hc : common x y w = c) (hc0 : 0 ≤ c) (hcut : Cut x y w c U V R) (W0 : World) (h : K W0 [] W0) :
    Calls Tryd.prog 12 #[.int .i64 x, .int .i64 y, .int .i64 w] W0 fun e W' => e = .returned (.bool true) ∧ ∃ vs, K W0 vs W' := by
  obtain ⟨ha, hb, hr, hap⟩ := hcut
  have l1 := way_len x w
  have l2 := way_len y w
  obtain ⟨A, hA⟩ : ∃ A, (way x w).tail = A := ⟨_, rfl⟩
  obtain ⟨B, hB⟩ : ∃ B, (way y w).tail = B := ⟨_, rfl⟩
  have lA : A.length ≤ 8 := by rw [← hA]; simp; omega
  have lB : B.length ≤ 8 := by rw [← hB]; simp; omega
  rw [hA] at ha
  rw [hB] at hb
  have nA : A.length = U.length + R.length := by rw [ha]; simp
  have nB : B.length = V.length + R.length := by rw [hb]; simp
  have HA := Lib.hid hA
  have HB := Lib.hid hB
  have HR := Lib.hid hr
  have HAP := Lib.hid hap
  have EA := Lib.hid ha
  have EB := Lib.hid hb
  have NA := Lib.hid nA
  have NB := Lib.hid nB
  have s1 : (A.length : Int) - (R.length : Int) = (U.length : Int) := by omega
  have s2 : (B.length : Int) - (R.length : Int) = (V.length : Int) := by omega
  have g1 : R.length ≤ A.length := by omega
  have g2 : R.length ≤ B.length := by omega
  have g3 : U.length ≤ A.length := by omega
  have g4 : V.length ≤ B.length := by omega
  clear hA hB hr hap ha hb nA nB l1 l2
  go_enter Tryd.func12, Tryd.ntmps12
  go_wp2_with (first
    | (go_at_call 32; refine (awake6_h _ (by assumption)).mono ?_; rintro e w1 ⟨rfl, hk1⟩)
    | (go_at_call 40; refine (common_k _ _ _ _ (by assumption)).mono ?_; rintro e w2 ⟨rfl, hk2⟩)
    | (go_at_call 36; ((with_reducible refine (direct_k x w _ (by assumption)).mono ?_); rw [HA.out]; rintro e w3 ⟨va, rfl, hk3⟩; obtain ⟨A1, ca, rfl, hca, hca2, -⟩ := hk3.head)))
  refine (direct_k y w _ hk3).mono ?_
  rw [HB.out]
  rintro e w4 ⟨vb, rfl, hk4⟩
  obtain ⟨B1, cb, rfl, hcb, hcb2, -⟩ := hk4.head
  go_wp2_with fail
  refine (direct_k c w _ hk4).mono ?_
  rw [HR.out]
  rintro e w5 ⟨vr, rfl, hk5⟩
  obtain ⟨R1, cr, rfl, hcr, hcr2, -⟩ := hk5.head
  clear hk1 hk2 hk3 hk4 h
  have uA := drop_cut EA.out
  have uB := drop_cut EB.out
  have DA := Lib.hid uA
  have DB := Lib.hid uB
  clear uA uB
  obtain ⟨vs, hkv, hvs⟩ : ∃ vs, K W0 vs w5 ∧ (∀ W, K W0 vs W → Rd W (.slice A1 A.length ca) A ∧ Rd W (.slice B1 B.length cb) B ∧ Rd W (.slice R1 R.length cr) R) := ⟨_, hk5, fun W h => ⟨h.rd3, h.rd2, h.head⟩⟩
  have HVS := Lib.hid hvs
  clear hvs hk5
  have d1 : decide (A.length < R.length) = false := decide_eq_false (by omega)
  have d2 : decide (B.length < R.length) = false := decide_eq_false (by omega)
  have d3 : decide (c < 0) = false := decide_eq_false (by omega)
  by_cases hAc : ca = U.length
  all_goals by_cases hBc : cb = V.length
  all_goals (try subst hAc)
  all_goals (try subst hBc)
  all_goals
    go_wp2_with fail
    refine (ints_same _ _ R _ hkv (by first | exact rd_sl00 _ (by omega) DA.out | exact rd_sl (HVS.out _ hkv).1 _ (by omega) DA.out) (HVS.out _ hkv).2.2).mono ?_
    rintro e w6 ⟨rfl, hk6⟩
    go_wp2_with fail
    refine (ints_same _ _ R _ hk6 (by first | exact rd_sl00 _ (by omega) DB.out | exact rd_sl (HVS.out _ hk6).2.1 _ (by omega) DB.out) (HVS.out _ hk6).2.2).mono ?_
    rintro e w7 ⟨rfl, hk7⟩
    clear hkv hk6
    go_wp2
    go_loopw [12] (fun i wr => CountAt W0 vs U.length i wr) (fun i _ => U.length - (intOf i).toNat)
    case atStart => exact ⟨0, Nat.zero_le _, rfl, hk7⟩
    case round =>
      obtain ⟨i, hil, rfl, hkr⟩ := hrel
      clear hk7
      by_cases hlt : i < U.length
      · have hltA : i < A.length := by omega
        have hi0 : (0 : Int) ≤ (i : Int) := by omega
        have hi1 : (i : Int) < (A.length : Int) := by omega
        have hi2 : (i : Int) < (U.length : Int) := by omega
        go_wp2
        go_loopw [13] (fun k wr => CountAt W0 vs V.length k wr) (fun k _ => V.length - (intOf k).toNat)
        case atStart => exact ⟨0, Nat.zero_le _, rfl, hkr⟩
        case round =>
          obtain ⟨k, hkl, rfl, hkr2⟩ := hrel
          clear hkr
          by_cases hlt2 : k < V.length
          · have hltB : k < B.length := by omega
            obtain ⟨b1, o1, e1, c1⟩ := (HVS.out _ hkr2).1.cell i hltA
            obtain ⟨b2, o2, e2, c2⟩ := (HVS.out _ hkr2).2.1.cell k hltB
            subst e1
            subst e2
            have hap2 := HAP.out (A[i]) (by rw [show A[i] = U[i] by simp [EA.out, List.getElem_append_left hlt]]; exact List.getElem_mem _) (B[k]) (by rw [show B[k] = V[k] by simp [EB.out, List.getElem_append_left hlt2]]; exact List.getElem_mem _)
            obtain ⟨za, hza⟩ : ∃ z, A[i] = z := ⟨_, rfl⟩
            obtain ⟨zb, hzb⟩ : ∃ z, B[k] = z := ⟨_, rfl⟩
            rw [hza] at c1 hap2
            rw [hzb] at c2 hap2
            clear hza hzb
            have hk0 : (0 : Int) ≤ (k : Int) := by omega
            have hk1 : (k : Int) < (B.length : Int) := by omega
            have hk2 : (k : Int) < (V.length : Int) := by omega
            have hcase : ((za == zb) = false) ∨ (za = c ∧ zb = c) := by
              by_cases hz : za = zb
              · have := hap2 hz
                exact .inr ⟨this, by rw [← hz]; exact this⟩
              · exact .inl (by simp [hz])
            clear hap2
            rcases hcase with hz | ⟨rfl, rfl⟩
            all_goals
              go_wp2_with fail
              go_quiet (fail)
              have hkq := hkr2.drewN nq
              go_wp2
              go_roundw
              case rel => exact ⟨k + 1, by omega, by go_num, hkq⟩
              case measure => simp [intOf]; omega
          · have hkV : k = V.length := by omega
            have HKV := Lib.hid hkV
            clear hkV
            go_wp2
            go_roundw
            case rel => exact ⟨i + 1, by omega, by go_num, hkr2⟩
            case measure => simp [intOf]; omega
      · have hiU : i = U.length := by omega
        have HIU := Lib.hid hiU
        clear hiU
        go_wp2
        go_ret
        exact ⟨rfl, _, hkr⟩

set_option maxHeartbeats 2000000 in
theorem meets_out (x y w : Int) (W0 : World) (h : K W0 [] W0) (ho : isN x w = false ∨ isN y w = false) :
    Calls Tryd.prog 12 #[.int .i64 x, .int .i64 y, .int .i64 w] W0 fun e W' => e = .returned (.bool true) ∧ ∃ vs, K W0 vs W' := by
  have hc := common_out ho
  cases hx : isN x w
  · clear ho
    go_enter Tryd.func12, Tryd.ntmps12
    go_wp2_with (first
          | (go_at_call 32; refine (awake6_h _ (by assumption)).mono ?_; rintro e w' ⟨rfl, hg⟩)
          | (go_at_call 40; refine (common_k _ _ _ _ (by assumption)).mono ?_; rintro e w' ⟨rfl, hg⟩)
          | (go_at_call 42; refine (under_k _ _ _ _ (by assumption)).mono ?_; rintro e w' ⟨rfl, hg⟩)
          | (go_at_call 33; refine (below_k _ _ _ (by assumption)).mono ?_; rintro e w' ⟨rfl, hg⟩)
          | (go_at_call 24; refine (left_k _ _ _ (by assumption)).mono ?_; rintro e w' ⟨rfl, hg⟩)
          | (go_at_call 26; refine (right_k _ _ _ (by assumption)).mono ?_; rintro e w' ⟨rfl, hg⟩)
          | (go_at_call 28; refine (parent_k _ _ _ (by assumption)).mono ?_; rintro e w' ⟨rfl, hg⟩)
          | (go_at_call 30; refine (sibling_k _ _ _ (by assumption)).mono ?_; rintro e w' ⟨rfl, hg⟩)
          | (go_at_call 22; refine (root_k _ _ (by assumption)).mono ?_; rintro e w' ⟨rfl, hg⟩)
          | (go_at_call 20; refine (level_k _ _ (by assumption)).mono ?_; rintro e w' ⟨rfl, hg⟩)
          | (go_at_call 16; refine (whole_k _ _ (by assumption)).mono ?_; rintro e w' ⟨rfl, hg⟩)
          | (go_at_call 18; refine (is_k _ _ _ (by assumption)).mono ?_; rintro e w' ⟨rfl, hg⟩))
    go_ret
    exact ⟨rfl, [], by assumption⟩
  · have hy : isN y w = false := by
      rcases ho with h | h
      · rw [hx] at h; cases h
      · exact h
    clear ho
    go_enter Tryd.func12, Tryd.ntmps12
    go_wp2_with (first
          | (go_at_call 32; refine (awake6_h _ (by assumption)).mono ?_; rintro e w' ⟨rfl, hg⟩)
          | (go_at_call 40; refine (common_k _ _ _ _ (by assumption)).mono ?_; rintro e w' ⟨rfl, hg⟩)
          | (go_at_call 42; refine (under_k _ _ _ _ (by assumption)).mono ?_; rintro e w' ⟨rfl, hg⟩)
          | (go_at_call 33; refine (below_k _ _ _ (by assumption)).mono ?_; rintro e w' ⟨rfl, hg⟩)
          | (go_at_call 24; refine (left_k _ _ _ (by assumption)).mono ?_; rintro e w' ⟨rfl, hg⟩)
          | (go_at_call 26; refine (right_k _ _ _ (by assumption)).mono ?_; rintro e w' ⟨rfl, hg⟩)
          | (go_at_call 28; refine (parent_k _ _ _ (by assumption)).mono ?_; rintro e w' ⟨rfl, hg⟩)
          | (go_at_call 30; refine (sibling_k _ _ _ (by assumption)).mono ?_; rintro e w' ⟨rfl, hg⟩)
          | (go_at_call 22; refine (root_k _ _ (by assumption)).mono ?_; rintro e w' ⟨rfl, hg⟩)
          | (go_at_call 20; refine (level_k _ _ (by assumption)).mono ?_; rintro e w' ⟨rfl, hg⟩)
          | (go_at_call 16; refine (whole_k _ _ (by assumption)).mono ?_; rintro e w' ⟨rfl, hg⟩)
          | (go_at_call 18; refine (is_k _ _ _ (by assumption)).mono ?_; rintro e w' ⟨rfl, hg⟩))
    go_ret
    exact ⟨rfl, [], by assumption⟩

theorem meets_walk (x y w : Int) (W0 : World) (h : K W0 [] W0) :
    Calls Tryd.prog 12 #[.int .i64 x, .int .i64 y, .int .i64 w] W0 fun e W' => e = .returned (.bool true) ∧ ∃ vs, K W0 vs W' := by
  cases hx : isN x w
  · exact meets_out x y w W0 h (.inl hx)
  · cases hy : isN y w
    · exact meets_out x y w W0 h (.inr hy)
    · have hm := common_meet hx hy
      obtain ⟨U, V, R, hcut⟩ := hm.cut
      exact meets_in x y w _ U V R rfl (isN_range hm.nc).1 hcut W0 h

theorem meets_w (x y w : Int) (W : World) (hT : Tab W) : Calls Tryd.prog 12 #[.int .i64 x, .int .i64 y, .int .i64 w] W fun e W' => e = .returned (.bool true) ∧ Below W.heap.size W W' :=
  (meets_walk x y w W (K.refl hT)).mono fun _ _ ⟨a, _, b⟩ => ⟨a, b.below⟩

end Go.Proofs.YtgfplpkmcdpbeaaDoor
