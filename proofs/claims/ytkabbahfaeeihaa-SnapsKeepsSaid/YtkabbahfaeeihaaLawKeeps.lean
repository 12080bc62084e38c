/- SnapsKeeps, walked by hand. -/
import Derived.Test.YtkabbahfaeeihaaHl
namespace Go.Proofs.Ytkabbahfaeeihaa.Q
open Go.RowKit Go.Proofs.YtkabbahfaeeihaaW.PrintWords Go.Proofs.YtkabbahfaeeihaaW.PrintLast Go.Proofs.YtkabbahfaeeihaaW.PrintMore
attribute [local go_sem] max2_int min2_int max_two min_two max_three min_three max_four min_four
set_option linter.unusedVariables false
set_option linter.unusedSimpArgs false
def kL.T8 : Bool × List (List Nat × List Nat) := (true, [([], []), ([], []), ([], []), ([1, 2], [1, 2]), ([3], [3]), ([0, 4], [0, 4]), ([5], [5]), ([6], [6]), ([6], [6]), ([6], [6]), ([], []), ([10, 7, 5, 0, 1, 2, 3, 4, 5, 6, 7, 10], [7, 10]), ([8, 11, 0, 1, 2, 3, 4, 5, 6, 7, 8, 10, 11], [8]), ([9, 12, 0, 1, 2, 3, 4, 5, 6, 7, 8, 9, 10, 11, 12], [9])])
def kL.B8 : List Nat := [0, 0, 0, 6, 14, 31, 63, 127, 127, 127, 0, 1279, 3583, 8191]
theorem kL.tab8 : rtab .any (opsOf Try.f5 8) = kL.T8 := by kernel_rfl
theorem kL.bits8 : waitsOk kL.T8.2 kL.B8 = true := by kernel_rfl
def kL.T20 : Bool × List (List Nat × List Nat) := (true, [([], []), ([], []), ([], []), ([1, 2], [1, 2]), ([3], [3]), ([0, 4], [0, 4]), ([5], [5]), ([6], [6]), ([6], [6]), ([6], [6]), ([], []), ([10, 7, 5, 0, 1, 2, 3, 4, 5, 6, 7, 10], [7, 10]), ([8, 11, 0, 1, 2, 3, 4, 5, 6, 7, 8, 10, 11], [8]), ([9, 12, 0, 1, 2, 3, 4, 5, 6, 7, 8, 9, 10, 11, 12], [9])])
def kL.B20 : List Nat := [0, 0, 0, 6, 14, 31, 63, 127, 127, 127, 0, 1279, 3583, 8191]
theorem kL.tab20 : rtab .any (opsOf Try.f5 20) = kL.T20 := by kernel_rfl
theorem kL.bits20 : waitsOk kL.T20.2 kL.B20 = true := by kernel_rfl
/-- A round behind the row that is kept. -/
structure AtKeep (w : World) (g : Nat) (a0 : Int) (l : List S50) (id : Int) (t : List S72) (i : Value) (W : World) : Prop where
  out : ∃ (j : Nat) (v : Value) (ids : List Int) (rows : List (List S72)) (room last : Int) (n : Nat), i = .int .i64 (j : Int) ∧ j ≤ l.length ∧ n ≤ 200 + j ∧ Fr w [(g, v, 28)] W ∧ Tb [(g, v, 28)] W v ids rows room last ∧ (∃ gv, Once a0 ids rows room last gv n) ∧ At ids rows id t
set_option maxHeartbeats 8000000 in
set_option maxRecDepth 100000 in
theorem keeps_law (a0 : Int) (A1 : Option Addr) (c1 : Nat) (l1 : List S50) (A2 : Option Addr) (c2 : Nat) (t : List S72) (A3 : Option Addr) (c3 : Nat) (l3 : List S50) (w : World) (HR1 : Kd.C k50 w A1 l1.length l1) (HC1 : l1.length ≤ c1) (HR2 : Kd.C k72 w A2 t.length t) (HC2 : t.length ≤ c2) (HR3 : Kd.C k50 w A3 l3.length l3) (HC3 : l3.length ≤ c3) :
    Calls Try.prog 5 #[.int .i64 a0, .slice A1 l1.length c1, .slice A2 t.length c2, .slice A3 l3.length c3] w fun e w' => e = .returned (.bool true) ∧ Below w.heap.size w w' := by
  have hu28 := Try.underlying28
  have hu50 := Try.underlying50
  have V2 : Vw k72 [] w (.slice A2 t.length c2) t := Vw.arg k72_heap HR2 HC2 rfl
  have hrow := row_ok HR2
  obtain ⟨ka, hA⟩ := awake_ev
  replace hA := hA ka (Nat.le_refl _)
  obtain ⟨b1, ⟨ks1, hS1⟩, hb1⟩ := small_ev l1 (steps_ok HR1) l1.length 0 (by omega)
  replace hS1 : cordwoodlaw21_small.f ks1 l1 = some b1 := hS1 ks1 (Nat.le_refl _)
  obtain ⟨b3, ⟨ks3, hS3⟩, hb3⟩ := small_ev l3 (steps_ok HR3) l3.length 0 (by omega)
  replace hS3 : cordwoodlaw21_small.f ks3 l3 = some b3 := hS3 ks3 (Nat.le_refl _)
  obtain ⟨b2, kt, hT2⟩ := few_ev t hrow.1 t.length 0 (by omega)
  replace hT2 : cordwoodref10_Few.f kt t = some b2 := hT2 kt (Nat.le_refl _)
  cases b1 with
  | false =>
    go_enter Try.func5, Try.ntmps5
    go_wp2_with (first | ((with_reducible refine gate_callee (f := 9) rfl ?_); refine goesL_ (some 25) rfl rfl Try.func9 (by kernel_rfl) rfl #[] rfl (by (try simp only [List.map_toArray, List.map_cons, List.map_nil]); first | done | rfl) ?_; refine (awake_c (Fr.start w) hA).mono ?_; rintro e w1 ⟨rfl, F1, M1⟩; refine ⟨_, rfl, ?_⟩) | ((with_reducible refine gate_callee (f := 17) rfl ?_); refine goesL_ (some 27) rfl rfl Try.func17 (by kernel_rfl) rfl #[.slice A1 l1.length c1] rfl (by (try simp only [List.map_toArray, List.map_cons, List.map_nil]); first | done | rfl) ?_; refine (small_c F1 HR1 HC1 hS1).mono ?_; rintro e w2 ⟨rfl, F2, M2⟩; refine ⟨_, rfl, ?_⟩))
    go_ret
    exact ⟨rfl, F2.bel⟩
  | true =>
  cases b3 with
  | false =>
    go_enter Try.func5, Try.ntmps5
    go_wp2_with (first | ((with_reducible refine gate_callee (f := 9) rfl ?_); refine goesL_ (some 25) rfl rfl Try.func9 (by kernel_rfl) rfl #[] rfl (by (try simp only [List.map_toArray, List.map_cons, List.map_nil]); first | done | rfl) ?_; refine (awake_c (Fr.start w) hA).mono ?_; rintro e w1 ⟨rfl, F1, M1⟩; refine ⟨_, rfl, ?_⟩) | ((with_reducible refine gate_callee (f := 17) rfl ?_); refine goesL_ (some 27) rfl rfl Try.func17 (by kernel_rfl) rfl #[.slice A1 l1.length c1] rfl (by (try simp only [List.map_toArray, List.map_cons, List.map_nil]); first | done | rfl) ?_; refine (small_c F1 HR1 HC1 hS1).mono ?_; rintro e w2 ⟨rfl, F2, M2⟩; refine ⟨_, rfl, ?_⟩) | ((with_reducible refine gate_callee (f := 17) rfl ?_); (try (refine gate_guard (by rfl) ?_; dsimp only)); refine goesL_ (some 31) rfl rfl Try.func17 (by kernel_rfl) rfl #[.slice A3 l3.length c3] rfl (by (try simp only [List.map_toArray, List.map_cons, List.map_nil]); first | done | rfl) ?_; refine (small_c F2 HR3 HC3 hS3).mono ?_; rintro e w3 ⟨rfl, F3, M3⟩; refine ⟨_, rfl, ?_⟩))
    go_ret
    exact ⟨rfl, F3.bel⟩
  | true =>
  cases b2 with
  | false =>
    go_enter Try.func5, Try.ntmps5
    go_wp2_with (first | ((with_reducible refine gate_callee (f := 9) rfl ?_); refine goesL_ (some 25) rfl rfl Try.func9 (by kernel_rfl) rfl #[] rfl (by (try simp only [List.map_toArray, List.map_cons, List.map_nil]); first | done | rfl) ?_; refine (awake_c (Fr.start w) hA).mono ?_; rintro e w1 ⟨rfl, F1, M1⟩; refine ⟨_, rfl, ?_⟩) | ((with_reducible refine gate_callee (f := 17) rfl ?_); refine goesL_ (some 27) rfl rfl Try.func17 (by kernel_rfl) rfl #[.slice A1 l1.length c1] rfl (by (try simp only [List.map_toArray, List.map_cons, List.map_nil]); first | done | rfl) ?_; refine (small_c F1 HR1 HC1 hS1).mono ?_; rintro e w2 ⟨rfl, F2, M2⟩; refine ⟨_, rfl, ?_⟩) | ((with_reducible refine gate_callee (f := 17) rfl ?_); (try (refine gate_guard (by rfl) ?_; dsimp only)); refine goesL_ (some 31) rfl rfl Try.func17 (by kernel_rfl) rfl #[.slice A3 l3.length c3] rfl (by (try simp only [List.map_toArray, List.map_cons, List.map_nil]); first | done | rfl) ?_; refine (small_c F2 HR3 HC3 hS3).mono ?_; rintro e w3 ⟨rfl, F3, M3⟩; refine ⟨_, rfl, ?_⟩) | ((with_reducible refine gate_callee (f := 11) rfl ?_); (try (refine gate_guard (by rfl) ?_; dsimp only)); refine goesL_ (some 36) rfl rfl Try.func11 (by kernel_rfl) rfl #[.slice A2 t.length c2] rfl (by (try simp only [List.map_toArray, List.map_cons, List.map_nil]); first | done | rfl) ?_; refine (few_c F3 (V2.mv F3.mv) hT2).mono ?_; rintro e w4 ⟨rfl, F4, M4⟩; refine ⟨_, rfl, ?_⟩))
    go_ret
    exact ⟨rfl, F4.bel⟩
  | true =>
    have hl1 := hb1 rfl
    have hl3 := hb3 rfl
    go_enter Try.func5, Try.ntmps5
    go_wp2_with (first | ((with_reducible refine gate_callee (f := 9) rfl ?_); refine goesL_ (some 25) rfl rfl Try.func9 (by kernel_rfl) rfl #[] rfl (by (try simp only [List.map_toArray, List.map_cons, List.map_nil]); first | done | rfl) ?_; refine (awake_c (Fr.start w) hA).mono ?_; rintro e w1 ⟨rfl, F1, M1⟩; refine ⟨_, rfl, ?_⟩) | ((with_reducible refine gate_callee (f := 17) rfl ?_); refine goesL_ (some 27) rfl rfl Try.func17 (by kernel_rfl) rfl #[.slice A1 l1.length c1] rfl (by (try simp only [List.map_toArray, List.map_cons, List.map_nil]); first | done | rfl) ?_; refine (small_c F1 HR1 HC1 hS1).mono ?_; rintro e w2 ⟨rfl, F2, M2⟩; refine ⟨_, rfl, ?_⟩) | ((with_reducible refine gate_callee (f := 17) rfl ?_); (try (refine gate_guard (by rfl) ?_; dsimp only)); refine goesL_ (some 31) rfl rfl Try.func17 (by kernel_rfl) rfl #[.slice A3 l3.length c3] rfl (by (try simp only [List.map_toArray, List.map_cons, List.map_nil]); first | done | rfl) ?_; refine (small_c F2 HR3 HC3 hS3).mono ?_; rintro e w3 ⟨rfl, F3, M3⟩; refine ⟨_, rfl, ?_⟩) | ((with_reducible refine gate_callee (f := 11) rfl ?_); (try (refine gate_guard (by rfl) ?_; dsimp only)); refine goesL_ (some 36) rfl rfl Try.func11 (by kernel_rfl) rfl #[.slice A2 t.length c2] rfl (by (try simp only [List.map_toArray, List.map_cons, List.map_nil]); first | done | rfl) ?_; refine (few_c F3 (V2.mv F3.mv) hT2).mono ?_; rintro e w4 ⟨rfl, F4, M4⟩; refine ⟨_, rfl, ?_⟩) | ((with_reducible refine gate_callee (f := 10) rfl ?_); refine goesL_ (some 41) rfl rfl Try.func10 (by kernel_rfl) rfl #[.int .i64 a0] rfl (by (try simp only [List.map_toArray, List.map_cons, List.map_nil]); first | done | rfl) ?_; refine (new_c a0 F4).mono ?_; rintro e w5 ⟨v5, rfl, T5, F5, M5⟩; refine ⟨_, rfl, ?_⟩) | ((with_reducible refine gate_dst (N := 10) rfl ?_); refine fr_new (N := 10) (by assumption) rfl rfl (zero28) 28 zero_fits ?hr ?_; (case hr => first | (go_simp; done) | (go_simp; rfl)); intro g10 w6 F6 M6) | ((with_reducible refine gate_store (t := 28) (p := 10) rfl ?_); refine fr_store (v := v5) (by assumption) rfl rfl rfl rfl rfl T5.fits (by repeat (first | exact Put.here | apply Put.there)) ?_; intro w7 F7 M7))
    go_loopw [11] (fun i W => AtStep w g10 a0 l1 i W) (fun i _ => l1.length - (intOf i).toNat)
    case atStart => exact ⟨⟨0, v5, [], [], _, 0, rfl, Nat.zero_le _, F7, T5.mv (M6.trans M7), [], once_start a0⟩⟩
    case round =>
      obtain ⟨⟨j, v, ids, rows, room, last, rfl, hj, F, T, gv, hO⟩⟩ := hrel
      clear hA hS1 hS3 hT2 hb1 hb3 T5 F1 F2 F3 F4 F5 F6 F7 M1 M2 M3 M4 M5 M6 M7
      have hsh := hO.short
      have hlow := hO.low
      have hhigh := hO.high
      by_cases hlt : j < l1.length
      · obtain ⟨ids', rows', last', i', e', ⟨k, hd⟩, hdid⟩ := done_ev ids rows room last (rd_T50 l1 (j : Int)).f0 (rd_T50 l1 (j : Int)).f1 (rd_T50 l1 (j : Int)).f2 hO.len (by omega) hO.low (by omega)
        replace hd := hd k (Nat.le_refl _)
        have hi0 : (0 : Int) ≤ (j : Int) := by omega
        have hi2 : (j : Int) < (l1.length : Int) := by omega
        obtain ⟨ad, Ae, ce, rfl, hst⟩ := step_at HR1 (j : Int) hi0 hi2
        simp only [Int.toNat_natCast] at hst
        go_wp2
        refine start_ (n := 14) (S := Held w [(g10, v, 28)] [(g10, v, 28)] (World.drew _)) (ds := []) #[false, false, false, false, false, false, false, false, false, false, false, false, false, false] (by kernel_rfl) rfl rfl (Held.start F) (fun hHeld => ?_); refine with_tabW kL.tab8 kL.bits8 (fun HT_ HW_ => ?_)
        have FD := F.drew
        have TD := T.mv (Mv.refl _ _).drew
        generalize World.drew _ = wd at FD TD hHeld ⊢
        refine pure_ (i := 1) (N := some 50) (v := ?_) (a' := ?_) #[false, true, false, false, false, false, false, false, false, false, false, false, false, false] rfl rfl (any_of HT_.out (by kernel_rfl)) (fun _ _ _ h => h) (Or.inl ⟨by rfl, ?_⟩) ?_ ?_
        rotate_left
        · intro w'
          go_simp
          with_reducible rfl
        rotate_left
        · simp only [Act.put, List.setIfInBounds_toArray, List.set_cons_zero, List.set_cons_succ, i64_w, i32_w]
          rfl
        refine pure_ (i := 2) (N := some 51) (v := ?_) (a' := ?_) #[false, true, true, false, false, false, false, false, false, false, false, false, false, false] rfl rfl (any_of HT_.out (by kernel_rfl)) (fun _ _ _ h => h) (Or.inl ⟨by rfl, ?_⟩) ?_ ?_
        rotate_left
        · intro w'
          go_simp
          with_reducible rfl
        rotate_left
        · simp only [Act.put, List.setIfInBounds_toArray, List.set_cons_zero, List.set_cons_succ, i64_w, i32_w]
          rfl
        refine pure_ (i := 3) (N := some 52) (v := ?_) (a' := ?_) #[false, true, true, true, false, false, false, false, false, false, false, false, false, false] rfl rfl (any_of HT_.out (by kernel_rfl)) (fun _ _ _ h => h) (Or.inl ⟨by rfl, ?_⟩) ?_ ?_
        rotate_left
        · intro w'
          go_simp
          with_reducible rfl
        rotate_left
        · simp only [Act.put, List.setIfInBounds_toArray, List.set_cons_zero, List.set_cons_succ, i64_w, i32_w]
          rfl
        refine take_ (i := 0) (N := some 49) (v := v) (a' := ?_) #[true, true, true, true, false, false, false, false, false, false, false, false, false, false] rfl rfl (take_ofW HT_.out HW_.out (by kernel_rfl)) (fun _ _ _ h => h) (Or.inl ⟨by rfl, ?_⟩) hHeld ?_ ?_
        · intro w' hS
          exact hS.run_load (t := 28) rfl rfl (List.mem_cons_self) (by kernel_rfl) Try.underlying28
        rotate_left
        · simp only [Act.put, List.setIfInBounds_toArray, List.set_cons_zero, List.set_cons_succ, i64_w, i32_w]
          rfl
        refine take_ (i := 4) (N := some 53) (v := ?_) (a' := ?_) #[true, true, true, true, true, false, false, false, false, false, false, false, false, false] rfl rfl (take_ofW HT_.out HW_.out (by kernel_rfl)) (fun _ _ _ h => h) (Or.inl ⟨by rfl, ?_⟩) hHeld ?_ ?_
        rotate_left
        · rintro w' hS
          obtain ⟨L_, hF_, _, _⟩ := hS.out
          obtain ⟨s0, s1, s2, _⟩ := hst _ _ hF_
          go_simp
          with_reducible rfl
        rotate_left
        · simp only [Act.put, List.setIfInBounds_toArray, List.set_cons_zero, List.set_cons_succ, i64_w, i32_w]
          rfl
        refine join_ (σ := Value × Nat) 3 #[true, true, true, true, true, true, true, true, true, true, true, false, false, false] (fun s_ => [(54, .tuple #[s_.1, .int .i64 i', .int .i64 e']), (12, .pointer (some ⟨s_.2, 0, none⟩)), (48, .tuple #[s_.1, .int .i64 i', .int .i64 e']), (55, s_.1), (56, .int .i64 i'), (57, .int .i64 e')]) (fun s_ w' => Fr w ((s_.2, zero28, 28) :: [(g10, v, 28)]) w' ∧ Tb ((s_.2, zero28, 28) :: [(g10, v, 28)]) w' s_.1 ids' rows' room last' ∧ Mv [(g10, v, 28)] wd ((s_.2, zero28, 28) :: [(g10, v, 28)]) w') ?_ ?_
        rotate_left
        · intro hCont
          refine two_ (i := 5) (j := 10) (Ni := some 54) (Nj := some 12) #[true, true, true, true, true, true, false, false, false, false, false, false, false, false] #[true, true, true, true, true, false, false, false, false, false, true, false, false, false] rfl rfl rfl rfl (two_of HT_.out (by kernel_rfl)) (by decide) (by decide) (fun K hK => ?_) (fun K hK => ?_)
          · skip
            refine goes_ Try.func19 (by kernel_rfl) rfl #[v, .agg #[.int .i64 (rd_T50 l1 (j : Int)).f0, .int .i64 (rd_T50 l1 (j : Int)).f1, .slice Ae (rd_T50 l1 (j : Int)).f2.length ce]] (by rfl) rfl rfl (by (try simp only [List.map_toArray, List.map_cons, List.map_nil]); first | done | rfl) ?_
            refine (done_c (k := k) FD (TD.mv (Mv.refl _ _)) (hst _ _ FD).2.2.2 hd).mono ?_
            rintro e w9 ⟨v', rfl, T9, F9, M9⟩
            refine ⟨_, rfl, ?_⟩
            refine hK.out _ _ (Held.of F9 M9 (fun _ h => h)) (fun hHeld => ?_)
            clear hK K
            refine norm_ (a' := ?_) ?_ ?_
            rotate_left
            · show Act.put _ (some 54) _ = _
              simp only [Act.put, List.setIfInBounds_toArray, List.set_cons_zero, List.set_cons_succ, i64_w, i32_w]
              rfl
            refine pure_ (i := 6) (N := some 48) (v := ?_) (a' := ?_) #[true, true, true, true, true, true, true, false, false, false, false, false, false, false] rfl rfl (any_of HT_.out (by kernel_rfl)) (fun _ _ _ h => h) (Or.inl ⟨by rfl, ?_⟩) ?_ ?_
            rotate_left
            · intro w'
              go_simp
              with_reducible rfl
            rotate_left
            · simp only [Act.put, List.setIfInBounds_toArray, List.set_cons_zero, List.set_cons_succ, i64_w, i32_w]
              rfl
            refine pure_ (i := 7) (N := some 55) (v := ?_) (a' := ?_) #[true, true, true, true, true, true, true, true, false, false, false, false, false, false] rfl rfl (any_of HT_.out (by kernel_rfl)) (fun _ _ _ h => h) (Or.inl ⟨by rfl, ?_⟩) ?_ ?_
            rotate_left
            · intro w'
              go_simp
              with_reducible rfl
            rotate_left
            · simp only [Act.put, List.setIfInBounds_toArray, List.set_cons_zero, List.set_cons_succ, i64_w, i32_w]
              rfl
            refine pure_ (i := 8) (N := some 56) (v := ?_) (a' := ?_) #[true, true, true, true, true, true, true, true, true, false, false, false, false, false] rfl rfl (any_of HT_.out (by kernel_rfl)) (fun _ _ _ h => h) (Or.inl ⟨by rfl, ?_⟩) ?_ ?_
            rotate_left
            · intro w'
              go_simp
              with_reducible rfl
            rotate_left
            · simp only [Act.put, List.setIfInBounds_toArray, List.set_cons_zero, List.set_cons_succ, i64_w, i32_w]
              rfl
            refine pure_ (i := 9) (N := some 57) (v := ?_) (a' := ?_) #[true, true, true, true, true, true, true, true, true, true, false, false, false, false] rfl rfl (any_of HT_.out (by kernel_rfl)) (fun _ _ _ h => h) (Or.inl ⟨by rfl, ?_⟩) ?_ ?_
            rotate_left
            · intro w'
              go_simp
              with_reducible rfl
            rotate_left
            · simp only [Act.put, List.setIfInBounds_toArray, List.set_cons_zero, List.set_cons_succ, i64_w, i32_w]
              rfl
            refine one_ (i := 10) (N := some 12) #[true, true, true, true, true, true, true, true, true, true, true, false, false, false] rfl rfl (one_of HT_.out (by kernel_rfl)) (by decide) (fun K hK => ?_)
            refine box_step ?hg (N := 12) ?hd (cs := #[.slice none 0 0, .slice none 0 0, .int .i64 0, .int .i64 0]) (t := 28) ?hr ?_; (case hd => rfl); (case hg => rfl); (case hr => first | (go_simp; done) | (go_simp; rfl))
            intro g8 hg w10 hbox hb
            obtain ⟨F10, M10⟩ := F9.new (v := zero28) hg hbox zero_fits hb
            clear hg hbox hb
            refine hK.out _ _ (Held.of F10 (M9.trans M10) (fun _ h => List.mem_cons_of_mem _ h)) (fun hHeld => ?_)
            clear hK K
            refine norm_ (a' := ?_) ?_ ?_
            rotate_left
            · show Act.put _ (some 12) _ = _
              simp only [Act.put, List.setIfInBounds_toArray, List.set_cons_zero, List.set_cons_succ, i64_w, i32_w]
              rfl
            exact norm_ (by simp only [putAll, Act.put, List.setIfInBounds_toArray, List.set_cons_zero, List.set_cons_succ]) (hCont (v', g8) _ ⟨F10, T9.mv M10, M9.trans M10⟩)
          · skip
            refine box_step ?hg (N := 12) ?hd (cs := #[.slice none 0 0, .slice none 0 0, .int .i64 0, .int .i64 0]) (t := 28) ?hr ?_; (case hd => rfl); (case hg => rfl); (case hr => first | (go_simp; done) | (go_simp; rfl))
            intro g8 hg w9 hbox hb
            obtain ⟨F9, M9⟩ := FD.new (v := zero28) hg hbox zero_fits hb
            clear hg hbox hb
            refine hK.out _ _ (Held.of F9 M9 (fun _ h => List.mem_cons_of_mem _ h)) (fun hHeld => ?_)
            clear hK K
            refine norm_ (a' := ?_) ?_ ?_
            rotate_left
            · show Act.put _ (some 12) _ = _
              simp only [Act.put, List.setIfInBounds_toArray, List.set_cons_zero, List.set_cons_succ, i64_w, i32_w]
              rfl
            refine one_ (i := 5) (N := some 54) #[true, true, true, true, true, true, false, false, false, false, true, false, false, false] rfl rfl (one_of HT_.out (by kernel_rfl)) (by decide) (fun K hK => ?_)
            refine goes_ Try.func19 (by kernel_rfl) rfl #[v, .agg #[.int .i64 (rd_T50 l1 (j : Int)).f0, .int .i64 (rd_T50 l1 (j : Int)).f1, .slice Ae (rd_T50 l1 (j : Int)).f2.length ce]] (by rfl) rfl rfl (by (try simp only [List.map_toArray, List.map_cons, List.map_nil]); first | done | rfl) ?_
            refine (done_c (k := k) F9 (TD.mv M9) (hst _ _ F9).2.2.2 hd).mono ?_
            rintro e w10 ⟨v', rfl, T10, F10, M10⟩
            refine ⟨_, rfl, ?_⟩
            refine hK.out _ _ (Held.of F10 (M9.trans M10) (fun _ h => List.mem_cons_of_mem _ h)) (fun hHeld => ?_)
            clear hK K
            refine norm_ (a' := ?_) ?_ ?_
            rotate_left
            · show Act.put _ (some 54) _ = _
              simp only [Act.put, List.setIfInBounds_toArray, List.set_cons_zero, List.set_cons_succ, i64_w, i32_w]
              rfl
            refine pure_ (i := 6) (N := some 48) (v := ?_) (a' := ?_) #[true, true, true, true, true, true, true, false, false, false, true, false, false, false] rfl rfl (any_of HT_.out (by kernel_rfl)) (fun _ _ _ h => h) (Or.inl ⟨by rfl, ?_⟩) ?_ ?_
            rotate_left
            · intro w'
              go_simp
              with_reducible rfl
            rotate_left
            · simp only [Act.put, List.setIfInBounds_toArray, List.set_cons_zero, List.set_cons_succ, i64_w, i32_w]
              rfl
            refine pure_ (i := 7) (N := some 55) (v := ?_) (a' := ?_) #[true, true, true, true, true, true, true, true, false, false, true, false, false, false] rfl rfl (any_of HT_.out (by kernel_rfl)) (fun _ _ _ h => h) (Or.inl ⟨by rfl, ?_⟩) ?_ ?_
            rotate_left
            · intro w'
              go_simp
              with_reducible rfl
            rotate_left
            · simp only [Act.put, List.setIfInBounds_toArray, List.set_cons_zero, List.set_cons_succ, i64_w, i32_w]
              rfl
            refine pure_ (i := 8) (N := some 56) (v := ?_) (a' := ?_) #[true, true, true, true, true, true, true, true, true, false, true, false, false, false] rfl rfl (any_of HT_.out (by kernel_rfl)) (fun _ _ _ h => h) (Or.inl ⟨by rfl, ?_⟩) ?_ ?_
            rotate_left
            · intro w'
              go_simp
              with_reducible rfl
            rotate_left
            · simp only [Act.put, List.setIfInBounds_toArray, List.set_cons_zero, List.set_cons_succ, i64_w, i32_w]
              rfl
            refine pure_ (i := 9) (N := some 57) (v := ?_) (a' := ?_) #[true, true, true, true, true, true, true, true, true, true, true, false, false, false] rfl rfl (any_of HT_.out (by kernel_rfl)) (fun _ _ _ h => h) (Or.inl ⟨by rfl, ?_⟩) ?_ ?_
            rotate_left
            · intro w'
              go_simp
              with_reducible rfl
            rotate_left
            · simp only [Act.put, List.setIfInBounds_toArray, List.set_cons_zero, List.set_cons_succ, i64_w, i32_w]
              rfl
            exact norm_ (by simp only [putAll, Act.put, List.setIfInBounds_toArray, List.set_cons_zero, List.set_cons_succ]) (hCont (v', g8) _ ⟨F10, T10, M9.trans M10⟩)
        rintro ⟨v', g8⟩ w10 ⟨F10, T10, M10⟩
        have hHeld : Held w [(g10, v, 28)] [(g10, v, 28)] wd w10 := Held.of F10 M10 (fun _ h => List.mem_cons_of_mem _ h)
        refine norm_ (a' := ?_) ?_ ?_
        rotate_left
        · simp only [putAll, Act.put, List.setIfInBounds_toArray, List.set_cons_zero, List.set_cons_succ]
          rfl
        refine one_ (i := 11) (N := none) #[true, true, true, true, true, true, true, true, true, true, true, true, false, false] rfl rfl (one_of HT_.out (by kernel_rfl)) (by decide) (fun K hK => ?_)
        refine skip_ (by rfl) rfl (F10.run_store (v := v') rfl rfl rfl (T10.fits) Put.here) ?_
        obtain ⟨F11, M11⟩ := F10.put (v := v') (Put.here : Put _ _ _ 28 _) (T10.fits)
        generalize World.setCells _ _ _ _ = w11 at F11 M11 ⊢
        refine hK.out _ _ (Held.of F11 (M10.trans M11) (fun _ h => List.mem_cons_of_mem _ h)) (fun hHeld => ?_)
        clear hK K
        have T11 := T10.mv M11
        have M12 := M10.trans M11
        refine pure_ (i := 12) (N := some 13) (v := ?_) (a' := ?_) #[true, true, true, true, true, true, true, true, true, true, true, true, true, false] rfl rfl (any_of HT_.out (by kernel_rfl)) (fun _ _ _ h => h) (Or.inl ⟨by rfl, ?_⟩) ?_ ?_
        rotate_left
        · intro w'
          go_simp
          with_reducible rfl
        rotate_left
        · simp only [Act.put, List.setIfInBounds_toArray, List.set_cons_zero, List.set_cons_succ, i64_w, i32_w]
          rfl
        refine pure_ (i := 13) (N := some 14) (v := ?_) (a' := ?_) #[true, true, true, true, true, true, true, true, true, true, true, true, true, true] rfl rfl (any_of HT_.out (by kernel_rfl)) (fun _ _ _ h => h) (Or.inl ⟨by rfl, ?_⟩) ?_ ?_
        rotate_left
        · intro w'
          go_simp
          with_reducible rfl
        rotate_left
        · simp only [Act.put, List.setIfInBounds_toArray, List.set_cons_zero, List.set_cons_succ, i64_w, i32_w]
          rfl
        refine done_ (done_of HT_.out (by kernel_rfl)) ?_
        go_wp2_with (first | ((with_reducible refine gate_dst (N := 58) rfl ?_); refine fr_load (t := 28) (by assumption) rfl rfl rfl (by repeat (first | exact List.mem_cons_self | apply List.mem_cons_of_mem)) (by kernel_rfl) Try.underlying28 ?_) | ((with_reducible refine gate_store (t := 28) (p := 10) rfl ?_); refine fr_store (v := v') (by assumption) rfl rfl rfl rfl rfl T11.fits (by repeat (first | exact Put.here | apply Put.there)) ?_; intro w13 F13 M13))
        go_roundw
        case rel => exact ⟨⟨j + 1, v', ids', rows', room, last', by go_num, by omega, F13.tail, T11.mv M13.tail, once_did ⟨gv, hO⟩ hdid⟩⟩
        case measure => simp [intOf]; omega
      · have hi2 : ¬ ((j : Int) < (l1.length : Int)) := by omega
        have hi3 := decide_eq_false hi2
        have hids : snaps_IDs.f ids rows room last = some ids := ids_some ids rows room last (by omega)
        by_cases cr : (ids.length : Int) < room
        · have hlen := hO.len
          have hk := keep_some ids rows room last t hlen (by omega) hlow (by omega) cr
          have hO2 := hO.add t cr
          have hat0 : At (ids ++ [last + 1]) (rows ++ [t]) (last + 1) t := ⟨ids.length, by simp, by simp [hlen]⟩
          have hid1 : 1 ≤ last + 1 := by omega
          obtain ⟨id, hid⟩ : ∃ id, last + 1 = id := ⟨_, rfl⟩
          rw [hid] at hk hO2 hat0 hid1
          clear hlen hid hids
          go_wp2_with (first | ((with_reducible refine gate_dst (N := 60) rfl ?_); refine fr_load (t := 28) (by assumption) rfl rfl rfl (by repeat (first | exact List.mem_cons_self | apply List.mem_cons_of_mem)) (by kernel_rfl) Try.underlying28 ?_) | ((with_reducible refine gate_callee (f := 12) rfl ?_); refine goesL_ (some 62) rfl rfl Try.func12 (by kernel_rfl) rfl #[v, .slice A2 t.length c2] rfl (by (try simp only [List.map_toArray, List.map_cons, List.map_nil]); first | done | rfl) ?_; refine (keep_c F T (V2.mv F.mv) hk).mono ?_; rintro e w8 ⟨v8, rfl, T8, F8, M8⟩; refine ⟨_, rfl, ?_⟩) | ((with_reducible refine gate_dst (N := 15) rfl ?_); refine fr_new (N := 15) (by assumption) rfl rfl (zero28) 28 zero_fits ?hr ?_; (case hr => first | (go_simp; done) | (go_simp; rfl)); intro g15 w9 F9 M9) | ((with_reducible refine gate_store (t := 28) (p := 15) rfl ?_); refine fr_store (v := v8) (by assumption) rfl rfl rfl rfl rfl T8.fits (by repeat (first | exact Put.here | apply Put.there)) ?_; intro w10 F10 M10))
          go_loopw [18] (fun i W => AtKeep w g15 a0 l3 id t i W) (fun i _ => l3.length - (intOf i).toNat)
          case atStart => exact ⟨⟨0, v8, _, _, room, id, j + 1, rfl, Nat.zero_le _, by omega, F10.drop2, T8.mv (M9.trans M10).drop2, ⟨_, hO2⟩, hat0⟩⟩
          case round =>
            clear hO hO2 hat0 hk T T8 F F8 F9 F10 M8 M9 M10 hsh hlow hhigh hlt hi2 hi3 cr hj
            obtain ⟨⟨j, v, ids, rows, room, last, n, rfl, hj, hn, F, T, hO', hat⟩⟩ := hrel
            have hOl : ids.length = rows.length := hO'.elim fun _ h => h.len
            have hsh : ids.length ≤ 64 := hO'.elim fun _ h => h.short
            have hlow : 0 ≤ last := hO'.elim fun _ h => h.low
            have hhigh : last ≤ n := hO'.elim fun _ h => h.high
            have hasc : ids.Pairwise (· < ·) := hO'.elim fun _ h => h.asc
            have hids : snaps_IDs.f ids rows room last = some ids := ids_some ids rows room last (by omega)
            by_cases hlt : j < l3.length
            · obtain ⟨ids', rows', last', i', e', ⟨k, hd⟩, hdid⟩ := done_ev ids rows room last (rd_T50 l3 (j : Int)).f0 (rd_T50 l3 (j : Int)).f1 (rd_T50 l3 (j : Int)).f2 hOl (by omega) hlow (by omega)
              replace hd := hd k (Nat.le_refl _)
              have hi0 : (0 : Int) ≤ (j : Int) := by omega
              have hi2 : (j : Int) < (l3.length : Int) := by omega
              obtain ⟨ad, Ae, ce, rfl, hst⟩ := step_at HR3 (j : Int) hi0 hi2
              simp only [Int.toNat_natCast] at hst
              obtain ⟨s0, s1, s2, _⟩ := hst _ _ F
              have hbits := bits3 (rd_T50 l3 (j : Int)).f0
              have HOL := Aside0.mk hOl
              clear hOl
              have p1 : ((0 : Int) ≤ 0) = True := eq_true (by decide)
              by_cases c1 : Go.bits .and .i64 (rd_T50 l3 (j : Int)).f0 3 = 1
              · have q1 : (Go.bits .and .i64 (rd_T50 l3 (j : Int)).f0 3 == 1) = true := beq_iff_eq.2 c1
                have q2 : decide ((2 : Int) ≤ Go.bits .and .i64 (rd_T50 l3 (j : Int)).f0 3) = false := decide_eq_false (by omega)
                by_cases c2 : (rd_T50 l3 (j : Int)).f1 = id
                · have q3 : ((rd_T50 l3 (j : Int)).f1 == id) = true := beq_iff_eq.2 c2
                  clear c1 c2 hbits
                  go_wp2
                  go_roundw
                  case rel => exact ⟨⟨j + 1, v, ids, rows, room, last, n, by go_num, by omega, by omega, F, T, hO', hat⟩⟩
                  case measure => simp [intOf]; omega
                · have q3 : ((rd_T50 l3 (j : Int)).f1 == id) = false := beq_eq_false_iff_ne.2 c2
                  have C1 := Aside0.mk c1
                  have C2 := Aside0.mk c2
                  clear c1 c2 hbits
                  go_wp2_with (first | ((with_reducible refine gate_dst (N := 113) rfl ?_); refine fr_load (t := 28) (by assumption) rfl rfl rfl (by repeat (first | exact List.mem_cons_self | apply List.mem_cons_of_mem)) (by kernel_rfl) Try.underlying28 ?_) | ((with_reducible refine gate_callee (f := 15) rfl ?_); refine goesL_ (some 114) rfl rfl Try.func15 (by kernel_rfl) rfl #[v] rfl (by (try simp only [List.map_toArray, List.map_cons, List.map_nil]); first | done | rfl) ?_; refine (ids_c F T hids).mono ?_; rintro e wb ⟨u8, rfl, U8, Fb, Mb⟩; obtain ⟨x0, x1, x2, _⟩ := hst _ _ Fb; obtain ⟨Au8, cu8, rfl, _, _⟩ := U8.sl; refine ⟨_, rfl, ?_⟩))
                  have Tb1 := T.mv Mb
                  refine start_ (n := 14) (S := Held w [(g15, v, 28)] [(g15, v, 28)] (World.drew _)) (ds := []) #[false, false, false, false, false, false, false, false, false, false, false, false, false, false] (by kernel_rfl) rfl rfl (Held.start Fb) (fun hHeld => ?_); refine with_tabW kL.tab20 kL.bits20 (fun HT_ HW_ => ?_)
                  have FD := Fb.drew
                  have TD := Tb1.mv (Mv.refl _ _).drew
                  generalize World.drew _ = wd at FD TD hHeld ⊢
                  refine pure_ (i := 1) (N := some 136) (v := ?_) (a' := ?_) #[false, true, false, false, false, false, false, false, false, false, false, false, false, false] rfl rfl (any_of HT_.out (by kernel_rfl)) (fun _ _ _ h => h) (Or.inl ⟨by rfl, ?_⟩) ?_ ?_
                  rotate_left
                  · intro w'
                    go_simp
                    with_reducible rfl
                  rotate_left
                  · simp only [Act.put, List.setIfInBounds_toArray, List.set_cons_zero, List.set_cons_succ, i64_w, i32_w]
                    rfl
                  refine pure_ (i := 2) (N := some 137) (v := ?_) (a' := ?_) #[false, true, true, false, false, false, false, false, false, false, false, false, false, false] rfl rfl (any_of HT_.out (by kernel_rfl)) (fun _ _ _ h => h) (Or.inl ⟨by rfl, ?_⟩) ?_ ?_
                  rotate_left
                  · intro w'
                    go_simp
                    with_reducible rfl
                  rotate_left
                  · simp only [Act.put, List.setIfInBounds_toArray, List.set_cons_zero, List.set_cons_succ, i64_w, i32_w]
                    rfl
                  refine pure_ (i := 3) (N := some 138) (v := ?_) (a' := ?_) #[false, true, true, true, false, false, false, false, false, false, false, false, false, false] rfl rfl (any_of HT_.out (by kernel_rfl)) (fun _ _ _ h => h) (Or.inl ⟨by rfl, ?_⟩) ?_ ?_
                  rotate_left
                  · intro w'
                    go_simp
                    with_reducible rfl
                  rotate_left
                  · simp only [Act.put, List.setIfInBounds_toArray, List.set_cons_zero, List.set_cons_succ, i64_w, i32_w]
                    rfl
                  refine take_ (i := 0) (N := some 135) (v := v) (a' := ?_) #[true, true, true, true, false, false, false, false, false, false, false, false, false, false] rfl rfl (take_ofW HT_.out HW_.out (by kernel_rfl)) (fun _ _ _ h => h) (Or.inl ⟨by rfl, ?_⟩) hHeld ?_ ?_
                  · intro w' hS
                    exact hS.run_load (t := 28) rfl rfl (List.mem_cons_self) (by kernel_rfl) Try.underlying28
                  rotate_left
                  · simp only [Act.put, List.setIfInBounds_toArray, List.set_cons_zero, List.set_cons_succ, i64_w, i32_w]
                    rfl
                  refine take_ (i := 4) (N := some 139) (v := ?_) (a' := ?_) #[true, true, true, true, true, false, false, false, false, false, false, false, false, false] rfl rfl (take_ofW HT_.out HW_.out (by kernel_rfl)) (fun _ _ _ h => h) (Or.inl ⟨by rfl, ?_⟩) hHeld ?_ ?_
                  rotate_left
                  · rintro w' hS
                    obtain ⟨L_, hF_, _, _⟩ := hS.out
                    obtain ⟨s0, s1, s2, _⟩ := hst _ _ hF_
                    go_simp
                    with_reducible rfl
                  rotate_left
                  · simp only [Act.put, List.setIfInBounds_toArray, List.set_cons_zero, List.set_cons_succ, i64_w, i32_w]
                    rfl
                  refine join_ (σ := Value × Nat) 3 #[true, true, true, true, true, true, true, true, true, true, true, false, false, false] (fun s_ => [(140, .tuple #[s_.1, .int .i64 i', .int .i64 e']), (20, .pointer (some ⟨s_.2, 0, none⟩)), (134, .tuple #[s_.1, .int .i64 i', .int .i64 e']), (141, s_.1), (142, .int .i64 i'), (143, .int .i64 e')]) (fun s_ w' => Fr w ((s_.2, zero28, 28) :: [(g15, v, 28)]) w' ∧ Tb ((s_.2, zero28, 28) :: [(g15, v, 28)]) w' s_.1 ids' rows' room last' ∧ Mv [(g15, v, 28)] wd ((s_.2, zero28, 28) :: [(g15, v, 28)]) w') ?_ ?_
                  rotate_left
                  · intro hCont
                    refine two_ (i := 5) (j := 10) (Ni := some 140) (Nj := some 20) #[true, true, true, true, true, true, false, false, false, false, false, false, false, false] #[true, true, true, true, true, false, false, false, false, false, true, false, false, false] rfl rfl rfl rfl (two_of HT_.out (by kernel_rfl)) (by decide) (by decide) (fun K hK => ?_) (fun K hK => ?_)
                    · skip
                      refine goes_ Try.func19 (by kernel_rfl) rfl #[v, .agg #[.int .i64 (rd_T50 l3 (j : Int)).f0, .int .i64 (rd_T50 l3 (j : Int)).f1, .slice Ae (rd_T50 l3 (j : Int)).f2.length ce]] (by rfl) rfl rfl (by (try simp only [List.map_toArray, List.map_cons, List.map_nil]); first | done | rfl) ?_
                      refine (done_c (k := k) FD (TD.mv (Mv.refl _ _)) (hst _ _ FD).2.2.2 hd).mono ?_
                      rintro e w9 ⟨v', rfl, T9, F9, M9⟩
                      refine ⟨_, rfl, ?_⟩
                      refine hK.out _ _ (Held.of F9 M9 (fun _ h => h)) (fun hHeld => ?_)
                      clear hK K
                      refine norm_ (a' := ?_) ?_ ?_
                      rotate_left
                      · show Act.put _ (some 140) _ = _
                        simp only [Act.put, List.setIfInBounds_toArray, List.set_cons_zero, List.set_cons_succ, i64_w, i32_w]
                        rfl
                      refine pure_ (i := 6) (N := some 134) (v := ?_) (a' := ?_) #[true, true, true, true, true, true, true, false, false, false, false, false, false, false] rfl rfl (any_of HT_.out (by kernel_rfl)) (fun _ _ _ h => h) (Or.inl ⟨by rfl, ?_⟩) ?_ ?_
                      rotate_left
                      · intro w'
                        go_simp
                        with_reducible rfl
                      rotate_left
                      · simp only [Act.put, List.setIfInBounds_toArray, List.set_cons_zero, List.set_cons_succ, i64_w, i32_w]
                        rfl
                      refine pure_ (i := 7) (N := some 141) (v := ?_) (a' := ?_) #[true, true, true, true, true, true, true, true, false, false, false, false, false, false] rfl rfl (any_of HT_.out (by kernel_rfl)) (fun _ _ _ h => h) (Or.inl ⟨by rfl, ?_⟩) ?_ ?_
                      rotate_left
                      · intro w'
                        go_simp
                        with_reducible rfl
                      rotate_left
                      · simp only [Act.put, List.setIfInBounds_toArray, List.set_cons_zero, List.set_cons_succ, i64_w, i32_w]
                        rfl
                      refine pure_ (i := 8) (N := some 142) (v := ?_) (a' := ?_) #[true, true, true, true, true, true, true, true, true, false, false, false, false, false] rfl rfl (any_of HT_.out (by kernel_rfl)) (fun _ _ _ h => h) (Or.inl ⟨by rfl, ?_⟩) ?_ ?_
                      rotate_left
                      · intro w'
                        go_simp
                        with_reducible rfl
                      rotate_left
                      · simp only [Act.put, List.setIfInBounds_toArray, List.set_cons_zero, List.set_cons_succ, i64_w, i32_w]
                        rfl
                      refine pure_ (i := 9) (N := some 143) (v := ?_) (a' := ?_) #[true, true, true, true, true, true, true, true, true, true, false, false, false, false] rfl rfl (any_of HT_.out (by kernel_rfl)) (fun _ _ _ h => h) (Or.inl ⟨by rfl, ?_⟩) ?_ ?_
                      rotate_left
                      · intro w'
                        go_simp
                        with_reducible rfl
                      rotate_left
                      · simp only [Act.put, List.setIfInBounds_toArray, List.set_cons_zero, List.set_cons_succ, i64_w, i32_w]
                        rfl
                      refine one_ (i := 10) (N := some 20) #[true, true, true, true, true, true, true, true, true, true, true, false, false, false] rfl rfl (one_of HT_.out (by kernel_rfl)) (by decide) (fun K hK => ?_)
                      refine box_step ?hg (N := 20) ?hd (cs := #[.slice none 0 0, .slice none 0 0, .int .i64 0, .int .i64 0]) (t := 28) ?hr ?_; (case hd => rfl); (case hg => rfl); (case hr => first | (go_simp; done) | (go_simp; rfl))
                      intro g8 hg w10 hbox hb
                      obtain ⟨F10, M10⟩ := F9.new (v := zero28) hg hbox zero_fits hb
                      clear hg hbox hb
                      refine hK.out _ _ (Held.of F10 (M9.trans M10) (fun _ h => List.mem_cons_of_mem _ h)) (fun hHeld => ?_)
                      clear hK K
                      refine norm_ (a' := ?_) ?_ ?_
                      rotate_left
                      · show Act.put _ (some 20) _ = _
                        simp only [Act.put, List.setIfInBounds_toArray, List.set_cons_zero, List.set_cons_succ, i64_w, i32_w]
                        rfl
                      exact norm_ (by simp only [putAll, Act.put, List.setIfInBounds_toArray, List.set_cons_zero, List.set_cons_succ]) (hCont (v', g8) _ ⟨F10, T9.mv M10, M9.trans M10⟩)
                    · skip
                      refine box_step ?hg (N := 20) ?hd (cs := #[.slice none 0 0, .slice none 0 0, .int .i64 0, .int .i64 0]) (t := 28) ?hr ?_; (case hd => rfl); (case hg => rfl); (case hr => first | (go_simp; done) | (go_simp; rfl))
                      intro g8 hg w9 hbox hb
                      obtain ⟨F9, M9⟩ := FD.new (v := zero28) hg hbox zero_fits hb
                      clear hg hbox hb
                      refine hK.out _ _ (Held.of F9 M9 (fun _ h => List.mem_cons_of_mem _ h)) (fun hHeld => ?_)
                      clear hK K
                      refine norm_ (a' := ?_) ?_ ?_
                      rotate_left
                      · show Act.put _ (some 20) _ = _
                        simp only [Act.put, List.setIfInBounds_toArray, List.set_cons_zero, List.set_cons_succ, i64_w, i32_w]
                        rfl
                      refine one_ (i := 5) (N := some 140) #[true, true, true, true, true, true, false, false, false, false, true, false, false, false] rfl rfl (one_of HT_.out (by kernel_rfl)) (by decide) (fun K hK => ?_)
                      refine goes_ Try.func19 (by kernel_rfl) rfl #[v, .agg #[.int .i64 (rd_T50 l3 (j : Int)).f0, .int .i64 (rd_T50 l3 (j : Int)).f1, .slice Ae (rd_T50 l3 (j : Int)).f2.length ce]] (by rfl) rfl rfl (by (try simp only [List.map_toArray, List.map_cons, List.map_nil]); first | done | rfl) ?_
                      refine (done_c (k := k) F9 (TD.mv M9) (hst _ _ F9).2.2.2 hd).mono ?_
                      rintro e w10 ⟨v', rfl, T10, F10, M10⟩
                      refine ⟨_, rfl, ?_⟩
                      refine hK.out _ _ (Held.of F10 (M9.trans M10) (fun _ h => List.mem_cons_of_mem _ h)) (fun hHeld => ?_)
                      clear hK K
                      refine norm_ (a' := ?_) ?_ ?_
                      rotate_left
                      · show Act.put _ (some 140) _ = _
                        simp only [Act.put, List.setIfInBounds_toArray, List.set_cons_zero, List.set_cons_succ, i64_w, i32_w]
                        rfl
                      refine pure_ (i := 6) (N := some 134) (v := ?_) (a' := ?_) #[true, true, true, true, true, true, true, false, false, false, true, false, false, false] rfl rfl (any_of HT_.out (by kernel_rfl)) (fun _ _ _ h => h) (Or.inl ⟨by rfl, ?_⟩) ?_ ?_
                      rotate_left
                      · intro w'
                        go_simp
                        with_reducible rfl
                      rotate_left
                      · simp only [Act.put, List.setIfInBounds_toArray, List.set_cons_zero, List.set_cons_succ, i64_w, i32_w]
                        rfl
                      refine pure_ (i := 7) (N := some 141) (v := ?_) (a' := ?_) #[true, true, true, true, true, true, true, true, false, false, true, false, false, false] rfl rfl (any_of HT_.out (by kernel_rfl)) (fun _ _ _ h => h) (Or.inl ⟨by rfl, ?_⟩) ?_ ?_
                      rotate_left
                      · intro w'
                        go_simp
                        with_reducible rfl
                      rotate_left
                      · simp only [Act.put, List.setIfInBounds_toArray, List.set_cons_zero, List.set_cons_succ, i64_w, i32_w]
                        rfl
                      refine pure_ (i := 8) (N := some 142) (v := ?_) (a' := ?_) #[true, true, true, true, true, true, true, true, true, false, true, false, false, false] rfl rfl (any_of HT_.out (by kernel_rfl)) (fun _ _ _ h => h) (Or.inl ⟨by rfl, ?_⟩) ?_ ?_
                      rotate_left
                      · intro w'
                        go_simp
                        with_reducible rfl
                      rotate_left
                      · simp only [Act.put, List.setIfInBounds_toArray, List.set_cons_zero, List.set_cons_succ, i64_w, i32_w]
                        rfl
                      refine pure_ (i := 9) (N := some 143) (v := ?_) (a' := ?_) #[true, true, true, true, true, true, true, true, true, true, true, false, false, false] rfl rfl (any_of HT_.out (by kernel_rfl)) (fun _ _ _ h => h) (Or.inl ⟨by rfl, ?_⟩) ?_ ?_
                      rotate_left
                      · intro w'
                        go_simp
                        with_reducible rfl
                      rotate_left
                      · simp only [Act.put, List.setIfInBounds_toArray, List.set_cons_zero, List.set_cons_succ, i64_w, i32_w]
                        rfl
                      exact norm_ (by simp only [putAll, Act.put, List.setIfInBounds_toArray, List.set_cons_zero, List.set_cons_succ]) (hCont (v', g8) _ ⟨F10, T10, M9.trans M10⟩)
                  rintro ⟨v', g8⟩ w10 ⟨F10, T10, M10⟩
                  have hHeld : Held w [(g15, v, 28)] [(g15, v, 28)] wd w10 := Held.of F10 M10 (fun _ h => List.mem_cons_of_mem _ h)
                  refine norm_ (a' := ?_) ?_ ?_
                  rotate_left
                  · simp only [putAll, Act.put, List.setIfInBounds_toArray, List.set_cons_zero, List.set_cons_succ]
                    rfl
                  refine one_ (i := 11) (N := none) #[true, true, true, true, true, true, true, true, true, true, true, true, false, false] rfl rfl (one_of HT_.out (by kernel_rfl)) (by decide) (fun K hK => ?_)
                  refine skip_ (by rfl) rfl (F10.run_store (v := v') rfl rfl rfl (T10.fits) Put.here) ?_
                  obtain ⟨F11, M11⟩ := F10.put (v := v') (Put.here : Put _ _ _ 28 _) (T10.fits)
                  generalize World.setCells _ _ _ _ = w11 at F11 M11 ⊢
                  refine hK.out _ _ (Held.of F11 (M10.trans M11) (fun _ h => List.mem_cons_of_mem _ h)) (fun hHeld => ?_)
                  clear hK K
                  have T11 := T10.mv M11
                  have M12 := M10.trans M11
                  refine pure_ (i := 12) (N := some 21) (v := ?_) (a' := ?_) #[true, true, true, true, true, true, true, true, true, true, true, true, true, false] rfl rfl (any_of HT_.out (by kernel_rfl)) (fun _ _ _ h => h) (Or.inl ⟨by rfl, ?_⟩) ?_ ?_
                  rotate_left
                  · intro w'
                    go_simp
                    with_reducible rfl
                  rotate_left
                  · simp only [Act.put, List.setIfInBounds_toArray, List.set_cons_zero, List.set_cons_succ, i64_w, i32_w]
                    rfl
                  refine pure_ (i := 13) (N := some 22) (v := ?_) (a' := ?_) #[true, true, true, true, true, true, true, true, true, true, true, true, true, true] rfl rfl (any_of HT_.out (by kernel_rfl)) (fun _ _ _ h => h) (Or.inl ⟨by rfl, ?_⟩) ?_ ?_
                  rotate_left
                  · intro w'
                    go_simp
                    with_reducible rfl
                  rotate_left
                  · simp only [Act.put, List.setIfInBounds_toArray, List.set_cons_zero, List.set_cons_succ, i64_w, i32_w]
                    rfl
                  refine done_ (done_of HT_.out (by kernel_rfl)) ?_
                  go_wp2_with (first | ((with_reducible refine gate_dst (N := 144) rfl ?_); refine fr_load (t := 28) (by assumption) rfl rfl rfl (by repeat (first | exact List.mem_cons_self | apply List.mem_cons_of_mem)) (by kernel_rfl) Try.underlying28 ?_) | ((with_reducible refine gate_store (t := 28) (p := 15) rfl ?_); refine fr_store (v := v') (by assumption) rfl rfl rfl rfl rfl T11.fits (by repeat (first | exact Put.here | apply Put.there)) ?_; intro w13 F13 M13))
                  go_roundw
                  case rel => exact ⟨⟨j + 1, v', ids', rows', room, last', n + 1, by go_num, by omega, by omega, F13.tail, T11.mv M13.tail, once_did hO' hdid, at_did HOL.out hat hdid (fun _ => C2.out) (fun _ h => absurd C1.out h)⟩⟩
                  case measure => simp [intOf]; omega
              · have q1 : (Go.bits .and .i64 (rd_T50 l3 (j : Int)).f0 3 == 1) = false := beq_eq_false_iff_ne.2 c1
                by_cases c2 : (2 : Int) ≤ Go.bits .and .i64 (rd_T50 l3 (j : Int)).f0 3
                · have q2 : decide ((2 : Int) ≤ Go.bits .and .i64 (rd_T50 l3 (j : Int)).f0 3) = true := decide_eq_true c2
                  have hp : 0 < ids.length := by
                    obtain ⟨p, h1, _⟩ := hat
                    have := (List.getElem?_eq_some_iff.1 h1).1
                    omega
                  have C1 := Aside0.mk c1
                  clear c1 c2 hbits
                  by_cases c3 : (ids.length : Int) = 1
                  · have q3 : ((ids.length : Int) == 1) = true := beq_iff_eq.2 c3
                    clear c3
                    go_wp2_with (first | ((with_reducible refine gate_dst (N := 108) rfl ?_); (try (refine gate_guard (by rfl) ?_; dsimp only)); refine fr_load (t := 28) (by assumption) rfl rfl rfl (by repeat (first | exact List.mem_cons_self | apply List.mem_cons_of_mem)) (by kernel_rfl) Try.underlying28 ?_) | ((with_reducible refine gate_callee (f := 15) rfl ?_); (try (refine gate_guard (by rfl) ?_; dsimp only)); refine goesL_ (some 109) rfl rfl Try.func15 (by kernel_rfl) rfl #[v] rfl (by (try simp only [List.map_toArray, List.map_cons, List.map_nil]); first | done | rfl) ?_; refine (ids_c F (T) hids).mono ?_; rintro e wa ⟨u7, rfl, U7, Fa, Ma⟩; obtain ⟨Au7, cu7, rfl, _, _⟩ := U7.sl; refine ⟨_, rfl, ?_⟩))
                    go_roundw
                    case rel => exact ⟨⟨j + 1, v, ids, rows, room, last, n, by go_num, by omega, by omega, Fa, T.mv Ma, hO', hat⟩⟩
                    case measure => simp [intOf]; omega
                  · have q3 : ((ids.length : Int) == 1) = false := beq_eq_false_iff_ne.2 c3
                    have q0 : (0 : Int) < (ids.length : Int) := by omega
                    have q4 := eq_true q0
                    have qn : (0 < ids.length) = True := eq_true hp
                    clear c3
                    by_cases c4 : rd ids 0 = id
                    · have q5 : (rd ids 0 == id) = true := beq_iff_eq.2 c4
                      clear c4
                      go_wp2_with (first | ((with_reducible refine gate_dst (N := 108) rfl ?_); (try (refine gate_guard (by rfl) ?_; dsimp only)); refine fr_load (t := 28) (by assumption) rfl rfl rfl (by repeat (first | exact List.mem_cons_self | apply List.mem_cons_of_mem)) (by kernel_rfl) Try.underlying28 ?_) | ((with_reducible refine gate_callee (f := 15) rfl ?_); (try (refine gate_guard (by rfl) ?_; dsimp only)); refine goesL_ (some 109) rfl rfl Try.func15 (by kernel_rfl) rfl #[v] rfl (by (try simp only [List.map_toArray, List.map_cons, List.map_nil]); first | done | rfl) ?_; refine (ids_c F (T) hids).mono ?_; rintro e wa ⟨u7, rfl, U7, Fa, Ma⟩; obtain ⟨Au7, cu7, rfl, _, _⟩ := U7.sl; refine ⟨_, rfl, ?_⟩) | ((with_reducible refine gate_dst (N := 113) rfl ?_); refine fr_load (t := 28) (by assumption) rfl rfl rfl (by repeat (first | exact List.mem_cons_self | apply List.mem_cons_of_mem)) (by kernel_rfl) Try.underlying28 ?_) | ((with_reducible refine gate_callee (f := 15) rfl ?_); refine goesL_ (some 114) rfl rfl Try.func15 (by kernel_rfl) rfl #[v] rfl (by (try simp only [List.map_toArray, List.map_cons, List.map_nil]); first | done | rfl) ?_; refine (ids_c Fa (T.mv Ma) hids).mono ?_; rintro e wb ⟨u8, rfl, U8, Fb, Mb⟩; obtain ⟨x0, x1, x2, _⟩ := hst _ _ Fb; obtain ⟨Au8, cu8, rfl, _, _⟩ := U8.sl; have z0 := (U8.int_at 0 (by decide) q0); obtain ⟨ad8, rfl, hz8⟩ := z0; have z1 := hz8 _ _ (Mv.refl _ _); rw [show ((0 : Int)).toNat = 0 from rfl, Addr.add_zero'] at z1; refine ⟨_, rfl, ?_⟩))
                      go_roundw
                      case rel => exact ⟨⟨j + 1, v, ids, rows, room, last, n, by go_num, by omega, by omega, Fb, T.mv (Ma.trans Mb), hO', hat⟩⟩
                      case measure => simp [intOf]; omega
                    · have q5 : (rd ids 0 == id) = false := beq_eq_false_iff_ne.2 c4
                      have C4 := Aside0.mk c4
                      clear c4
                      go_wp2_with (first | ((with_reducible refine gate_dst (N := 108) rfl ?_); (try (refine gate_guard (by rfl) ?_; dsimp only)); refine fr_load (t := 28) (by assumption) rfl rfl rfl (by repeat (first | exact List.mem_cons_self | apply List.mem_cons_of_mem)) (by kernel_rfl) Try.underlying28 ?_) | ((with_reducible refine gate_callee (f := 15) rfl ?_); (try (refine gate_guard (by rfl) ?_; dsimp only)); refine goesL_ (some 109) rfl rfl Try.func15 (by kernel_rfl) rfl #[v] rfl (by (try simp only [List.map_toArray, List.map_cons, List.map_nil]); first | done | rfl) ?_; refine (ids_c F (T) hids).mono ?_; rintro e wa ⟨u7, rfl, U7, Fa, Ma⟩; obtain ⟨Au7, cu7, rfl, _, _⟩ := U7.sl; refine ⟨_, rfl, ?_⟩) | ((with_reducible refine gate_dst (N := 113) rfl ?_); refine fr_load (t := 28) (by assumption) rfl rfl rfl (by repeat (first | exact List.mem_cons_self | apply List.mem_cons_of_mem)) (by kernel_rfl) Try.underlying28 ?_) | ((with_reducible refine gate_callee (f := 15) rfl ?_); refine goesL_ (some 114) rfl rfl Try.func15 (by kernel_rfl) rfl #[v] rfl (by (try simp only [List.map_toArray, List.map_cons, List.map_nil]); first | done | rfl) ?_; refine (ids_c Fa (T.mv Ma) hids).mono ?_; rintro e wb ⟨u8, rfl, U8, Fb, Mb⟩; obtain ⟨x0, x1, x2, _⟩ := hst _ _ Fb; obtain ⟨Au8, cu8, rfl, _, _⟩ := U8.sl; have z0 := (U8.int_at 0 (by decide) q0); obtain ⟨ad8, rfl, hz8⟩ := z0; have z1 := hz8 _ _ (Mv.refl _ _); rw [show ((0 : Int)).toNat = 0 from rfl, Addr.add_zero'] at z1; refine ⟨_, rfl, ?_⟩))
                      have Tb1 := T.mv (Ma.trans Mb)
                      refine start_ (n := 14) (S := Held w [(g15, v, 28)] [(g15, v, 28)] (World.drew _)) (ds := []) #[false, false, false, false, false, false, false, false, false, false, false, false, false, false] (by kernel_rfl) rfl rfl (Held.start Fb) (fun hHeld => ?_); refine with_tabW kL.tab20 kL.bits20 (fun HT_ HW_ => ?_)
                      have FD := Fb.drew
                      have TD := Tb1.mv (Mv.refl _ _).drew
                      generalize World.drew _ = wd at FD TD hHeld ⊢
                      refine pure_ (i := 1) (N := some 136) (v := ?_) (a' := ?_) #[false, true, false, false, false, false, false, false, false, false, false, false, false, false] rfl rfl (any_of HT_.out (by kernel_rfl)) (fun _ _ _ h => h) (Or.inl ⟨by rfl, ?_⟩) ?_ ?_
                      rotate_left
                      · intro w'
                        go_simp
                        with_reducible rfl
                      rotate_left
                      · simp only [Act.put, List.setIfInBounds_toArray, List.set_cons_zero, List.set_cons_succ, i64_w, i32_w]
                        rfl
                      refine pure_ (i := 2) (N := some 137) (v := ?_) (a' := ?_) #[false, true, true, false, false, false, false, false, false, false, false, false, false, false] rfl rfl (any_of HT_.out (by kernel_rfl)) (fun _ _ _ h => h) (Or.inl ⟨by rfl, ?_⟩) ?_ ?_
                      rotate_left
                      · intro w'
                        go_simp
                        with_reducible rfl
                      rotate_left
                      · simp only [Act.put, List.setIfInBounds_toArray, List.set_cons_zero, List.set_cons_succ, i64_w, i32_w]
                        rfl
                      refine pure_ (i := 3) (N := some 138) (v := ?_) (a' := ?_) #[false, true, true, true, false, false, false, false, false, false, false, false, false, false] rfl rfl (any_of HT_.out (by kernel_rfl)) (fun _ _ _ h => h) (Or.inl ⟨by rfl, ?_⟩) ?_ ?_
                      rotate_left
                      · intro w'
                        go_simp
                        with_reducible rfl
                      rotate_left
                      · simp only [Act.put, List.setIfInBounds_toArray, List.set_cons_zero, List.set_cons_succ, i64_w, i32_w]
                        rfl
                      refine take_ (i := 0) (N := some 135) (v := v) (a' := ?_) #[true, true, true, true, false, false, false, false, false, false, false, false, false, false] rfl rfl (take_ofW HT_.out HW_.out (by kernel_rfl)) (fun _ _ _ h => h) (Or.inl ⟨by rfl, ?_⟩) hHeld ?_ ?_
                      · intro w' hS
                        exact hS.run_load (t := 28) rfl rfl (List.mem_cons_self) (by kernel_rfl) Try.underlying28
                      rotate_left
                      · simp only [Act.put, List.setIfInBounds_toArray, List.set_cons_zero, List.set_cons_succ, i64_w, i32_w]
                        rfl
                      refine take_ (i := 4) (N := some 139) (v := ?_) (a' := ?_) #[true, true, true, true, true, false, false, false, false, false, false, false, false, false] rfl rfl (take_ofW HT_.out HW_.out (by kernel_rfl)) (fun _ _ _ h => h) (Or.inl ⟨by rfl, ?_⟩) hHeld ?_ ?_
                      rotate_left
                      · rintro w' hS
                        obtain ⟨L_, hF_, _, _⟩ := hS.out
                        obtain ⟨s0, s1, s2, _⟩ := hst _ _ hF_
                        go_simp
                        with_reducible rfl
                      rotate_left
                      · simp only [Act.put, List.setIfInBounds_toArray, List.set_cons_zero, List.set_cons_succ, i64_w, i32_w]
                        rfl
                      refine join_ (σ := Value × Nat) 3 #[true, true, true, true, true, true, true, true, true, true, true, false, false, false] (fun s_ => [(140, .tuple #[s_.1, .int .i64 i', .int .i64 e']), (20, .pointer (some ⟨s_.2, 0, none⟩)), (134, .tuple #[s_.1, .int .i64 i', .int .i64 e']), (141, s_.1), (142, .int .i64 i'), (143, .int .i64 e')]) (fun s_ w' => Fr w ((s_.2, zero28, 28) :: [(g15, v, 28)]) w' ∧ Tb ((s_.2, zero28, 28) :: [(g15, v, 28)]) w' s_.1 ids' rows' room last' ∧ Mv [(g15, v, 28)] wd ((s_.2, zero28, 28) :: [(g15, v, 28)]) w') ?_ ?_
                      rotate_left
                      · intro hCont
                        refine two_ (i := 5) (j := 10) (Ni := some 140) (Nj := some 20) #[true, true, true, true, true, true, false, false, false, false, false, false, false, false] #[true, true, true, true, true, false, false, false, false, false, true, false, false, false] rfl rfl rfl rfl (two_of HT_.out (by kernel_rfl)) (by decide) (by decide) (fun K hK => ?_) (fun K hK => ?_)
                        · skip
                          refine goes_ Try.func19 (by kernel_rfl) rfl #[v, .agg #[.int .i64 (rd_T50 l3 (j : Int)).f0, .int .i64 (rd_T50 l3 (j : Int)).f1, .slice Ae (rd_T50 l3 (j : Int)).f2.length ce]] (by rfl) rfl rfl (by (try simp only [List.map_toArray, List.map_cons, List.map_nil]); first | done | rfl) ?_
                          refine (done_c (k := k) FD (TD.mv (Mv.refl _ _)) (hst _ _ FD).2.2.2 hd).mono ?_
                          rintro e w9 ⟨v', rfl, T9, F9, M9⟩
                          refine ⟨_, rfl, ?_⟩
                          refine hK.out _ _ (Held.of F9 M9 (fun _ h => h)) (fun hHeld => ?_)
                          clear hK K
                          refine norm_ (a' := ?_) ?_ ?_
                          rotate_left
                          · show Act.put _ (some 140) _ = _
                            simp only [Act.put, List.setIfInBounds_toArray, List.set_cons_zero, List.set_cons_succ, i64_w, i32_w]
                            rfl
                          refine pure_ (i := 6) (N := some 134) (v := ?_) (a' := ?_) #[true, true, true, true, true, true, true, false, false, false, false, false, false, false] rfl rfl (any_of HT_.out (by kernel_rfl)) (fun _ _ _ h => h) (Or.inl ⟨by rfl, ?_⟩) ?_ ?_
                          rotate_left
                          · intro w'
                            go_simp
                            with_reducible rfl
                          rotate_left
                          · simp only [Act.put, List.setIfInBounds_toArray, List.set_cons_zero, List.set_cons_succ, i64_w, i32_w]
                            rfl
                          refine pure_ (i := 7) (N := some 141) (v := ?_) (a' := ?_) #[true, true, true, true, true, true, true, true, false, false, false, false, false, false] rfl rfl (any_of HT_.out (by kernel_rfl)) (fun _ _ _ h => h) (Or.inl ⟨by rfl, ?_⟩) ?_ ?_
                          rotate_left
                          · intro w'
                            go_simp
                            with_reducible rfl
                          rotate_left
                          · simp only [Act.put, List.setIfInBounds_toArray, List.set_cons_zero, List.set_cons_succ, i64_w, i32_w]
                            rfl
                          refine pure_ (i := 8) (N := some 142) (v := ?_) (a' := ?_) #[true, true, true, true, true, true, true, true, true, false, false, false, false, false] rfl rfl (any_of HT_.out (by kernel_rfl)) (fun _ _ _ h => h) (Or.inl ⟨by rfl, ?_⟩) ?_ ?_
                          rotate_left
                          · intro w'
                            go_simp
                            with_reducible rfl
                          rotate_left
                          · simp only [Act.put, List.setIfInBounds_toArray, List.set_cons_zero, List.set_cons_succ, i64_w, i32_w]
                            rfl
                          refine pure_ (i := 9) (N := some 143) (v := ?_) (a' := ?_) #[true, true, true, true, true, true, true, true, true, true, false, false, false, false] rfl rfl (any_of HT_.out (by kernel_rfl)) (fun _ _ _ h => h) (Or.inl ⟨by rfl, ?_⟩) ?_ ?_
                          rotate_left
                          · intro w'
                            go_simp
                            with_reducible rfl
                          rotate_left
                          · simp only [Act.put, List.setIfInBounds_toArray, List.set_cons_zero, List.set_cons_succ, i64_w, i32_w]
                            rfl
                          refine one_ (i := 10) (N := some 20) #[true, true, true, true, true, true, true, true, true, true, true, false, false, false] rfl rfl (one_of HT_.out (by kernel_rfl)) (by decide) (fun K hK => ?_)
                          refine box_step ?hg (N := 20) ?hd (cs := #[.slice none 0 0, .slice none 0 0, .int .i64 0, .int .i64 0]) (t := 28) ?hr ?_; (case hd => rfl); (case hg => rfl); (case hr => first | (go_simp; done) | (go_simp; rfl))
                          intro g8 hg w10 hbox hb
                          obtain ⟨F10, M10⟩ := F9.new (v := zero28) hg hbox zero_fits hb
                          clear hg hbox hb
                          refine hK.out _ _ (Held.of F10 (M9.trans M10) (fun _ h => List.mem_cons_of_mem _ h)) (fun hHeld => ?_)
                          clear hK K
                          refine norm_ (a' := ?_) ?_ ?_
                          rotate_left
                          · show Act.put _ (some 20) _ = _
                            simp only [Act.put, List.setIfInBounds_toArray, List.set_cons_zero, List.set_cons_succ, i64_w, i32_w]
                            rfl
                          exact norm_ (by simp only [putAll, Act.put, List.setIfInBounds_toArray, List.set_cons_zero, List.set_cons_succ]) (hCont (v', g8) _ ⟨F10, T9.mv M10, M9.trans M10⟩)
                        · skip
                          refine box_step ?hg (N := 20) ?hd (cs := #[.slice none 0 0, .slice none 0 0, .int .i64 0, .int .i64 0]) (t := 28) ?hr ?_; (case hd => rfl); (case hg => rfl); (case hr => first | (go_simp; done) | (go_simp; rfl))
                          intro g8 hg w9 hbox hb
                          obtain ⟨F9, M9⟩ := FD.new (v := zero28) hg hbox zero_fits hb
                          clear hg hbox hb
                          refine hK.out _ _ (Held.of F9 M9 (fun _ h => List.mem_cons_of_mem _ h)) (fun hHeld => ?_)
                          clear hK K
                          refine norm_ (a' := ?_) ?_ ?_
                          rotate_left
                          · show Act.put _ (some 20) _ = _
                            simp only [Act.put, List.setIfInBounds_toArray, List.set_cons_zero, List.set_cons_succ, i64_w, i32_w]
                            rfl
                          refine one_ (i := 5) (N := some 140) #[true, true, true, true, true, true, false, false, false, false, true, false, false, false] rfl rfl (one_of HT_.out (by kernel_rfl)) (by decide) (fun K hK => ?_)
                          refine goes_ Try.func19 (by kernel_rfl) rfl #[v, .agg #[.int .i64 (rd_T50 l3 (j : Int)).f0, .int .i64 (rd_T50 l3 (j : Int)).f1, .slice Ae (rd_T50 l3 (j : Int)).f2.length ce]] (by rfl) rfl rfl (by (try simp only [List.map_toArray, List.map_cons, List.map_nil]); first | done | rfl) ?_
                          refine (done_c (k := k) F9 (TD.mv M9) (hst _ _ F9).2.2.2 hd).mono ?_
                          rintro e w10 ⟨v', rfl, T10, F10, M10⟩
                          refine ⟨_, rfl, ?_⟩
                          refine hK.out _ _ (Held.of F10 (M9.trans M10) (fun _ h => List.mem_cons_of_mem _ h)) (fun hHeld => ?_)
                          clear hK K
                          refine norm_ (a' := ?_) ?_ ?_
                          rotate_left
                          · show Act.put _ (some 140) _ = _
                            simp only [Act.put, List.setIfInBounds_toArray, List.set_cons_zero, List.set_cons_succ, i64_w, i32_w]
                            rfl
                          refine pure_ (i := 6) (N := some 134) (v := ?_) (a' := ?_) #[true, true, true, true, true, true, true, false, false, false, true, false, false, false] rfl rfl (any_of HT_.out (by kernel_rfl)) (fun _ _ _ h => h) (Or.inl ⟨by rfl, ?_⟩) ?_ ?_
                          rotate_left
                          · intro w'
                            go_simp
                            with_reducible rfl
                          rotate_left
                          · simp only [Act.put, List.setIfInBounds_toArray, List.set_cons_zero, List.set_cons_succ, i64_w, i32_w]
                            rfl
                          refine pure_ (i := 7) (N := some 141) (v := ?_) (a' := ?_) #[true, true, true, true, true, true, true, true, false, false, true, false, false, false] rfl rfl (any_of HT_.out (by kernel_rfl)) (fun _ _ _ h => h) (Or.inl ⟨by rfl, ?_⟩) ?_ ?_
                          rotate_left
                          · intro w'
                            go_simp
                            with_reducible rfl
                          rotate_left
                          · simp only [Act.put, List.setIfInBounds_toArray, List.set_cons_zero, List.set_cons_succ, i64_w, i32_w]
                            rfl
                          refine pure_ (i := 8) (N := some 142) (v := ?_) (a' := ?_) #[true, true, true, true, true, true, true, true, true, false, true, false, false, false] rfl rfl (any_of HT_.out (by kernel_rfl)) (fun _ _ _ h => h) (Or.inl ⟨by rfl, ?_⟩) ?_ ?_
                          rotate_left
                          · intro w'
                            go_simp
                            with_reducible rfl
                          rotate_left
                          · simp only [Act.put, List.setIfInBounds_toArray, List.set_cons_zero, List.set_cons_succ, i64_w, i32_w]
                            rfl
                          refine pure_ (i := 9) (N := some 143) (v := ?_) (a' := ?_) #[true, true, true, true, true, true, true, true, true, true, true, false, false, false] rfl rfl (any_of HT_.out (by kernel_rfl)) (fun _ _ _ h => h) (Or.inl ⟨by rfl, ?_⟩) ?_ ?_
                          rotate_left
                          · intro w'
                            go_simp
                            with_reducible rfl
                          rotate_left
                          · simp only [Act.put, List.setIfInBounds_toArray, List.set_cons_zero, List.set_cons_succ, i64_w, i32_w]
                            rfl
                          exact norm_ (by simp only [putAll, Act.put, List.setIfInBounds_toArray, List.set_cons_zero, List.set_cons_succ]) (hCont (v', g8) _ ⟨F10, T10, M9.trans M10⟩)
                      rintro ⟨v', g8⟩ w10 ⟨F10, T10, M10⟩
                      have hHeld : Held w [(g15, v, 28)] [(g15, v, 28)] wd w10 := Held.of F10 M10 (fun _ h => List.mem_cons_of_mem _ h)
                      refine norm_ (a' := ?_) ?_ ?_
                      rotate_left
                      · simp only [putAll, Act.put, List.setIfInBounds_toArray, List.set_cons_zero, List.set_cons_succ]
                        rfl
                      refine one_ (i := 11) (N := none) #[true, true, true, true, true, true, true, true, true, true, true, true, false, false] rfl rfl (one_of HT_.out (by kernel_rfl)) (by decide) (fun K hK => ?_)
                      refine skip_ (by rfl) rfl (F10.run_store (v := v') rfl rfl rfl (T10.fits) Put.here) ?_
                      obtain ⟨F11, M11⟩ := F10.put (v := v') (Put.here : Put _ _ _ 28 _) (T10.fits)
                      generalize World.setCells _ _ _ _ = w11 at F11 M11 ⊢
                      refine hK.out _ _ (Held.of F11 (M10.trans M11) (fun _ h => List.mem_cons_of_mem _ h)) (fun hHeld => ?_)
                      clear hK K
                      have T11 := T10.mv M11
                      have M12 := M10.trans M11
                      refine pure_ (i := 12) (N := some 21) (v := ?_) (a' := ?_) #[true, true, true, true, true, true, true, true, true, true, true, true, true, false] rfl rfl (any_of HT_.out (by kernel_rfl)) (fun _ _ _ h => h) (Or.inl ⟨by rfl, ?_⟩) ?_ ?_
                      rotate_left
                      · intro w'
                        go_simp
                        with_reducible rfl
                      rotate_left
                      · simp only [Act.put, List.setIfInBounds_toArray, List.set_cons_zero, List.set_cons_succ, i64_w, i32_w]
                        rfl
                      refine pure_ (i := 13) (N := some 22) (v := ?_) (a' := ?_) #[true, true, true, true, true, true, true, true, true, true, true, true, true, true] rfl rfl (any_of HT_.out (by kernel_rfl)) (fun _ _ _ h => h) (Or.inl ⟨by rfl, ?_⟩) ?_ ?_
                      rotate_left
                      · intro w'
                        go_simp
                        with_reducible rfl
                      rotate_left
                      · simp only [Act.put, List.setIfInBounds_toArray, List.set_cons_zero, List.set_cons_succ, i64_w, i32_w]
                        rfl
                      refine done_ (done_of HT_.out (by kernel_rfl)) ?_
                      go_wp2_with (first | ((with_reducible refine gate_dst (N := 144) rfl ?_); refine fr_load (t := 28) (by assumption) rfl rfl rfl (by repeat (first | exact List.mem_cons_self | apply List.mem_cons_of_mem)) (by kernel_rfl) Try.underlying28 ?_) | ((with_reducible refine gate_store (t := 28) (p := 15) rfl ?_); refine fr_store (v := v') (by assumption) rfl rfl rfl rfl rfl T11.fits (by repeat (first | exact Put.here | apply Put.there)) ?_; intro w13 F13 M13))
                      go_roundw
                      case rel => exact ⟨⟨j + 1, v', ids', rows', room, last', n + 1, by go_num, by omega, by omega, F13.tail, T11.mv M13.tail, once_did hO' hdid, at_did HOL.out hat hdid (fun h => absurd h C1.out) (fun _ _ he => C4.out (by simp [rd, he]))⟩⟩
                      case measure => simp [intOf]; omega
                · have q2 : decide ((2 : Int) ≤ Go.bits .and .i64 (rd_T50 l3 (j : Int)).f0 3) = false := decide_eq_false c2
                  have C0 : Aside0 (Go.bits .and .i64 (rd_T50 l3 (j : Int)).f0 3 = 0) := ⟨by omega⟩
                  have C1 := Aside0.mk c1
                  clear c1 c2 hbits
                  go_wp2_with (first | ((with_reducible refine gate_dst (N := 113) rfl ?_); refine fr_load (t := 28) (by assumption) rfl rfl rfl (by repeat (first | exact List.mem_cons_self | apply List.mem_cons_of_mem)) (by kernel_rfl) Try.underlying28 ?_) | ((with_reducible refine gate_callee (f := 15) rfl ?_); refine goesL_ (some 114) rfl rfl Try.func15 (by kernel_rfl) rfl #[v] rfl (by (try simp only [List.map_toArray, List.map_cons, List.map_nil]); first | done | rfl) ?_; refine (ids_c F T hids).mono ?_; rintro e wb ⟨u8, rfl, U8, Fb, Mb⟩; obtain ⟨x0, x1, x2, _⟩ := hst _ _ Fb; obtain ⟨Au8, cu8, rfl, _, _⟩ := U8.sl; refine ⟨_, rfl, ?_⟩))
                  have Tb1 := T.mv Mb
                  refine start_ (n := 14) (S := Held w [(g15, v, 28)] [(g15, v, 28)] (World.drew _)) (ds := []) #[false, false, false, false, false, false, false, false, false, false, false, false, false, false] (by kernel_rfl) rfl rfl (Held.start Fb) (fun hHeld => ?_); refine with_tabW kL.tab20 kL.bits20 (fun HT_ HW_ => ?_)
                  have FD := Fb.drew
                  have TD := Tb1.mv (Mv.refl _ _).drew
                  generalize World.drew _ = wd at FD TD hHeld ⊢
                  refine pure_ (i := 1) (N := some 136) (v := ?_) (a' := ?_) #[false, true, false, false, false, false, false, false, false, false, false, false, false, false] rfl rfl (any_of HT_.out (by kernel_rfl)) (fun _ _ _ h => h) (Or.inl ⟨by rfl, ?_⟩) ?_ ?_
                  rotate_left
                  · intro w'
                    go_simp
                    with_reducible rfl
                  rotate_left
                  · simp only [Act.put, List.setIfInBounds_toArray, List.set_cons_zero, List.set_cons_succ, i64_w, i32_w]
                    rfl
                  refine pure_ (i := 2) (N := some 137) (v := ?_) (a' := ?_) #[false, true, true, false, false, false, false, false, false, false, false, false, false, false] rfl rfl (any_of HT_.out (by kernel_rfl)) (fun _ _ _ h => h) (Or.inl ⟨by rfl, ?_⟩) ?_ ?_
                  rotate_left
                  · intro w'
                    go_simp
                    with_reducible rfl
                  rotate_left
                  · simp only [Act.put, List.setIfInBounds_toArray, List.set_cons_zero, List.set_cons_succ, i64_w, i32_w]
                    rfl
                  refine pure_ (i := 3) (N := some 138) (v := ?_) (a' := ?_) #[false, true, true, true, false, false, false, false, false, false, false, false, false, false] rfl rfl (any_of HT_.out (by kernel_rfl)) (fun _ _ _ h => h) (Or.inl ⟨by rfl, ?_⟩) ?_ ?_
                  rotate_left
                  · intro w'
                    go_simp
                    with_reducible rfl
                  rotate_left
                  · simp only [Act.put, List.setIfInBounds_toArray, List.set_cons_zero, List.set_cons_succ, i64_w, i32_w]
                    rfl
                  refine take_ (i := 0) (N := some 135) (v := v) (a' := ?_) #[true, true, true, true, false, false, false, false, false, false, false, false, false, false] rfl rfl (take_ofW HT_.out HW_.out (by kernel_rfl)) (fun _ _ _ h => h) (Or.inl ⟨by rfl, ?_⟩) hHeld ?_ ?_
                  · intro w' hS
                    exact hS.run_load (t := 28) rfl rfl (List.mem_cons_self) (by kernel_rfl) Try.underlying28
                  rotate_left
                  · simp only [Act.put, List.setIfInBounds_toArray, List.set_cons_zero, List.set_cons_succ, i64_w, i32_w]
                    rfl
                  refine take_ (i := 4) (N := some 139) (v := ?_) (a' := ?_) #[true, true, true, true, true, false, false, false, false, false, false, false, false, false] rfl rfl (take_ofW HT_.out HW_.out (by kernel_rfl)) (fun _ _ _ h => h) (Or.inl ⟨by rfl, ?_⟩) hHeld ?_ ?_
                  rotate_left
                  · rintro w' hS
                    obtain ⟨L_, hF_, _, _⟩ := hS.out
                    obtain ⟨s0, s1, s2, _⟩ := hst _ _ hF_
                    go_simp
                    with_reducible rfl
                  rotate_left
                  · simp only [Act.put, List.setIfInBounds_toArray, List.set_cons_zero, List.set_cons_succ, i64_w, i32_w]
                    rfl
                  refine join_ (σ := Value × Nat) 3 #[true, true, true, true, true, true, true, true, true, true, true, false, false, false] (fun s_ => [(140, .tuple #[s_.1, .int .i64 i', .int .i64 e']), (20, .pointer (some ⟨s_.2, 0, none⟩)), (134, .tuple #[s_.1, .int .i64 i', .int .i64 e']), (141, s_.1), (142, .int .i64 i'), (143, .int .i64 e')]) (fun s_ w' => Fr w ((s_.2, zero28, 28) :: [(g15, v, 28)]) w' ∧ Tb ((s_.2, zero28, 28) :: [(g15, v, 28)]) w' s_.1 ids' rows' room last' ∧ Mv [(g15, v, 28)] wd ((s_.2, zero28, 28) :: [(g15, v, 28)]) w') ?_ ?_
                  rotate_left
                  · intro hCont
                    refine two_ (i := 5) (j := 10) (Ni := some 140) (Nj := some 20) #[true, true, true, true, true, true, false, false, false, false, false, false, false, false] #[true, true, true, true, true, false, false, false, false, false, true, false, false, false] rfl rfl rfl rfl (two_of HT_.out (by kernel_rfl)) (by decide) (by decide) (fun K hK => ?_) (fun K hK => ?_)
                    · skip
                      refine goes_ Try.func19 (by kernel_rfl) rfl #[v, .agg #[.int .i64 (rd_T50 l3 (j : Int)).f0, .int .i64 (rd_T50 l3 (j : Int)).f1, .slice Ae (rd_T50 l3 (j : Int)).f2.length ce]] (by rfl) rfl rfl (by (try simp only [List.map_toArray, List.map_cons, List.map_nil]); first | done | rfl) ?_
                      refine (done_c (k := k) FD (TD.mv (Mv.refl _ _)) (hst _ _ FD).2.2.2 hd).mono ?_
                      rintro e w9 ⟨v', rfl, T9, F9, M9⟩
                      refine ⟨_, rfl, ?_⟩
                      refine hK.out _ _ (Held.of F9 M9 (fun _ h => h)) (fun hHeld => ?_)
                      clear hK K
                      refine norm_ (a' := ?_) ?_ ?_
                      rotate_left
                      · show Act.put _ (some 140) _ = _
                        simp only [Act.put, List.setIfInBounds_toArray, List.set_cons_zero, List.set_cons_succ, i64_w, i32_w]
                        rfl
                      refine pure_ (i := 6) (N := some 134) (v := ?_) (a' := ?_) #[true, true, true, true, true, true, true, false, false, false, false, false, false, false] rfl rfl (any_of HT_.out (by kernel_rfl)) (fun _ _ _ h => h) (Or.inl ⟨by rfl, ?_⟩) ?_ ?_
                      rotate_left
                      · intro w'
                        go_simp
                        with_reducible rfl
                      rotate_left
                      · simp only [Act.put, List.setIfInBounds_toArray, List.set_cons_zero, List.set_cons_succ, i64_w, i32_w]
                        rfl
                      refine pure_ (i := 7) (N := some 141) (v := ?_) (a' := ?_) #[true, true, true, true, true, true, true, true, false, false, false, false, false, false] rfl rfl (any_of HT_.out (by kernel_rfl)) (fun _ _ _ h => h) (Or.inl ⟨by rfl, ?_⟩) ?_ ?_
                      rotate_left
                      · intro w'
                        go_simp
                        with_reducible rfl
                      rotate_left
                      · simp only [Act.put, List.setIfInBounds_toArray, List.set_cons_zero, List.set_cons_succ, i64_w, i32_w]
                        rfl
                      refine pure_ (i := 8) (N := some 142) (v := ?_) (a' := ?_) #[true, true, true, true, true, true, true, true, true, false, false, false, false, false] rfl rfl (any_of HT_.out (by kernel_rfl)) (fun _ _ _ h => h) (Or.inl ⟨by rfl, ?_⟩) ?_ ?_
                      rotate_left
                      · intro w'
                        go_simp
                        with_reducible rfl
                      rotate_left
                      · simp only [Act.put, List.setIfInBounds_toArray, List.set_cons_zero, List.set_cons_succ, i64_w, i32_w]
                        rfl
                      refine pure_ (i := 9) (N := some 143) (v := ?_) (a' := ?_) #[true, true, true, true, true, true, true, true, true, true, false, false, false, false] rfl rfl (any_of HT_.out (by kernel_rfl)) (fun _ _ _ h => h) (Or.inl ⟨by rfl, ?_⟩) ?_ ?_
                      rotate_left
                      · intro w'
                        go_simp
                        with_reducible rfl
                      rotate_left
                      · simp only [Act.put, List.setIfInBounds_toArray, List.set_cons_zero, List.set_cons_succ, i64_w, i32_w]
                        rfl
                      refine one_ (i := 10) (N := some 20) #[true, true, true, true, true, true, true, true, true, true, true, false, false, false] rfl rfl (one_of HT_.out (by kernel_rfl)) (by decide) (fun K hK => ?_)
                      refine box_step ?hg (N := 20) ?hd (cs := #[.slice none 0 0, .slice none 0 0, .int .i64 0, .int .i64 0]) (t := 28) ?hr ?_; (case hd => rfl); (case hg => rfl); (case hr => first | (go_simp; done) | (go_simp; rfl))
                      intro g8 hg w10 hbox hb
                      obtain ⟨F10, M10⟩ := F9.new (v := zero28) hg hbox zero_fits hb
                      clear hg hbox hb
                      refine hK.out _ _ (Held.of F10 (M9.trans M10) (fun _ h => List.mem_cons_of_mem _ h)) (fun hHeld => ?_)
                      clear hK K
                      refine norm_ (a' := ?_) ?_ ?_
                      rotate_left
                      · show Act.put _ (some 20) _ = _
                        simp only [Act.put, List.setIfInBounds_toArray, List.set_cons_zero, List.set_cons_succ, i64_w, i32_w]
                        rfl
                      exact norm_ (by simp only [putAll, Act.put, List.setIfInBounds_toArray, List.set_cons_zero, List.set_cons_succ]) (hCont (v', g8) _ ⟨F10, T9.mv M10, M9.trans M10⟩)
                    · skip
                      refine box_step ?hg (N := 20) ?hd (cs := #[.slice none 0 0, .slice none 0 0, .int .i64 0, .int .i64 0]) (t := 28) ?hr ?_; (case hd => rfl); (case hg => rfl); (case hr => first | (go_simp; done) | (go_simp; rfl))
                      intro g8 hg w9 hbox hb
                      obtain ⟨F9, M9⟩ := FD.new (v := zero28) hg hbox zero_fits hb
                      clear hg hbox hb
                      refine hK.out _ _ (Held.of F9 M9 (fun _ h => List.mem_cons_of_mem _ h)) (fun hHeld => ?_)
                      clear hK K
                      refine norm_ (a' := ?_) ?_ ?_
                      rotate_left
                      · show Act.put _ (some 20) _ = _
                        simp only [Act.put, List.setIfInBounds_toArray, List.set_cons_zero, List.set_cons_succ, i64_w, i32_w]
                        rfl
                      refine one_ (i := 5) (N := some 140) #[true, true, true, true, true, true, false, false, false, false, true, false, false, false] rfl rfl (one_of HT_.out (by kernel_rfl)) (by decide) (fun K hK => ?_)
                      refine goes_ Try.func19 (by kernel_rfl) rfl #[v, .agg #[.int .i64 (rd_T50 l3 (j : Int)).f0, .int .i64 (rd_T50 l3 (j : Int)).f1, .slice Ae (rd_T50 l3 (j : Int)).f2.length ce]] (by rfl) rfl rfl (by (try simp only [List.map_toArray, List.map_cons, List.map_nil]); first | done | rfl) ?_
                      refine (done_c (k := k) F9 (TD.mv M9) (hst _ _ F9).2.2.2 hd).mono ?_
                      rintro e w10 ⟨v', rfl, T10, F10, M10⟩
                      refine ⟨_, rfl, ?_⟩
                      refine hK.out _ _ (Held.of F10 (M9.trans M10) (fun _ h => List.mem_cons_of_mem _ h)) (fun hHeld => ?_)
                      clear hK K
                      refine norm_ (a' := ?_) ?_ ?_
                      rotate_left
                      · show Act.put _ (some 140) _ = _
                        simp only [Act.put, List.setIfInBounds_toArray, List.set_cons_zero, List.set_cons_succ, i64_w, i32_w]
                        rfl
                      refine pure_ (i := 6) (N := some 134) (v := ?_) (a' := ?_) #[true, true, true, true, true, true, true, false, false, false, true, false, false, false] rfl rfl (any_of HT_.out (by kernel_rfl)) (fun _ _ _ h => h) (Or.inl ⟨by rfl, ?_⟩) ?_ ?_
                      rotate_left
                      · intro w'
                        go_simp
                        with_reducible rfl
                      rotate_left
                      · simp only [Act.put, List.setIfInBounds_toArray, List.set_cons_zero, List.set_cons_succ, i64_w, i32_w]
                        rfl
                      refine pure_ (i := 7) (N := some 141) (v := ?_) (a' := ?_) #[true, true, true, true, true, true, true, true, false, false, true, false, false, false] rfl rfl (any_of HT_.out (by kernel_rfl)) (fun _ _ _ h => h) (Or.inl ⟨by rfl, ?_⟩) ?_ ?_
                      rotate_left
                      · intro w'
                        go_simp
                        with_reducible rfl
                      rotate_left
                      · simp only [Act.put, List.setIfInBounds_toArray, List.set_cons_zero, List.set_cons_succ, i64_w, i32_w]
                        rfl
                      refine pure_ (i := 8) (N := some 142) (v := ?_) (a' := ?_) #[true, true, true, true, true, true, true, true, true, false, true, false, false, false] rfl rfl (any_of HT_.out (by kernel_rfl)) (fun _ _ _ h => h) (Or.inl ⟨by rfl, ?_⟩) ?_ ?_
                      rotate_left
                      · intro w'
                        go_simp
                        with_reducible rfl
                      rotate_left
                      · simp only [Act.put, List.setIfInBounds_toArray, List.set_cons_zero, List.set_cons_succ, i64_w, i32_w]
                        rfl
                      refine pure_ (i := 9) (N := some 143) (v := ?_) (a' := ?_) #[true, true, true, true, true, true, true, true, true, true, true, false, false, false] rfl rfl (any_of HT_.out (by kernel_rfl)) (fun _ _ _ h => h) (Or.inl ⟨by rfl, ?_⟩) ?_ ?_
                      rotate_left
                      · intro w'
                        go_simp
                        with_reducible rfl
                      rotate_left
                      · simp only [Act.put, List.setIfInBounds_toArray, List.set_cons_zero, List.set_cons_succ, i64_w, i32_w]
                        rfl
                      exact norm_ (by simp only [putAll, Act.put, List.setIfInBounds_toArray, List.set_cons_zero, List.set_cons_succ]) (hCont (v', g8) _ ⟨F10, T10, M9.trans M10⟩)
                  rintro ⟨v', g8⟩ w10 ⟨F10, T10, M10⟩
                  have hHeld : Held w [(g15, v, 28)] [(g15, v, 28)] wd w10 := Held.of F10 M10 (fun _ h => List.mem_cons_of_mem _ h)
                  refine norm_ (a' := ?_) ?_ ?_
                  rotate_left
                  · simp only [putAll, Act.put, List.setIfInBounds_toArray, List.set_cons_zero, List.set_cons_succ]
                    rfl
                  refine one_ (i := 11) (N := none) #[true, true, true, true, true, true, true, true, true, true, true, true, false, false] rfl rfl (one_of HT_.out (by kernel_rfl)) (by decide) (fun K hK => ?_)
                  refine skip_ (by rfl) rfl (F10.run_store (v := v') rfl rfl rfl (T10.fits) Put.here) ?_
                  obtain ⟨F11, M11⟩ := F10.put (v := v') (Put.here : Put _ _ _ 28 _) (T10.fits)
                  generalize World.setCells _ _ _ _ = w11 at F11 M11 ⊢
                  refine hK.out _ _ (Held.of F11 (M10.trans M11) (fun _ h => List.mem_cons_of_mem _ h)) (fun hHeld => ?_)
                  clear hK K
                  have T11 := T10.mv M11
                  have M12 := M10.trans M11
                  refine pure_ (i := 12) (N := some 21) (v := ?_) (a' := ?_) #[true, true, true, true, true, true, true, true, true, true, true, true, true, false] rfl rfl (any_of HT_.out (by kernel_rfl)) (fun _ _ _ h => h) (Or.inl ⟨by rfl, ?_⟩) ?_ ?_
                  rotate_left
                  · intro w'
                    go_simp
                    with_reducible rfl
                  rotate_left
                  · simp only [Act.put, List.setIfInBounds_toArray, List.set_cons_zero, List.set_cons_succ, i64_w, i32_w]
                    rfl
                  refine pure_ (i := 13) (N := some 22) (v := ?_) (a' := ?_) #[true, true, true, true, true, true, true, true, true, true, true, true, true, true] rfl rfl (any_of HT_.out (by kernel_rfl)) (fun _ _ _ h => h) (Or.inl ⟨by rfl, ?_⟩) ?_ ?_
                  rotate_left
                  · intro w'
                    go_simp
                    with_reducible rfl
                  rotate_left
                  · simp only [Act.put, List.setIfInBounds_toArray, List.set_cons_zero, List.set_cons_succ, i64_w, i32_w]
                    rfl
                  refine done_ (done_of HT_.out (by kernel_rfl)) ?_
                  go_wp2_with (first | ((with_reducible refine gate_dst (N := 144) rfl ?_); refine fr_load (t := 28) (by assumption) rfl rfl rfl (by repeat (first | exact List.mem_cons_self | apply List.mem_cons_of_mem)) (by kernel_rfl) Try.underlying28 ?_) | ((with_reducible refine gate_store (t := 28) (p := 15) rfl ?_); refine fr_store (v := v') (by assumption) rfl rfl rfl rfl rfl T11.fits (by repeat (first | exact Put.here | apply Put.there)) ?_; intro w13 F13 M13))
                  go_roundw
                  case rel => exact ⟨⟨j + 1, v', ids', rows', room, last', n + 1, by go_num, by omega, by omega, F13.tail, T11.mv M13.tail, once_did hO' hdid, at_did HOL.out hat hdid (fun h => absurd h C1.out) (fun h => absurd C0.out h)⟩⟩
                  case measure => simp [intOf]; omega
            · have hi2 : ¬ ((j : Int) < (l3.length : Int)) := by omega
              have hi3 := decide_eq_false hi2
              obtain ⟨p, hp1, hp2⟩ := hat
              obtain ⟨kg, hget⟩ := get_ev ids rows room last id p hOl (by omega) hp1 (fun q hq => asc_uniq hasc hp1 hq)
              replace hget := hget kg (Nat.le_refl _)
              have hrd : rd_L7 rows (p : Int) = t := by simp [rd_L7, hp2]
              rw [hrd] at hget
              obtain ⟨ks, hsame⟩ := same_ev t hrow
              replace hsame := hsame ks (Nat.le_refl _)
              have hge := eq_true (show (1 : Int) ≤ id from hid1)
              clear hOl
              go_wp2_with (first | ((with_reducible refine gate_dst (N := 146) rfl ?_); refine fr_load (t := 28) (by assumption) rfl rfl rfl (by repeat (first | exact List.mem_cons_self | apply List.mem_cons_of_mem)) (by kernel_rfl) Try.underlying28 ?_) | ((with_reducible refine gate_callee (f := 13) rfl ?_); refine goesL_ (some 148) rfl rfl Try.func13 (by kernel_rfl) rfl #[v, .int .i64 id] rfl (by (try simp only [List.map_toArray, List.map_cons, List.map_nil]); first | done | rfl) ?_; refine (get_c F T hget).mono ?_; rintro e wc ⟨x0, rfl, X0, Fc, Mc⟩; refine ⟨_, rfl, ?_⟩) | ((with_reducible refine gate_callee (f := 14) rfl ?_); (try (refine gate_guard (by rfl) ?_; dsimp only)); refine goesL_ (some 159) rfl rfl Try.func14 (by kernel_rfl) rfl #[x0, .slice A2 t.length c2] rfl (by (try simp only [List.map_toArray, List.map_cons, List.map_nil]); first | done | rfl) ?_; refine (same_c Fc X0 (V2.mv Fc.mv) hsame).mono ?_; rintro e wd ⟨rfl, Fd, Md⟩; refine ⟨_, rfl, ?_⟩))
              go_ret
              exact ⟨rfl, Fd.bel⟩
        · have hk := keep_none ids rows room last t cr
          have hfits := hO.fits
          have hroom := hO.roomIs
          obtain ⟨m1, hm1⟩ : ∃ m, mx a0 0 = m := ⟨_, rfl⟩
          have hm1' : (if a0 < 0 then 0 else a0) = m1 := hm1
          rw [hm1] at hroom
          obtain ⟨m2, hm2⟩ : ∃ m, mn m1 64 = m := ⟨_, rfl⟩
          have hm2' : (if 64 < m1 then 64 else m1) = m2 := hm2
          rw [hm2] at hroom
          have q1 : ((ids.length : Int) == m2) = true := beq_iff_eq.2 (by omega)
          clear hfits hroom cr hm1 hm2
          go_wp2_with (first | ((with_reducible refine gate_dst (N := 60) rfl ?_); refine fr_load (t := 28) (by assumption) rfl rfl rfl (by repeat (first | exact List.mem_cons_self | apply List.mem_cons_of_mem)) (by kernel_rfl) Try.underlying28 ?_) | ((with_reducible refine gate_callee (f := 12) rfl ?_); refine goesL_ (some 62) rfl rfl Try.func12 (by kernel_rfl) rfl #[v, .slice A2 t.length c2] rfl (by (try simp only [List.map_toArray, List.map_cons, List.map_nil]); first | done | rfl) ?_; refine (keep_c F T (V2.mv F.mv) hk).mono ?_; rintro e w8 ⟨v8, rfl, T8, F8, M8⟩; refine ⟨_, rfl, ?_⟩) | ((with_reducible refine gate_dst (N := 15) rfl ?_); refine fr_new (N := 15) (by assumption) rfl rfl (zero28) 28 zero_fits ?hr ?_; (case hr => first | (go_simp; done) | (go_simp; rfl)); intro g15 w9 F9 M9) | ((with_reducible refine gate_store (t := 28) (p := 15) rfl ?_); refine fr_store (v := v8) (by assumption) rfl rfl rfl rfl rfl T8.fits (by repeat (first | exact Put.here | apply Put.there)) ?_; intro w10 F10 M10) | ((with_reducible refine gate_dst (N := 70) rfl ?_); (try (refine gate_guard (by rfl) ?_; dsimp only)); refine fr_load (t := 28) (by assumption) rfl rfl rfl (by repeat (first | exact List.mem_cons_self | apply List.mem_cons_of_mem)) (by kernel_rfl) Try.underlying28 ?_) | ((with_reducible refine gate_callee (f := 15) rfl ?_); (try (refine gate_guard (by rfl) ?_; dsimp only)); refine goesL_ (some 71) rfl rfl Try.func15 (by kernel_rfl) rfl #[v] rfl (by (try simp only [List.map_toArray, List.map_cons, List.map_nil]); first | done | rfl) ?_; refine (ids_c F10 (T.mv ((M8.trans M9).trans M10)) hids).mono ?_; rintro e we ⟨y0, rfl, Y0, Fe, Me⟩; obtain ⟨Ay, cy, rfl, _, _⟩ := Y0.sl; refine ⟨_, rfl, ?_⟩))
          go_ret
          exact ⟨rfl, Fe.bel⟩
end Go.Proofs.Ytkabbahfaeeihaa.Q

