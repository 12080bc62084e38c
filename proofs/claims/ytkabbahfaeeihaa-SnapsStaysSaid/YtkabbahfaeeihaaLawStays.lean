/- SnapsStays, walked by hand. -/
import Derived.Test.YtkabbahfaeeihaaHs
namespace Go.Proofs.Ytkabbahfaeeihaa.Q
open Go.RowKit Go.Proofs.YtkabbahfaeeihaaW.PrintWords Go.Proofs.YtkabbahfaeeihaaW.PrintLast Go.Proofs.YtkabbahfaeeihaaW.PrintMore
attribute [local go_sem] max2_int min2_int max_two min_two max_three min_three max_four min_four
set_option linter.unusedVariables false
set_option linter.unusedSimpArgs false
def sL.T11 : Bool × List (List Nat × List Nat) := (true, [([], []), ([], []), ([0, 1], [0, 1]), ([2], [2]), ([], []), ([], []), ([4, 5], [4, 5]), ([6], [6]), ([3, 7], [3, 7]), ([8], [8]), ([9], [9]), ([9], [9]), ([9], [9]), ([], []), ([13, 10, 8, 0, 1, 2, 3, 4, 5, 6, 7, 8, 9, 10, 13], [10, 13]), ([11, 14, 0, 1, 2, 3, 4, 5, 6, 7, 8, 9, 10, 11, 13, 14], [11]), ([12, 15, 0, 1, 2, 3, 4, 5, 6, 7, 8, 9, 10, 11, 12, 13, 14, 15], [12])])
def sL.B11 : List Nat := [0, 0, 3, 7, 0, 0, 48, 112, 255, 511, 1023, 1023, 1023, 0, 10239, 28671, 65535]
theorem sL.tab11 : rtab .any (opsOf Try.f7 11) = sL.T11 := by kernel_rfl
theorem sL.bits11 : waitsOk sL.T11.2 sL.B11 = true := by kernel_rfl
def sL.T18 : Bool × List (List Nat × List Nat) := (true, [([], []), ([], []), ([], []), ([1, 2], [1, 2]), ([3], [3]), ([0, 4], [0, 4]), ([5], [5]), ([6], [6]), ([6], [6]), ([7, 5, 0, 1, 2, 3, 4, 5, 6, 7], [7]), ([8, 9, 0, 1, 2, 3, 4, 5, 6, 7, 8, 9], [8])])
def sL.B18 : List Nat := [0, 0, 0, 6, 14, 31, 63, 127, 127, 255, 1023]
theorem sL.tab18 : rtab .any (opsOf Try.f7 18) = sL.T18 := by kernel_rfl
theorem sL.bits18 : waitsOk sL.T18.2 sL.B18 = true := by kernel_rfl
def sL.T25 : Bool × List (List Nat × List Nat) := (true, [([], []), ([], []), ([0, 1], [0, 1]), ([2], [2]), ([3], [3]), ([], []), ([], []), ([5, 6], [5, 6]), ([7], [7]), ([4, 8, 4], [4, 8]), ([9], [9])])
def sL.B25 : List Nat := [0, 0, 3, 7, 15, 0, 0, 96, 224, 511, 1023]
theorem sL.tab25 : rtab .any (opsOf Try.f7 25) = sL.T25 := by kernel_rfl
theorem sL.bits25 : waitsOk sL.T25.2 sL.B25 = true := by kernel_rfl
def sL.T30 : Bool × List (List Nat × List Nat) := (true, [([], []), ([], []), ([0, 1], [0, 1]), ([2], [2]), ([], []), ([], []), ([4, 5], [4, 5]), ([6], [6]), ([], []), ([7, 8], [7, 8]), ([9], [9]), ([3, 10], [3, 10]), ([11], [11]), ([12], [12]), ([12], [12]), ([13, 11, 0, 1, 2, 3, 4, 5, 6, 7, 8, 9, 10, 11, 12, 13], [13]), ([14, 15, 0, 1, 2, 3, 4, 5, 6, 7, 8, 9, 10, 11, 12, 13, 14, 15], [14])])
def sL.B30 : List Nat := [0, 0, 3, 7, 0, 0, 48, 112, 0, 496, 1008, 2047, 4095, 8191, 8191, 16383, 65535]
theorem sL.tab30 : rtab .any (opsOf Try.f7 30) = sL.T30 := by kernel_rfl
theorem sL.bits30 : waitsOk sL.T30.2 sL.B30 = true := by kernel_rfl

theorem same_c2 {w W : World} {L : List Box} {v : Value} {l l' : List S72} {k : Nat} {b : Bool} {A' : Option Addr} {c' : Nat} (hF : Fr w L W) (hl : Vw k72 L W v l) (hC' : Kd.C k72 W A' l'.length l') (hle' : l'.length ≤ c') (h : cordwoodref10_Same.f k l l' = some b) :
    Calls Try.prog 14 #[v, .slice A' l'.length c'] W fun e W' => e = .returned (.bool b) ∧ Fr w L W' ∧ Mv L W L W' := by
  obtain ⟨A, c, rfl, hle, hC⟩ := hl.sl
  refine (cordwoodref10_Same.calls k A c l A' c' l' b W hC hle hC' hle' h).mono ?_
  rintro e W' ⟨he, hb⟩
  exact ⟨he, hF.below hb⟩
set_option maxHeartbeats 8000000 in
set_option maxRecDepth 100000 in
theorem stays_law (a0 : Int) (A1 : Option Addr) (c1 : Nat) (l : List S50) (w : World) (HR : Kd.C k50 w A1 l.length l) (HC : l.length ≤ c1) :
    Calls Try.prog 7 #[.int .i64 a0, .slice A1 l.length c1] w fun e w' => e = .returned (.bool true) ∧ Below w.heap.size w w' := by
  have hu28 := Try.underlying28
  have hu50 := Try.underlying50
  have hsize := HR.2.1
  obtain ⟨ka, hA⟩ := awake_ev
  replace hA := hA ka (Nat.le_refl _)
  obtain ⟨b, ⟨ks, hS⟩, hb⟩ := small_ev l (steps_ok HR) l.length 0 (by omega)
  replace hS : cordwoodlaw21_small.f ks l = some b := hS ks (Nat.le_refl _)
  by_cases hlen : b = true ∧ l.length ≤ 30
  · obtain ⟨rfl, hl30⟩ := hlen
    have hl := hb rfl
    have hfew := small_len l hsize _ 0 hS
    have q30 : ¬ ((30 : Int) < (l.length : Int)) := by omega
    have q31 := decide_eq_false q30
    go_enter Try.func7, Try.ntmps7
    go_wp2_with (first | ((with_reducible refine gate_callee (f := 9) rfl ?_); refine goesL_ (some 22) rfl rfl Try.func9 (by kernel_rfl) rfl #[] rfl (by (try simp only [List.map_toArray, List.map_cons, List.map_nil]); first | done | rfl) ?_; refine (awake_c (Fr.start w) hA).mono ?_; rintro e w1 ⟨rfl, F1, M1⟩; refine ⟨_, rfl, ?_⟩) | ((with_reducible refine gate_callee (f := 17) rfl ?_); refine goesL_ (some 24) rfl rfl Try.func17 (by kernel_rfl) rfl #[.slice A1 l.length c1] rfl (by (try simp only [List.map_toArray, List.map_cons, List.map_nil]); first | done | rfl) ?_; refine (small_c F1 HR HC hS).mono ?_; rintro e w2 ⟨rfl, F2, M2⟩; refine ⟨_, rfl, ?_⟩) | ((with_reducible refine gate_callee (f := 10) rfl ?_); refine goesL_ (some 33) rfl rfl Try.func10 (by kernel_rfl) rfl #[.int .i64 a0] rfl (by (try simp only [List.map_toArray, List.map_cons, List.map_nil]); first | done | rfl) ?_; refine (new_c a0 F2).mono ?_; rintro e w3 ⟨v3, rfl, T3, F3, M3⟩; obtain ⟨A3, c3, B3, d3, rfl, _, _⟩ := T3.out; refine ⟨_, rfl, ?_⟩) | ((with_reducible refine gate_dst (N := 34) rfl ?_); refine ar_lit (N := 34) (by assumption) rfl rfl 28 1 (by decide) [.slice A3 ([] : List Int).length c3, .slice B3 ([] : List (List S72)).length d3, .int .i64 (mx 0 (mn a0 64)), .int .i64 0] ?hr ?_; (case hr => first | (go_simp; done) | (go_simp; rfl)); intro g6 w4 F4 M4) | ((with_reducible refine gate_dst (N := 35) rfl ?_); refine ar_lit (N := 35) (by assumption) rfl rfl 24 1 (by decide) [.slice none 0 0] ?hr ?_; (case hr => first | (go_simp; done) | (go_simp; rfl)); intro g7 w5 F5 M5) | ((with_reducible refine gate_dst (N := 37) rfl ?_); refine ar_lit (N := 37) (by assumption) rfl rfl 22 1 (by decide) [.slice none 0 0] ?hr ?_; (case hr => first | (go_simp; done) | (go_simp; rfl)); intro g8_ w6 F6 M6) | ((with_reducible refine gate_builtin (b := .append) (xs := #[.tmp 36, .tmp 37]) rfl ?_); at_builtin; refine ar_push (e := 22) (sz := 1) (t := 62) (bytes := 24) (z := (.slice none 0 0)) F6 (by decide) rfl (.tmp 36) (.tmp 37) rfl Try.underlying62 (by kernel_rfl) rfl (by decide) (by decide) rfl rfl (Ar.nil _ _ _ _ _) rfl (by intro u hu; rw [List.mem_singleton] at hu; subst hu; rfl) (by simp) ?_; intro v8 L7 w7 F7 M7 A7 hk7))
    go_loopw [6, 7, 8, 9] (fun v6 v7 v8 i W => AtS w a0 l v6 v7 v8 i W) (fun _ _ _ i _ => l.length - (intOf i).toNat)
    case atStart =>
      have MM := M4.trans (M5.trans (M6.tail.trans M7))
      have h6 : ∀ b ∈ [(g6, Value.agg #[.slice A3 ([] : List Int).length c3, .slice B3 ([] : List (List S72)).length d3, .int .i64 (mx 0 (mn a0 64)), .int .i64 0], 1000 + 28)], b.2.2 = 1000 + 28 → b ∈ L7 := fun b hb e => hk7 b (List.mem_cons_of_mem _ hb) (by rw [e]; decide)
      have h7 : ∀ b ∈ [(g7, Value.agg #[.slice none 0 0], 1000 + 24), (g6, Value.agg #[.slice A3 ([] : List Int).length c3, .slice B3 ([] : List (List S72)).length d3, .int .i64 (mx 0 (mn a0 64)), .int .i64 0], 1000 + 28)], b.2.2 = 1000 + 24 → b ∈ L7 := fun b hb e => hk7 b hb (by rw [e]; decide)
      have B6 := (ar_of F4 (by decide) rfl (by intro u hu; simp only [List.mem_cons, List.not_mem_nil, or_false] at hu; rcases hu with rfl | rfl | rfl | rfl <;> rfl)).mv F4 F7 h6
      have B7 := (ar_of F5 (by decide) rfl (by intro u hu; rw [List.mem_singleton] at hu; subst hu; rfl)).mv F5 F7 h7
      have T7 := T3.mv MM
      exact ⟨⟨_, _, _, L7, 0, [⟨.agg #[.slice A3 ([] : List Int).length c3, .slice B3 ([] : List (List S72)).length d3, .int .i64 (mx 0 (mn a0 64)), .int .i64 0], .slice none 0 0, .slice none 0 0, [], [], mx 0 (mn a0 64), 0⟩], rfl, rfl, rfl, rfl, Nat.zero_le _, rfl, ⟨F7, B6, B7, A7, fun x hx => (by rw [List.mem_singleton] at hx; subst hx; exact T7), fun x hx => (by rw [List.mem_singleton] at hx; subst hx; exact ⟨T7, Vw.nil _ _ _, Vw.nil _ _ _, rfl, by simp, List.Pairwise.nil, fun t ht => by cases ht⟩)⟩, ⟨_, rfl, [], once_start a0⟩⟩⟩
    case round =>
      obtain ⟨⟨v6, v7, v8, L, j, S, rfl, rfl, rfl, rfl, hj, hSl, H3, ⟨yv, yi, yr, ids, rows, room, last⟩, hy, gv, hO⟩⟩ := hrel
      clear hA hS hb q30 q31 F1 F2 F3 F4 F5 F6 F7 M1 M2 M3 M4 M5 M6 M7 A7 hk7 T3
      simp only at hO
      have F := H3.fr
      have hyG := H3.good _ (List.mem_of_getElem? hy)
      have hsh := hO.short
      have hlow := hO.low
      have hhigh := hO.high
      obtain ⟨n, hn⟩ : ∃ n, S.length = n := ⟨_, rfl⟩
      by_cases hlt : j < l.length
      · obtain ⟨ids', rows', last', i', e', ⟨k, hd⟩, hdid⟩ := done_ev ids rows room last (rd_T50 l (j : Int)).f0 (rd_T50 l (j : Int)).f1 (rd_T50 l (j : Int)).f2 hO.len (by omega) hO.low (by omega)
        replace hd := hd k (Nat.le_refl _)
        obtain ⟨gv', hO'⟩ := once_did ⟨gv, hO⟩ hdid
        have hOl' := hO'.len
        have hsh' := hO'.short
        have hasc' := hO'.asc
        have hrows' := rows_all hyG.ok ⟨step_row HR hlt, hfew j (Nat.zero_le _) hlt⟩ hdid
        have hids' : snaps_IDs.f ids' rows' room last' = some ids' := ids_some _ _ _ _ (by omega)
        have hi0 : (0 : Int) ≤ (j : Int) := by omega
        have hi2 : (j : Int) < (l.length : Int) := by omega
        have hi6 : (j : Int) < (n : Int) := by omega
        have hj6 : j < n := by omega
        obtain ⟨ad, Ae, ce, rfl, hst⟩ := step_at HR (j : Int) hi0 hi2
        simp only [Int.toNat_natCast] at hst
        have TJ : Tb L wr yv ids rows room last := hyG.tb
        obtain ⟨A0, c0, B0, d0, rfl, _, _⟩ := TJ.out
        obtain ⟨A6, c6, e6, _, _⟩ := H3.a6.sl
        rw [List.length_map, hn] at e6
        subst e6
        obtain ⟨ad6, rfl, hat6⟩ := H3.a6.four_at F j (by rw [List.length_map]; omega) (show _ = [Value.slice A0 ids.length c0, .slice B0 rows.length d0, .int .i64 room, .int .i64 last] by rw [List.getD_eq_getElem?_getD, List.getElem?_map, hy]; rfl)
        have HH := Aside0.mk (And.intro hOl' (And.intro hsh' (And.intro hsh (And.intro hlow hhigh))))
        clear hOl' hsh hlow hhigh
        go_wp2
        refine start_ (n := 17) (S := Held w L L (World.drew _)) (ds := []) #[false, false, false, false, false, false, false, false, false, false, false, false, false, false, false, false, false] (by kernel_rfl) rfl rfl (Held.start F) (fun hHeld => ?_); refine with_tabW sL.tab11 sL.bits11 (fun HT_ HW_ => ?_)
        have FD := F.drew
        have TD := TJ.mv (Mv.refl _ _).drew
        have MD := (Mv.refl L wr).drew
        generalize World.drew _ = wd at FD TD MD hHeld ⊢
        refine pure_ (i := 0) (N := some 46) (v := ?_) (a' := ?_) #[true, false, false, false, false, false, false, false, false, false, false, false, false, false, false, false, false] rfl rfl (any_of HT_.out (by kernel_rfl)) (fun _ _ _ h => h) (Or.inl ⟨by rfl, ?_⟩) ?_ ?_
        rotate_left
        · intro w'
          go_simp
          with_reducible rfl
        rotate_left
        · simp only [Act.put, List.setIfInBounds_toArray, List.set_cons_zero, List.set_cons_succ, i64_w, i32_w]
          rfl
        refine pure_ (i := 1) (N := some 47) (v := ?_) (a' := ?_) #[true, true, false, false, false, false, false, false, false, false, false, false, false, false, false, false, false] rfl rfl (any_of HT_.out (by kernel_rfl)) (fun _ _ _ h => h) (Or.inl ⟨by rfl, ?_⟩) ?_ ?_
        rotate_left
        · intro w'
          go_simp
          with_reducible rfl
        rotate_left
        · simp only [Act.put, List.setIfInBounds_toArray, List.set_cons_zero, List.set_cons_succ, i64_w, i32_w]
          rfl
        refine pure_ (i := 2) (N := some 48) (v := ?_) (a' := ?_) #[true, true, true, false, false, false, false, false, false, false, false, false, false, false, false, false, false] rfl rfl (any_of HT_.out (by kernel_rfl)) (fun _ _ _ h => h) (Or.inl ⟨by rfl, ?_⟩) ?_ ?_
        rotate_left
        · intro w'
          go_simp
          with_reducible rfl
        rotate_left
        · simp only [Act.put, List.setIfInBounds_toArray, List.set_cons_zero, List.set_cons_succ, i64_w, i32_w]
          rfl
        refine take_ (i := 3) (N := some 49) (v := ?_) (a' := ?_) #[true, true, true, true, false, false, false, false, false, false, false, false, false, false, false, false, false] rfl rfl (take_ofW HT_.out HW_.out (by kernel_rfl)) (fun _ _ _ h => h) (Or.inl ⟨by rfl, ?_⟩) hHeld ?_ ?_
        rotate_left
        · intro w' hS
          obtain ⟨L_, hF_, _, hs_⟩ := hS.out
          obtain ⟨c0_, c1_, c2_, c3_⟩ := hat6 _ _ hF_ (fun b_ hb_ _ => hs_ b_ hb_)
          go_simp
          try with_reducible rfl
        rotate_left
        · simp only [Act.put, List.setIfInBounds_toArray, List.set_cons_zero, List.set_cons_succ, i64_w, i32_w]
          rfl
        refine pure_ (i := 4) (N := some 50) (v := ?_) (a' := ?_) #[true, true, true, true, true, false, false, false, false, false, false, false, false, false, false, false, false] rfl rfl (any_of HT_.out (by kernel_rfl)) (fun _ _ _ h => h) (Or.inl ⟨by rfl, ?_⟩) ?_ ?_
        rotate_left
        · intro w'
          go_simp
          with_reducible rfl
        rotate_left
        · simp only [Act.put, List.setIfInBounds_toArray, List.set_cons_zero, List.set_cons_succ, i64_w, i32_w]
          rfl
        refine pure_ (i := 5) (N := some 51) (v := ?_) (a' := ?_) #[true, true, true, true, true, true, false, false, false, false, false, false, false, false, false, false, false] rfl rfl (any_of HT_.out (by kernel_rfl)) (fun _ _ _ h => h) (Or.inl ⟨by rfl, ?_⟩) ?_ ?_
        rotate_left
        · intro w'
          go_simp
          with_reducible rfl
        rotate_left
        · simp only [Act.put, List.setIfInBounds_toArray, List.set_cons_zero, List.set_cons_succ, i64_w, i32_w]
          rfl
        refine pure_ (i := 6) (N := some 52) (v := ?_) (a' := ?_) #[true, true, true, true, true, true, true, false, false, false, false, false, false, false, false, false, false] rfl rfl (any_of HT_.out (by kernel_rfl)) (fun _ _ _ h => h) (Or.inl ⟨by rfl, ?_⟩) ?_ ?_
        rotate_left
        · intro w'
          go_simp
          with_reducible rfl
        rotate_left
        · simp only [Act.put, List.setIfInBounds_toArray, List.set_cons_zero, List.set_cons_succ, i64_w, i32_w]
          rfl
        refine take_ (i := 7) (N := some 53) (v := ?_) (a' := ?_) #[true, true, true, true, true, true, true, true, false, false, false, false, false, false, false, false, false] rfl rfl (take_ofW HT_.out HW_.out (by kernel_rfl)) (fun _ _ _ h => h) (Or.inl ⟨by rfl, ?_⟩) hHeld ?_ ?_
        rotate_left
        · rintro w' hS
          obtain ⟨L_, hF_, _, _⟩ := hS.out
          obtain ⟨s0, s1, s2, _⟩ := hst _ _ hF_
          go_simp
          with_reducible rfl
        rotate_left
        · simp only [Act.put, List.setIfInBounds_toArray, List.set_cons_zero, List.set_cons_succ, i64_w, i32_w]
          rfl
        refine join_ (σ := Value × Nat) 3 #[true, true, true, true, true, true, true, true, true, true, true, true, true, true, false, false, false] (fun s_ => [(54, .tuple #[s_.1, .int .i64 i', .int .i64 e']), (10, .pointer (some ⟨s_.2, 0, none⟩)), (45, .tuple #[s_.1, .int .i64 i', .int .i64 e']), (55, s_.1), (56, .int .i64 i'), (57, .int .i64 e')]) (fun s_ w' => Fr w ((s_.2, zero28, 28) :: L) w' ∧ Tb ((s_.2, zero28, 28) :: L) w' s_.1 ids' rows' room last' ∧ Mv L wd ((s_.2, zero28, 28) :: L) w') ?_ ?_
        rotate_left
        · intro hCont
          refine two_ (i := 8) (j := 13) (Ni := some 54) (Nj := some 10) #[true, true, true, true, true, true, true, true, true, false, false, false, false, false, false, false, false] #[true, true, true, true, true, true, true, true, false, false, false, false, false, true, false, false, false] rfl rfl rfl rfl (two_of HT_.out (by kernel_rfl)) (by decide) (by decide) (fun K hK => ?_) (fun K hK => ?_)
          · skip
            refine goes_ Try.func19 (by kernel_rfl) rfl #[.agg #[.slice A0 ids.length c0, .slice B0 rows.length d0, .int .i64 room, .int .i64 last], .agg #[.int .i64 (rd_T50 l (j : Int)).f0, .int .i64 (rd_T50 l (j : Int)).f1, .slice Ae (rd_T50 l (j : Int)).f2.length ce]] (by rfl) rfl rfl (by (try simp only [List.map_toArray, List.map_cons, List.map_nil]); first | done | rfl) ?_
            refine (done_c (k := k) FD (TD.mv (Mv.refl _ _)) (hst _ _ FD).2.2.2 hd).mono ?_
            rintro e w9 ⟨v', rfl, T9, F9, M9⟩
            refine ⟨_, rfl, ?_⟩
            refine hK.out _ _ (Held.of F9 M9 (fun _ h => h)) (fun hHeld => ?_)
            clear hK K
            refine norm_ (a' := ?_) ?_ ?_
            rotate_left
            · show Act.put _ (some 54) _ = _
              simp only [Act.put, List.setIfInBounds_toArray, List.set_cons_zero, List.set_cons_succ, i64_w, i32_w]
              rfl
            refine pure_ (i := 9) (N := some 45) (v := ?_) (a' := ?_) #[true, true, true, true, true, true, true, true, true, true, false, false, false, false, false, false, false] rfl rfl (any_of HT_.out (by kernel_rfl)) (fun _ _ _ h => h) (Or.inl ⟨by rfl, ?_⟩) ?_ ?_
            rotate_left
            · intro w'
              go_simp
              with_reducible rfl
            rotate_left
            · simp only [Act.put, List.setIfInBounds_toArray, List.set_cons_zero, List.set_cons_succ, i64_w, i32_w]
              rfl
            refine pure_ (i := 10) (N := some 55) (v := ?_) (a' := ?_) #[true, true, true, true, true, true, true, true, true, true, true, false, false, false, false, false, false] rfl rfl (any_of HT_.out (by kernel_rfl)) (fun _ _ _ h => h) (Or.inl ⟨by rfl, ?_⟩) ?_ ?_
            rotate_left
            · intro w'
              go_simp
              with_reducible rfl
            rotate_left
            · simp only [Act.put, List.setIfInBounds_toArray, List.set_cons_zero, List.set_cons_succ, i64_w, i32_w]
              rfl
            refine pure_ (i := 11) (N := some 56) (v := ?_) (a' := ?_) #[true, true, true, true, true, true, true, true, true, true, true, true, false, false, false, false, false] rfl rfl (any_of HT_.out (by kernel_rfl)) (fun _ _ _ h => h) (Or.inl ⟨by rfl, ?_⟩) ?_ ?_
            rotate_left
            · intro w'
              go_simp
              with_reducible rfl
            rotate_left
            · simp only [Act.put, List.setIfInBounds_toArray, List.set_cons_zero, List.set_cons_succ, i64_w, i32_w]
              rfl
            refine pure_ (i := 12) (N := some 57) (v := ?_) (a' := ?_) #[true, true, true, true, true, true, true, true, true, true, true, true, true, false, false, false, false] rfl rfl (any_of HT_.out (by kernel_rfl)) (fun _ _ _ h => h) (Or.inl ⟨by rfl, ?_⟩) ?_ ?_
            rotate_left
            · intro w'
              go_simp
              with_reducible rfl
            rotate_left
            · simp only [Act.put, List.setIfInBounds_toArray, List.set_cons_zero, List.set_cons_succ, i64_w, i32_w]
              rfl
            refine one_ (i := 13) (N := some 10) #[true, true, true, true, true, true, true, true, true, true, true, true, true, true, false, false, false] rfl rfl (one_of HT_.out (by kernel_rfl)) (by decide) (fun K hK => ?_)
            refine box_step ?hg (N := 10) ?hd (cs := #[.slice none 0 0, .slice none 0 0, .int .i64 0, .int .i64 0]) (t := 28) ?hr ?_; (case hd => rfl); (case hg => rfl); (case hr => first | (go_simp; done) | (go_simp; rfl))
            intro g8 hg w10 hbox hb
            obtain ⟨F10, M10⟩ := F9.new (v := zero28) hg hbox zero_fits hb
            clear hg hbox hb
            refine hK.out _ _ (Held.of F10 (M9.trans M10) (fun _ h => List.mem_cons_of_mem _ h)) (fun hHeld => ?_)
            clear hK K
            refine norm_ (a' := ?_) ?_ ?_
            rotate_left
            · show Act.put _ (some 10) _ = _
              simp only [Act.put, List.setIfInBounds_toArray, List.set_cons_zero, List.set_cons_succ, i64_w, i32_w]
              rfl
            exact norm_ (by simp only [putAll, Act.put, List.setIfInBounds_toArray, List.set_cons_zero, List.set_cons_succ]) (hCont (v', g8) _ ⟨F10, T9.mv M10, M9.trans M10⟩)
          · skip
            refine box_step ?hg (N := 10) ?hd (cs := #[.slice none 0 0, .slice none 0 0, .int .i64 0, .int .i64 0]) (t := 28) ?hr ?_; (case hd => rfl); (case hg => rfl); (case hr => first | (go_simp; done) | (go_simp; rfl))
            intro g8 hg w9 hbox hb
            obtain ⟨F9, M9⟩ := FD.new (v := zero28) hg hbox zero_fits hb
            clear hg hbox hb
            refine hK.out _ _ (Held.of F9 M9 (fun _ h => List.mem_cons_of_mem _ h)) (fun hHeld => ?_)
            clear hK K
            refine norm_ (a' := ?_) ?_ ?_
            rotate_left
            · show Act.put _ (some 10) _ = _
              simp only [Act.put, List.setIfInBounds_toArray, List.set_cons_zero, List.set_cons_succ, i64_w, i32_w]
              rfl
            refine one_ (i := 8) (N := some 54) #[true, true, true, true, true, true, true, true, true, false, false, false, false, true, false, false, false] rfl rfl (one_of HT_.out (by kernel_rfl)) (by decide) (fun K hK => ?_)
            refine goes_ Try.func19 (by kernel_rfl) rfl #[.agg #[.slice A0 ids.length c0, .slice B0 rows.length d0, .int .i64 room, .int .i64 last], .agg #[.int .i64 (rd_T50 l (j : Int)).f0, .int .i64 (rd_T50 l (j : Int)).f1, .slice Ae (rd_T50 l (j : Int)).f2.length ce]] (by rfl) rfl rfl (by (try simp only [List.map_toArray, List.map_cons, List.map_nil]); first | done | rfl) ?_
            refine (done_c (k := k) F9 (TD.mv M9) (hst _ _ F9).2.2.2 hd).mono ?_
            rintro e w10 ⟨v', rfl, T10, F10, M10⟩
            refine ⟨_, rfl, ?_⟩
            refine hK.out _ _ (Held.of F10 (M9.trans M10) (fun _ h => List.mem_cons_of_mem _ h)) (fun hHeld => ?_)
            clear hK K
            refine norm_ (a' := ?_) ?_ ?_
            rotate_left
            · show Act.put _ (some 54) _ = _
              simp only [Act.put, List.setIfInBounds_toArray, List.set_cons_zero, List.set_cons_succ, i64_w, i32_w]
              rfl
            refine pure_ (i := 9) (N := some 45) (v := ?_) (a' := ?_) #[true, true, true, true, true, true, true, true, true, true, false, false, false, true, false, false, false] rfl rfl (any_of HT_.out (by kernel_rfl)) (fun _ _ _ h => h) (Or.inl ⟨by rfl, ?_⟩) ?_ ?_
            rotate_left
            · intro w'
              go_simp
              with_reducible rfl
            rotate_left
            · simp only [Act.put, List.setIfInBounds_toArray, List.set_cons_zero, List.set_cons_succ, i64_w, i32_w]
              rfl
            refine pure_ (i := 10) (N := some 55) (v := ?_) (a' := ?_) #[true, true, true, true, true, true, true, true, true, true, true, false, false, true, false, false, false] rfl rfl (any_of HT_.out (by kernel_rfl)) (fun _ _ _ h => h) (Or.inl ⟨by rfl, ?_⟩) ?_ ?_
            rotate_left
            · intro w'
              go_simp
              with_reducible rfl
            rotate_left
            · simp only [Act.put, List.setIfInBounds_toArray, List.set_cons_zero, List.set_cons_succ, i64_w, i32_w]
              rfl
            refine pure_ (i := 11) (N := some 56) (v := ?_) (a' := ?_) #[true, true, true, true, true, true, true, true, true, true, true, true, false, true, false, false, false] rfl rfl (any_of HT_.out (by kernel_rfl)) (fun _ _ _ h => h) (Or.inl ⟨by rfl, ?_⟩) ?_ ?_
            rotate_left
            · intro w'
              go_simp
              with_reducible rfl
            rotate_left
            · simp only [Act.put, List.setIfInBounds_toArray, List.set_cons_zero, List.set_cons_succ, i64_w, i32_w]
              rfl
            refine pure_ (i := 12) (N := some 57) (v := ?_) (a' := ?_) #[true, true, true, true, true, true, true, true, true, true, true, true, true, true, false, false, false] rfl rfl (any_of HT_.out (by kernel_rfl)) (fun _ _ _ h => h) (Or.inl ⟨by rfl, ?_⟩) ?_ ?_
            rotate_left
            · intro w'
              go_simp
              with_reducible rfl
            rotate_left
            · simp only [Act.put, List.setIfInBounds_toArray, List.set_cons_zero, List.set_cons_succ, i64_w, i32_w]
              rfl
            exact norm_ (by simp only [putAll, Act.put, List.setIfInBounds_toArray, List.set_cons_zero, List.set_cons_succ]) (hCont (v', g8) _ ⟨F10, T10, M9.trans M10⟩)
        rintro ⟨v', g8⟩ w10 ⟨F10, T10, M10⟩
        have hHeld : Held w L L wd w10 := Held.of F10 M10 (fun _ h => List.mem_cons_of_mem _ h)
        refine norm_ (a' := ?_) ?_ ?_
        rotate_left
        · simp only [putAll, Act.put, List.setIfInBounds_toArray, List.set_cons_zero, List.set_cons_succ]
          rfl
        refine one_ (i := 14) (N := none) #[true, true, true, true, true, true, true, true, true, true, true, true, true, true, true, false, false] rfl rfl (one_of HT_.out (by kernel_rfl)) (by decide) (fun K hK => ?_)
        refine skip_ (by rfl) rfl (F10.run_store (v := v') rfl rfl rfl (T10.fits) Put.here) ?_
        obtain ⟨F11, M11⟩ := F10.put (v := v') (Put.here : Put _ _ _ 28 _) (T10.fits)
        generalize World.setCells _ _ _ _ = w11 at F11 M11 ⊢
        refine hK.out _ _ (Held.of F11 (M10.trans M11) (fun _ h => List.mem_cons_of_mem _ h)) (fun hHeld => ?_)
        clear hK K
        have T11 := T10.mv M11
        have M12 := M10.trans M11
        refine pure_ (i := 15) (N := some 11) (v := ?_) (a' := ?_) #[true, true, true, true, true, true, true, true, true, true, true, true, true, true, true, true, false] rfl rfl (any_of HT_.out (by kernel_rfl)) (fun _ _ _ h => h) (Or.inl ⟨by rfl, ?_⟩) ?_ ?_
        rotate_left
        · intro w'
          go_simp
          with_reducible rfl
        rotate_left
        · simp only [Act.put, List.setIfInBounds_toArray, List.set_cons_zero, List.set_cons_succ, i64_w, i32_w]
          rfl
        refine pure_ (i := 16) (N := some 12) (v := ?_) (a' := ?_) #[true, true, true, true, true, true, true, true, true, true, true, true, true, true, true, true, true] rfl rfl (any_of HT_.out (by kernel_rfl)) (fun _ _ _ h => h) (Or.inl ⟨by rfl, ?_⟩) ?_ ?_
        rotate_left
        · intro w'
          go_simp
          with_reducible rfl
        rotate_left
        · simp only [Act.put, List.setIfInBounds_toArray, List.set_cons_zero, List.set_cons_succ, i64_w, i32_w]
          rfl
        refine done_ (done_of HT_.out (by kernel_rfl)) ?_
        have M11 := MD.trans M12
        have H11 := H3.mv F11 M11 (fun b hb _ => List.mem_cons_of_mem _ hb)
        obtain ⟨A5, c5, B5, d5, rfl, _, _⟩ := T11.out
        clear H3 hat6 hst TJ TD FD MD M12 F hHeld HT_ HW_ hyG
        go_wp2_with (first | ((with_reducible refine gate_dst (N := 59) rfl ?_); refine fr_load (t := 28) (by assumption) rfl rfl rfl (by repeat (first | exact List.mem_cons_self | (with_reducible assumption) | apply List.mem_cons_of_mem)) (by kernel_rfl) Try.underlying28 ?_) | ((with_reducible refine gate_dst (N := 60) rfl ?_); refine ar_lit (N := 60) (by assumption) rfl rfl 28 1 (by decide) [.slice A5 ids'.length c5, .slice B5 rows'.length d5, .int .i64 room, .int .i64 last'] ?hr ?_; (case hr => first | (go_simp; done) | (go_simp; rfl)); intro gl wa Fa Ma) | ((with_reducible refine gate_builtin (b := .append) (xs := #[.tmp 58, .tmp 60]) rfl ?_); at_builtin; refine ar_push (e := 28) (sz := 4) (t := 60) (bytes := 64) (z := (.agg #[.slice none 0 0, .slice none 0 0, .int .i64 0, .int .i64 0])) Fa (by decide) rfl (.tmp 58) (.tmp 60) rfl Try.underlying60 (by kernel_rfl) rfl (by decide) (by decide) rfl rfl (H11.a6.mv F11 Fa.tail (fun _ hb_ _ => hb_)) rfl (by intro u hu; simp only [List.mem_cons, List.not_mem_nil, or_false] at hu; rcases hu with rfl | rfl | rfl | rfl <;> rfl) (by rw [List.length_map, hn]; omega) ?_; intro v6' Lb wb Fb Mb Ab hkb; have hbx := hkb _ List.mem_cons_self (show (28 : Nat) ≠ 1028 by decide)) | ((with_reducible refine gate_dst (N := 62) rfl ?_); refine ar_lit (N := 62) (by assumption) rfl rfl 3 0 (by decide) [] ?hr ?_; (case hr => first | (go_simp; done) | (go_simp; rfl)); intro gm wc Fc Mc) | ((with_reducible refine gate_dst (N := 63) rfl ?_); refine fr_load (t := 28) (by assumption) rfl rfl rfl (by repeat (first | exact List.mem_cons_self | (with_reducible assumption) | apply List.mem_cons_of_mem)) (by kernel_rfl) Try.underlying28 ?_) | ((with_reducible refine gate_callee (f := 15) rfl ?_); refine goesL_ (some 64) rfl rfl Try.func15 (by kernel_rfl) rfl #[(.agg #[.slice A5 ids'.length c5, .slice B5 rows'.length d5, .int .i64 room, .int .i64 last'])] rfl (by (try simp only [List.map_toArray, List.map_cons, List.map_nil]); first | done | rfl) ?_; refine (ids_c Fc (T11.mv ((Ma.tail.trans Mb).trans Mc)) hids').mono ?_; rintro e wd_ ⟨ui, rfl, UI, Fd, Md⟩; refine ⟨_, rfl, ?_⟩) | ((with_reducible refine gate_builtin (b := .append) (xs := #[.tmp 62, .tmp 64]) rfl ?_); at_builtin; refine fr_copy (Kd.int .i64) (e := 3) (t := 24) (bytes := 8) (z := (.int .i64 0)) Fd (by decide) rfl (.tmp 62) (.tmp 64) rfl Try.underlying24 (by kernel_rfl) rfl (by decide) (by decide) rfl rfl UI (by omega) ?_; intro v13 we Fe Me Ve; obtain ⟨A13, c13, rfl, _, _⟩ := Ve.sl))
        have MM := (Ma.tail.trans Mb).trans (Mc.trans (Md.trans Me))
        have H0 : Three w Lb we v6' v7 v8 (S ++ [⟨(.agg #[.slice A5 ids'.length c5, .slice B5 rows'.length d5, .int .i64 room, .int .i64 last']), .slice none 0 0, .slice none 0 0, ids', rows', room, last'⟩]) S S := ⟨Fe, by rw [List.map_append]; exact Ab.mv Fb Fe (fun _ h _ => h), H11.a7.mv F11 Fe (fun b hb e => hkb b hb (by rw [e]; decide)), H11.a8.mv F11 Fe (fun b hb e => hkb b hb (by rw [e]; decide)), fun x hx => (List.mem_append.1 hx).elim (fun hx => (H11.g6 x hx).mv MM) (fun hx => by rw [List.mem_singleton] at hx; subst hx; exact T11.mv MM), fun x hx => (H11.good x hx).mv MM⟩
        have TU0 := T11.mv MM
        go_loopw [14, 15] (fun r i W => AtR w (S ++ [⟨(.agg #[.slice A5 ids'.length c5, .slice B5 rows'.length d5, .int .i64 room, .int .i64 last']), .slice none 0 0, .slice none 0 0, ids', rows', room, last'⟩]) S v6' v7 v8 g8 (.agg #[.slice A5 ids'.length c5, .slice B5 rows'.length d5, .int .i64 room, .int .i64 last']) (.slice A13 ids'.length c13) ids' rows' room last' r i W) (fun _ i _ => ids'.length - (intOf i).toNat)
        case atStart => exact ⟨⟨Lb, 0, [], rfl, Nat.zero_le _, H0, hbx, TU0, Ve, Ar.nil _ _ _ _ _, rfl, fun q x c _ hc => by simp at hc⟩⟩
        case round =>
          obtain ⟨⟨Li, m, cs, rfl, hm, H, hbi, TU, VI, AR, hcs, hrow⟩⟩ := hrel
          clear H11 T11 T10 F11 F10 Fa Fb Fc Fd Fe Ma Mb Mc Md Me MM H0 TU0 Ve Ab M10 M11 UI hkb hbx
          by_cases hlt2 : m < ids'.length
          · obtain ⟨kg, x, hxm, hget⟩ := get_nth (room := room) (last := last') HH.out.1 hsh' hasc' hlt2
            have hx300 := (hrows' x (List.mem_of_getElem? hxm)).2
            have hm0 : (0 : Int) ≤ (m : Int) := by omega
            have hm2 : (m : Int) < (ids'.length : Int) := by omega
            obtain ⟨adi, rfl, hxi⟩ := VI.int_at (m : Int) hm0 hm2
            simp only [Int.toNat_natCast] at hxi
            obtain ⟨Ar_, cr, er, _, _⟩ := AR.sl
            rw [hcs] at er
            subst er
            go_wp2
            refine start_ (n := 11) (S := Held w Li Li (World.drew _)) (ds := []) #[false, false, false, false, false, false, false, false, false, false, false] (by kernel_rfl) rfl rfl (Held.start H.fr) (fun hHeld => ?_); refine with_tabW sL.tab18 sL.bits18 (fun HT_ HW_ => ?_)
            have FD := H.fr.drew
            have TD := TU.mv (Mv.refl _ _).drew
            have hxd := fun L' W' m_ => hxi L' W' (Mv.trans ((Mv.refl _ wr).drew) m_)
            have MD := (Mv.refl Li wr).drew
            generalize World.drew _ = wq at FD TD hxd MD hHeld ⊢
            refine pure_ (i := 1) (N := some 74) (v := ?_) (a' := ?_) #[false, true, false, false, false, false, false, false, false, false, false] rfl rfl (any_of HT_.out (by kernel_rfl)) (fun _ _ _ h => h) (Or.inl ⟨by rfl, ?_⟩) ?_ ?_
            rotate_left
            · intro w'
              go_simp
              with_reducible rfl
            rotate_left
            · simp only [Act.put, List.setIfInBounds_toArray, List.set_cons_zero, List.set_cons_succ, i64_w, i32_w]
              rfl
            refine pure_ (i := 2) (N := some 75) (v := ?_) (a' := ?_) #[false, true, true, false, false, false, false, false, false, false, false] rfl rfl (any_of HT_.out (by kernel_rfl)) (fun _ _ _ h => h) (Or.inl ⟨by rfl, ?_⟩) ?_ ?_
            rotate_left
            · intro w'
              go_simp
              with_reducible rfl
            rotate_left
            · simp only [Act.put, List.setIfInBounds_toArray, List.set_cons_zero, List.set_cons_succ, i64_w, i32_w]
              rfl
            refine pure_ (i := 3) (N := some 76) (v := ?_) (a' := ?_) #[false, true, true, true, false, false, false, false, false, false, false] rfl rfl (any_of HT_.out (by kernel_rfl)) (fun _ _ _ h => h) (Or.inl ⟨by rfl, ?_⟩) ?_ ?_
            rotate_left
            · intro w'
              go_simp
              with_reducible rfl
            rotate_left
            · simp only [Act.put, List.setIfInBounds_toArray, List.set_cons_zero, List.set_cons_succ, i64_w, i32_w]
              rfl
            refine take_ (i := 0) (N := some 73) (v := (.agg #[.slice A5 ids'.length c5, .slice B5 rows'.length d5, .int .i64 room, .int .i64 last'])) (a' := ?_) #[true, true, true, true, false, false, false, false, false, false, false] rfl rfl (take_ofW HT_.out HW_.out (by kernel_rfl)) (fun _ _ _ h => h) (Or.inl ⟨by rfl, ?_⟩) hHeld ?_ ?_
            · intro w' hS
              exact hS.run_load (t := 28) rfl rfl hbi (by kernel_rfl) Try.underlying28
            rotate_left
            · simp only [Act.put, List.setIfInBounds_toArray, List.set_cons_zero, List.set_cons_succ, i64_w, i32_w]
              rfl
            refine take_ (i := 4) (N := some 77) (v := ?_) (a' := ?_) #[true, true, true, true, true, false, false, false, false, false, false] rfl rfl (take_ofW HT_.out HW_.out (by kernel_rfl)) (fun _ _ _ h => h) (Or.inl ⟨by rfl, ?_⟩) hHeld ?_ ?_
            rotate_left
            · intro w' hS
              obtain ⟨L_, _, hm_, _⟩ := hS.out
              have s0 := hxd _ _ hm_
              go_simp
              with_reducible rfl
            rotate_left
            · simp only [Act.put, List.setIfInBounds_toArray, List.set_cons_zero, List.set_cons_succ, i64_w, i32_w]
              rfl
            refine one_ (i := 5) (N := some 78) #[true, true, true, true, true, true, false, false, false, false, false] rfl rfl (one_of HT_.out (by kernel_rfl)) (by decide) (fun K hK => ?_)
            refine goes_ Try.func13 (by kernel_rfl) rfl #[(.agg #[.slice A5 ids'.length c5, .slice B5 rows'.length d5, .int .i64 room, .int .i64 last']), .int .i64 (rd ids' (m : Int))] (by rfl) rfl rfl (by (try simp only [List.map_toArray, List.map_cons, List.map_nil]); first | done | rfl) ?_
            refine (get_c FD TD hget).mono ?_
            rintro e wa ⟨x0, rfl, X0, Fa, Ma⟩
            refine ⟨_, rfl, ?_⟩
            refine hK.out _ _ (Held.of Fa Ma (fun _ h => h)) (fun hHeld => ?_)
            clear hK K
            refine norm_ (a' := ?_) ?_ ?_
            rotate_left
            · show Act.put _ (some 78) _ = _
              simp only [Act.put, List.setIfInBounds_toArray, List.set_cons_zero, List.set_cons_succ, i64_w, i32_w]
              rfl
            refine pure_ (i := 6) (N := some 72) (v := ?_) (a' := ?_) #[true, true, true, true, true, true, true, false, false, false, false] rfl rfl (any_of HT_.out (by kernel_rfl)) (fun _ _ _ h => h) (Or.inl ⟨by rfl, ?_⟩) ?_ ?_
            rotate_left
            · intro w'
              go_simp
              with_reducible rfl
            rotate_left
            · simp only [Act.put, List.setIfInBounds_toArray, List.set_cons_zero, List.set_cons_succ, i64_w, i32_w]
              rfl
            refine pure_ (i := 7) (N := some 79) (v := ?_) (a' := ?_) #[true, true, true, true, true, true, true, true, false, false, false] rfl rfl (any_of HT_.out (by kernel_rfl)) (fun _ _ _ h => h) (Or.inl ⟨by rfl, ?_⟩) ?_ ?_
            rotate_left
            · intro w'
              go_simp
              with_reducible rfl
            rotate_left
            · simp only [Act.put, List.setIfInBounds_toArray, List.set_cons_zero, List.set_cons_succ, i64_w, i32_w]
              rfl
            refine pure_ (i := 8) (N := some 80) (v := ?_) (a' := ?_) #[true, true, true, true, true, true, true, true, true, false, false] rfl rfl (any_of HT_.out (by kernel_rfl)) (fun _ _ _ h => h) (Or.inl ⟨by rfl, ?_⟩) ?_ ?_
            rotate_left
            · intro w'
              go_simp
              with_reducible rfl
            rotate_left
            · simp only [Act.put, List.setIfInBounds_toArray, List.set_cons_zero, List.set_cons_succ, i64_w, i32_w]
              rfl
            refine pure_ (i := 9) (N := some 16) (v := ?_) (a' := ?_) #[true, true, true, true, true, true, true, true, true, true, false] rfl rfl (any_of HT_.out (by kernel_rfl)) (fun _ _ _ h => h) (Or.inl ⟨by rfl, ?_⟩) ?_ ?_
            rotate_left
            · intro w'
              go_simp
              with_reducible rfl
            rotate_left
            · simp only [Act.put, List.setIfInBounds_toArray, List.set_cons_zero, List.set_cons_succ, i64_w, i32_w]
              rfl
            refine pure_ (i := 10) (N := some 17) (v := ?_) (a' := ?_) #[true, true, true, true, true, true, true, true, true, true, true] rfl rfl (any_of HT_.out (by kernel_rfl)) (fun _ _ _ h => h) (Or.inl ⟨by rfl, ?_⟩) ?_ ?_
            rotate_left
            · intro w'
              go_simp
              with_reducible rfl
            rotate_left
            · simp only [Act.put, List.setIfInBounds_toArray, List.set_cons_zero, List.set_cons_succ, i64_w, i32_w]
              rfl
            refine done_ (done_of HT_.out (by kernel_rfl)) ?_
            go_wp2_with (first | ((with_reducible refine gate_dst (N := 82) rfl ?_); refine ar_lit (N := 82) (by assumption) rfl rfl 72 0 (by decide) [] ?hr ?_; (case hr => first | (go_simp; done) | (go_simp; rfl)); intro gp wb Fb Mb) | ((with_reducible refine gate_builtin (b := .append) (xs := #[.tmp 82, .tmp 83]) rfl ?_); at_builtin; refine fr_copy k72 (e := 72) (t := 31) (bytes := 160) (z := (.agg #[.int .i64 0, .slice none 0 0, .slice none 0 0, .int .i64 0, .slice none 0 0, .slice none 0 0, .slice none 0 0, .slice none 0 0])) Fb (by decide) rfl (.tmp 82) (.tmp 83) rfl Try.underlying31 (by kernel_rfl) rfl (by decide) (by decide) rfl rfl (X0.mv Mb) (by omega) ?_; intro x1 wc Fc Mc Vc; obtain ⟨Ax, cx, rfl, _, _⟩ := Vc.sl) | ((with_reducible refine gate_dst (N := 85) rfl ?_); refine ar_lit (N := 85) (by assumption) rfl rfl 31 1 (by decide) [.slice Ax x.length cx] ?hr ?_; (case hr => first | (go_simp; done) | (go_simp; rfl)); intro gq wd_ Fd Md) | ((with_reducible refine gate_builtin (b := .append) (xs := #[.tmp 81, .tmp 85]) rfl ?_); at_builtin; refine ar_push (e := 31) (sz := 1) (t := 22) (bytes := 24) (z := (.slice none 0 0)) Fd (by decide) rfl (.tmp 81) (.tmp 85) rfl Try.underlying22 (by kernel_rfl) rfl (by decide) (by decide) rfl rfl (AR.mv H.fr Fd.tail (fun _ hb_ _ => hb_)) rfl (by intro u hu; rw [List.mem_singleton] at hu; subst hu; rfl) (by rw [hcs]; omega) ?_; intro r' Le we Fe Me Ae hke))
            have MI := (MD.trans Ma).trans ((Mb.trans Mc).trans (Md.tail.trans Me))
            go_roundw
            case rel =>
              refine ⟨⟨Le, m + 1, cs ++ [[.slice Ax x.length cx]], by go_num, by omega, H.mv Fe MI (fun b hb e => hke b hb (by rcases e with e | e | e <;> rw [e] <;> decide)), hke _ hbi (show (28 : Nat) ≠ 1031 by decide), TU.mv MI, VI.mv MI, Ae, by simp [hcs], ?_⟩⟩
              intro q y c hyq hcq
              by_cases hqm : q < m
              · rw [List.getElem?_append_left (by omega)] at hcq
                obtain ⟨s, e, hv⟩ := hrow q y c hyq hcq
                exact ⟨s, e, hv.mv MI⟩
              · have hqe : q = m := by
                  have := (List.getElem?_eq_some_iff.1 hcq).1
                  simp [hcs] at this
                  omega
                subst hqe
                rw [List.getElem?_append_right (by omega)] at hcq
                simp [hcs] at hcq
                rw [hxm] at hyq
                obtain rfl := Option.some.inj hyq
                exact ⟨_, hcq.symm, Vc.mv (Md.tail.trans Me)⟩
            case measure => simp [intOf]; omega
          · have hm2 : ¬ ((m : Int) < (ids'.length : Int)) := by omega
            have hm3 := decide_eq_false hm2
            have hmm : m = ids'.length := by omega
            obtain ⟨F2, M2, V14⟩ := Ar.toVw H.fr AR (by rw [hcs, hmm]; exact HH.out.1) hrow
            have H2 := H.mv F2 M2 (fun b hb e => List.mem_filter.2 ⟨hb, by rcases e with e | e | e <;> rw [e] <;> decide⟩)
            obtain ⟨A14, c14, e14, _, _⟩ := V14.sl
            subst e14
            have TU2 := TU.mv M2
            have VI2 := VI.mv M2
            clear H AR hrow TU VI M2 hcs hmm hm hlt2
            obtain ⟨A7, c7, e7, _, _⟩ := H2.a7.sl
            rw [List.length_map, hn] at e7
            subst e7
            obtain ⟨A8, c8, e8, _, _⟩ := H2.a8.sl
            rw [List.length_map, hn] at e8
            subst e8
            go_wp2_with (first | ((with_reducible refine gate_dst (N := 89) rfl ?_); refine ar_lit (N := 89) (by assumption) rfl rfl 24 1 (by decide) [.slice A13 ids'.length c13] ?hr ?_; (case hr => first | (go_simp; done) | (go_simp; rfl)); intro gl wa Fa Ma) | ((with_reducible refine gate_builtin (b := .append) (xs := #[.tmp 87, .tmp 89]) rfl ?_); at_builtin; refine ar_push (e := 24) (sz := 1) (t := 61) (bytes := 24) (z := (.slice none 0 0)) Fa (by decide) rfl (.tmp 87) (.tmp 89) rfl Try.underlying61 (by kernel_rfl) rfl (by decide) (by decide) rfl rfl (H2.a7.mv F2 Fa.tail (fun _ hb_ _ => hb_)) rfl (by intro u hu; rw [List.mem_singleton] at hu; subst hu; rfl) (by rw [List.length_map, hn]; omega) ?_; intro v7' Lb wb Fb Mb Ab hkb) | ((with_reducible refine gate_dst (N := 93) rfl ?_); refine ar_lit (N := 93) (by assumption) rfl rfl 22 1 (by decide) [.slice A14 rows'.length c14] ?hr ?_; (case hr => first | (go_simp; done) | (go_simp; rfl)); intro gm wc Fc Mc) | ((with_reducible refine gate_builtin (b := .append) (xs := #[.tmp 91, .tmp 93]) rfl ?_); at_builtin; refine ar_push (e := 22) (sz := 1) (t := 62) (bytes := 24) (z := (.slice none 0 0)) Fc (by decide) rfl (.tmp 91) (.tmp 93) rfl Try.underlying62 (by kernel_rfl) rfl (by decide) (by decide) rfl rfl ((H2.a8.mv F2 Fa.tail (fun _ hb_ _ => hb_)).mv Fa.tail Fc.tail (fun b_ hb_ e_ => hkb b_ hb_ (by rw [e_]; decide))) rfl (by intro u hu; rw [List.mem_singleton] at hu; subst hu; rfl) (by rw [List.length_map, hn]; omega) ?_; intro v8' Ld wd_ Fd Md Ad hkd))
            have MJ := (Ma.tail.trans Mb).trans (Mc.tail.trans Md)
            have hS1 : ∀ x ∈ S, Good Ld wd_ x := fun x hx => (H2.good x hx).mv MJ
            have hS2 : Good Ld wd_ ⟨(.agg #[.slice A5 ids'.length c5, .slice B5 rows'.length d5, .int .i64 room, .int .i64 last']), .slice A13 ids'.length c13, .slice A14 rows'.length c14, ids', rows', room, last'⟩ := ⟨TU2.mv MJ, VI2.mv MJ, V14.mv MJ, HH.out.1, hsh', hasc', hrows'⟩
            go_roundw
            case rel =>
              refine ⟨⟨_, _, _, Ld, j + 1, S ++ [⟨(.agg #[.slice A5 ids'.length c5, .slice B5 rows'.length d5, .int .i64 room, .int .i64 last']), .slice A13 ids'.length c13, .slice A14 rows'.length c14, ids', rows', room, last'⟩], rfl, rfl, rfl, by go_num, by omega, by simp; omega, ⟨Fd, ?_, ?_, ?_, ?_, ?_⟩, ⟨_, by rw [List.getElem?_append_right (by omega), show j + 1 - S.length = 0 by omega]; rfl, gv', hO'⟩⟩⟩
              · have := ((H2.a6.mv F2 Fa.tail (fun _ h _ => h)).mv Fa.tail Fb (fun b hb e => hkb b hb (by rw [e]; decide))).mv Fb Fd (fun b hb e => hkd b hb (by rw [e]; decide))
                rw [List.map_append] at this ⊢
                exact this
              · rw [List.map_append]
                exact Ab.mv Fb Fd (fun b hb e => hkd b hb (by rw [e]; decide))
              · rw [List.map_append]
                exact Ad
              · intro x hx
                rcases List.mem_append.1 hx with hx | hx
                · exact (hS1 x hx).tb
                · rw [List.mem_singleton] at hx; subst hx; exact hS2.tb
              · intro x hx
                rcases List.mem_append.1 hx with hx | hx
                · exact hS1 x hx
                · rw [List.mem_singleton] at hx; subst hx; exact hS2
            case measure => simp [intOf]; omega
      · have hi2 : ¬ ((j : Int) < (l.length : Int)) := by omega
        have hi3 := decide_eq_false hi2
        obtain ⟨A6, c6, e6, _, _⟩ := H3.a6.sl
        rw [List.length_map, hn] at e6
        subst e6
        obtain ⟨A7, c7, e7, _, _⟩ := H3.a7.sl
        rw [List.length_map, hn] at e7
        subst e7
        obtain ⟨A8, c8, e8, _, _⟩ := H3.a8.sl
        rw [List.length_map, hn] at e8
        subst e8
        have hn31 : n ≤ 31 := by omega
        clear hO hyG hsh hlow hhigh hy
        go_wp2
        go_loopw [18] (fun i W => AtC w L (.slice A6 n c6) (.slice A7 n c7) (.slice A8 n c8) S i W) (fun i _ => n - (intOf i).toNat)
        case atStart => exact ⟨⟨0, rfl, Nat.zero_le _, H3⟩⟩
        case round =>
          obtain ⟨⟨q, rfl, hq, H⟩⟩ := hrel
          clear H3 F hi2 hi3 hlt hSl hj
          rw [hn] at hq
          by_cases hqn : q < n
          · obtain ⟨⟨xv, xi, xr, ids, rows, room, last⟩, hx⟩ : ∃ x, S[q]? = some x := ⟨S[q]'(by omega), List.getElem?_eq_getElem (by omega)⟩
            have G := H.good _ (List.mem_of_getElem? hx)
            have TJ : Tb L wr xv ids rows room last := G.tb
            have VI : Vw (Kd.int .i64) L wr xi ids := G.vi
            have VR : Vw (Kd.slice 72 k72) L wr xr rows := G.vr
            have hG : Aside0 (ids.length = rows.length ∧ ids.length ≤ 64 ∧ ids.Pairwise (· < ·) ∧ ∀ t ∈ rows, RowOk t ∧ t.length ≤ 300) := ⟨G.len, G.few, G.asc, G.ok⟩
            clear G
            obtain ⟨A0, c0, B0, d0, rfl, _, _⟩ := TJ.out
            obtain ⟨Ai, ci, rfl, _, _⟩ := VI.sl
            obtain ⟨Ar_, cr, rfl, _, _⟩ := VR.sl
            obtain ⟨ad6, rfl, hat6⟩ := H.a6.four_at H.fr q (by rw [List.length_map]; omega) (show _ = [Value.slice A0 ids.length c0, .slice B0 rows.length d0, .int .i64 room, .int .i64 last] by rw [List.getD_eq_getElem?_getD, List.getElem?_map, hx]; rfl)
            obtain ⟨ad7, rfl, hat7⟩ := H.a7.one_at H.fr q (by rw [List.length_map]; omega) (show _ = [Value.slice Ai ids.length ci] by rw [List.getD_eq_getElem?_getD, List.getElem?_map, hx]; rfl)
            obtain ⟨ad8, rfl, hat8⟩ := H.a8.one_at H.fr q (by rw [List.length_map]; omega) (show _ = [Value.slice Ar_ rows.length cr] by rw [List.getD_eq_getElem?_getD, List.getElem?_map, hx]; rfl)
            have hids : snaps_IDs.f ids rows room last = some ids := ids_some _ _ _ _ (by have := hG.out.2.1; omega)
            obtain ⟨kn, hint⟩ := ints_same ids (by have := hG.out.2.1; omega)
            replace hint := hint kn (Nat.le_refl _)
            have hq0 : (0 : Int) ≤ (q : Int) := by omega
            have hq2 : (q : Int) < (n : Int) := by omega
            go_wp2
            refine start_ (n := 11) (S := Held w L L (World.drew _)) (ds := []) #[false, false, false, false, false, false, false, false, false, false, false] (by kernel_rfl) rfl rfl (Held.start H.fr) (fun hHeld => ?_); refine with_tabW sL.tab25 sL.bits25 (fun HT_ HW_ => ?_)
            have FD := H.fr.drew
            have TD := TJ.mv (Mv.refl _ _).drew
            have ID := VI.mv (Mv.refl _ _).drew
            have MD := (Mv.refl L wr).drew
            generalize World.drew _ = wq at FD TD ID MD hHeld ⊢
            refine pure_ (i := 0) (N := some 101) (v := ?_) (a' := ?_) #[true, false, false, false, false, false, false, false, false, false, false] rfl rfl (any_of HT_.out (by kernel_rfl)) (fun _ _ _ h => h) (Or.inl ⟨by rfl, ?_⟩) ?_ ?_
            rotate_left
            · intro w'
              go_simp
              with_reducible rfl
            rotate_left
            · simp only [Act.put, List.setIfInBounds_toArray, List.set_cons_zero, List.set_cons_succ, i64_w, i32_w]
              rfl
            refine pure_ (i := 1) (N := some 102) (v := ?_) (a' := ?_) #[true, true, false, false, false, false, false, false, false, false, false] rfl rfl (any_of HT_.out (by kernel_rfl)) (fun _ _ _ h => h) (Or.inl ⟨by rfl, ?_⟩) ?_ ?_
            rotate_left
            · intro w'
              go_simp
              with_reducible rfl
            rotate_left
            · simp only [Act.put, List.setIfInBounds_toArray, List.set_cons_zero, List.set_cons_succ, i64_w, i32_w]
              rfl
            refine pure_ (i := 2) (N := some 103) (v := ?_) (a' := ?_) #[true, true, true, false, false, false, false, false, false, false, false] rfl rfl (any_of HT_.out (by kernel_rfl)) (fun _ _ _ h => h) (Or.inl ⟨by rfl, ?_⟩) ?_ ?_
            rotate_left
            · intro w'
              go_simp
              with_reducible rfl
            rotate_left
            · simp only [Act.put, List.setIfInBounds_toArray, List.set_cons_zero, List.set_cons_succ, i64_w, i32_w]
              rfl
            refine take_ (i := 3) (N := some 104) (v := (.agg #[.slice A0 ids.length c0, .slice B0 rows.length d0, .int .i64 room, .int .i64 last])) (a' := ?_) #[true, true, true, true, false, false, false, false, false, false, false] rfl rfl (take_ofW HT_.out HW_.out (by kernel_rfl)) (fun _ _ _ h => h) (Or.inl ⟨by rfl, ?_⟩) hHeld ?_ ?_
            · intro w' hS
              obtain ⟨L_, hF_, _, hs_⟩ := hS.out
              obtain ⟨c0_, c1_, c2_, c3_⟩ := hat6 _ _ hF_ (fun b_ hb_ _ => hs_ b_ hb_)
              go_simp
              try with_reducible rfl
            rotate_left
            · simp only [Act.put, List.setIfInBounds_toArray, List.set_cons_zero, List.set_cons_succ, i64_w, i32_w]
              rfl
            refine pure_ (i := 5) (N := some 106) (v := ?_) (a' := ?_) #[true, true, true, true, false, true, false, false, false, false, false] rfl rfl (any_of HT_.out (by kernel_rfl)) (fun _ _ _ h => h) (Or.inl ⟨by rfl, ?_⟩) ?_ ?_
            rotate_left
            · intro w'
              go_simp
              with_reducible rfl
            rotate_left
            · simp only [Act.put, List.setIfInBounds_toArray, List.set_cons_zero, List.set_cons_succ, i64_w, i32_w]
              rfl
            refine pure_ (i := 6) (N := some 107) (v := ?_) (a' := ?_) #[true, true, true, true, false, true, true, false, false, false, false] rfl rfl (any_of HT_.out (by kernel_rfl)) (fun _ _ _ h => h) (Or.inl ⟨by rfl, ?_⟩) ?_ ?_
            rotate_left
            · intro w'
              go_simp
              with_reducible rfl
            rotate_left
            · simp only [Act.put, List.setIfInBounds_toArray, List.set_cons_zero, List.set_cons_succ, i64_w, i32_w]
              rfl
            refine pure_ (i := 7) (N := some 108) (v := ?_) (a' := ?_) #[true, true, true, true, false, true, true, true, false, false, false] rfl rfl (any_of HT_.out (by kernel_rfl)) (fun _ _ _ h => h) (Or.inl ⟨by rfl, ?_⟩) ?_ ?_
            rotate_left
            · intro w'
              go_simp
              with_reducible rfl
            rotate_left
            · simp only [Act.put, List.setIfInBounds_toArray, List.set_cons_zero, List.set_cons_succ, i64_w, i32_w]
              rfl
            refine take_ (i := 8) (N := some 109) (v := ?_) (a' := ?_) #[true, true, true, true, false, true, true, true, true, false, false] rfl rfl (take_ofW HT_.out HW_.out (by kernel_rfl)) (fun _ _ _ h => h) (Or.inl ⟨by rfl, ?_⟩) hHeld ?_ ?_
            rotate_left
            · intro w' hS
              obtain ⟨L_, hF_, _, hs_⟩ := hS.out
              have c0_ := hat7 _ _ hF_ (fun b_ hb_ _ => hs_ b_ hb_)
              go_simp
              with_reducible rfl
            rotate_left
            · simp only [Act.put, List.setIfInBounds_toArray, List.set_cons_zero, List.set_cons_succ, i64_w, i32_w]
              rfl
            refine one_ (i := 4) (N := some 105) #[true, true, true, true, true, true, true, true, true, false, false] rfl rfl (one_of HT_.out (by kernel_rfl)) (by decide) (fun K hK => ?_)
            refine goes_ Try.func15 (by kernel_rfl) rfl #[(.agg #[.slice A0 ids.length c0, .slice B0 rows.length d0, .int .i64 room, .int .i64 last])] (by rfl) rfl rfl (by (try simp only [List.map_toArray, List.map_cons, List.map_nil]); first | done | rfl) ?_
            refine (ids_c FD TD hids).mono ?_
            rintro e w21 ⟨y1, rfl, Y1, F21, M21⟩
            refine ⟨_, rfl, ?_⟩
            refine hK.out _ _ (Held.of F21 M21 (fun _ h => h)) (fun hHeld => ?_)
            clear hK K
            refine norm_ (a' := ?_) ?_ ?_
            rotate_left
            · show Act.put _ (some 105) _ = _
              simp only [Act.put, List.setIfInBounds_toArray, List.set_cons_zero, List.set_cons_succ, i64_w, i32_w]
              rfl
            refine one_ (i := 9) (N := some 110) #[true, true, true, true, true, true, true, true, true, true, false] rfl rfl (one_of HT_.out (by kernel_rfl)) (by decide) (fun K hK => ?_)
            refine goes_ Try.func22 (by kernel_rfl) rfl #[y1, .slice Ai ids.length ci] (by rfl) rfl rfl (by (try simp only [List.map_toArray, List.map_cons, List.map_nil]); first | done | rfl) ?_
            refine (ints_c F21 Y1 (ID.mv M21) hint).mono ?_
            rintro e w22 ⟨rfl, F22, M22⟩
            refine ⟨_, rfl, ?_⟩
            refine hK.out _ _ (Held.of F22 (M21.trans M22) (fun _ h => h)) (fun hHeld => ?_)
            clear hK K
            refine norm_ (a' := ?_) ?_ ?_
            rotate_left
            · show Act.put _ (some 110) _ = _
              simp only [Act.put, List.setIfInBounds_toArray, List.set_cons_zero, List.set_cons_succ, i64_w, i32_w]
              rfl
            refine pure_ (i := 10) (N := some 111) (v := ?_) (a' := ?_) #[true, true, true, true, true, true, true, true, true, true, true] rfl rfl (any_of HT_.out (by kernel_rfl)) (fun _ _ _ h => h) (Or.inl ⟨by rfl, ?_⟩) ?_ ?_
            rotate_left
            · intro w'
              go_simp
              with_reducible rfl
            rotate_left
            · simp only [Act.put, List.setIfInBounds_toArray, List.set_cons_zero, List.set_cons_succ, i64_w, i32_w]
              rfl
            refine done_ (done_of HT_.out (by kernel_rfl)) ?_
            have MQ := MD.trans (M21.trans M22)
            have H22 := H.mv F22 MQ (fun _ h _ => h)
            have TJ2 := TJ.mv MQ
            have VI2 := VI.mv MQ
            have VR2 := VR.mv MQ
            clear H TJ VI VR FD TD ID MD F21 F22 M21 M22 Y1 HT_ HW_ hHeld MQ
            go_wp2
            go_loopw [19] (fun i W => AtE w L (.slice (some ad6) n c6) (.slice (some ad7) n c7) (.slice (some ad8) n c8) S (.agg #[.slice A0 ids.length c0, .slice B0 rows.length d0, .int .i64 room, .int .i64 last]) (.slice Ai ids.length ci) (.slice Ar_ rows.length cr) ids rows room last i W) (fun i _ => ids.length - (intOf i).toNat)
            case atStart => exact ⟨⟨0, rfl, Nat.zero_le _, H22, TJ2, VI2, VR2⟩⟩
            case round =>
              obtain ⟨⟨p, rfl, hp, H, TJ, VI, VR⟩⟩ := hrel
              clear H22 TJ2 VI2 VR2
              have z7 := hat7 _ _ H.fr (fun _ h _ => h)
              by_cases hpn : p < ids.length
              · have h64 : ids.length ≤ 64 := hG.out.2.1
                obtain ⟨kg, x, hxm, hget⟩ := get_nth (room := room) (last := last) hG.out.1 hG.out.2.1 hG.out.2.2.1 hpn
                obtain ⟨ks, hsame⟩ := same_ev x (hG.out.2.2.2 x (List.mem_of_getElem? hxm)).1
                replace hsame := hsame ks (Nat.le_refl _)
                have hp0 : (0 : Int) ≤ (p : Int) := by omega
                have hp2 : (p : Int) < (ids.length : Int) := by omega
                have hp3 : (p : Int) < (rows.length : Int) := by have := hG.out.1; omega
                obtain ⟨adi, rfl, hxi⟩ := VI.int_at (p : Int) hp0 hp2
                simp only [Int.toNat_natCast] at hxi
                go_wp2
                refine start_ (n := 17) (S := Held w L L (World.drew _)) (ds := []) #[false, false, false, false, false, false, false, false, false, false, false, false, false, false, false, false, false] (by kernel_rfl) rfl rfl (Held.start H.fr) (fun hHeld => ?_); refine with_tabW sL.tab30 sL.bits30 (fun HT_ HW_ => ?_)
                have FD := H.fr.drew
                have TD := TJ.mv (Mv.refl _ _).drew
                have ID := VI.mv (Mv.refl _ _).drew
                have MD := (Mv.refl L wr).drew
                have hxd := fun L' W' m_ => hxi L' W' (Mv.trans ((Mv.refl _ wr).drew) m_)
                generalize World.drew _ = wq at FD TD ID MD hxd hHeld ⊢
                refine pure_ (i := 0) (N := some 122) (v := ?_) (a' := ?_) #[true, false, false, false, false, false, false, false, false, false, false, false, false, false, false, false, false] rfl rfl (any_of HT_.out (by kernel_rfl)) (fun _ _ _ h => h) (Or.inl ⟨by rfl, ?_⟩) ?_ ?_
                rotate_left
                · intro w'
                  go_simp
                  with_reducible rfl
                rotate_left
                · simp only [Act.put, List.setIfInBounds_toArray, List.set_cons_zero, List.set_cons_succ, i64_w, i32_w]
                  rfl
                refine pure_ (i := 1) (N := some 123) (v := ?_) (a' := ?_) #[true, true, false, false, false, false, false, false, false, false, false, false, false, false, false, false, false] rfl rfl (any_of HT_.out (by kernel_rfl)) (fun _ _ _ h => h) (Or.inl ⟨by rfl, ?_⟩) ?_ ?_
                rotate_left
                · intro w'
                  go_simp
                  with_reducible rfl
                rotate_left
                · simp only [Act.put, List.setIfInBounds_toArray, List.set_cons_zero, List.set_cons_succ, i64_w, i32_w]
                  rfl
                refine pure_ (i := 2) (N := some 124) (v := ?_) (a' := ?_) #[true, true, true, false, false, false, false, false, false, false, false, false, false, false, false, false, false] rfl rfl (any_of HT_.out (by kernel_rfl)) (fun _ _ _ h => h) (Or.inl ⟨by rfl, ?_⟩) ?_ ?_
                rotate_left
                · intro w'
                  go_simp
                  with_reducible rfl
                rotate_left
                · simp only [Act.put, List.setIfInBounds_toArray, List.set_cons_zero, List.set_cons_succ, i64_w, i32_w]
                  rfl
                refine take_ (i := 3) (N := some 125) (v := (.agg #[.slice A0 ids.length c0, .slice B0 rows.length d0, .int .i64 room, .int .i64 last])) (a' := ?_) #[true, true, true, true, false, false, false, false, false, false, false, false, false, false, false, false, false] rfl rfl (take_ofW HT_.out HW_.out (by kernel_rfl)) (fun _ _ _ h => h) (Or.inl ⟨by rfl, ?_⟩) hHeld ?_ ?_
                · intro w' hS
                  obtain ⟨L_, hF_, _, hs_⟩ := hS.out
                  obtain ⟨c0_, c1_, c2_, c3_⟩ := hat6 _ _ hF_ (fun b_ hb_ _ => hs_ b_ hb_)
                  go_simp
                  try with_reducible rfl
                rotate_left
                · simp only [Act.put, List.setIfInBounds_toArray, List.set_cons_zero, List.set_cons_succ, i64_w, i32_w]
                  rfl
                refine pure_ (i := 4) (N := some 126) (v := ?_) (a' := ?_) #[true, true, true, true, true, false, false, false, false, false, false, false, false, false, false, false, false] rfl rfl (any_of HT_.out (by kernel_rfl)) (fun _ _ _ h => h) (Or.inl ⟨by rfl, ?_⟩) ?_ ?_
                rotate_left
                · intro w'
                  go_simp
                  with_reducible rfl
                rotate_left
                · simp only [Act.put, List.setIfInBounds_toArray, List.set_cons_zero, List.set_cons_succ, i64_w, i32_w]
                  rfl
                refine pure_ (i := 5) (N := some 127) (v := ?_) (a' := ?_) #[true, true, true, true, true, true, false, false, false, false, false, false, false, false, false, false, false] rfl rfl (any_of HT_.out (by kernel_rfl)) (fun _ _ _ h => h) (Or.inl ⟨by rfl, ?_⟩) ?_ ?_
                rotate_left
                · intro w'
                  go_simp
                  with_reducible rfl
                rotate_left
                · simp only [Act.put, List.setIfInBounds_toArray, List.set_cons_zero, List.set_cons_succ, i64_w, i32_w]
                  rfl
                refine pure_ (i := 6) (N := some 128) (v := ?_) (a' := ?_) #[true, true, true, true, true, true, true, false, false, false, false, false, false, false, false, false, false] rfl rfl (any_of HT_.out (by kernel_rfl)) (fun _ _ _ h => h) (Or.inl ⟨by rfl, ?_⟩) ?_ ?_
                rotate_left
                · intro w'
                  go_simp
                  with_reducible rfl
                rotate_left
                · simp only [Act.put, List.setIfInBounds_toArray, List.set_cons_zero, List.set_cons_succ, i64_w, i32_w]
                  rfl
                refine take_ (i := 7) (N := some 129) (v := ?_) (a' := ?_) #[true, true, true, true, true, true, true, true, false, false, false, false, false, false, false, false, false] rfl rfl (take_ofW HT_.out HW_.out (by kernel_rfl)) (fun _ _ _ h => h) (Or.inl ⟨by rfl, ?_⟩) hHeld ?_ ?_
                rotate_left
                · intro w' hS
                  obtain ⟨L_, hF_, _, hs_⟩ := hS.out
                  have c0_ := hat7 _ _ hF_ (fun b_ hb_ _ => hs_ b_ hb_)
                  go_simp
                  with_reducible rfl
                rotate_left
                · simp only [Act.put, List.setIfInBounds_toArray, List.set_cons_zero, List.set_cons_succ, i64_w, i32_w]
                  rfl
                refine pure_ (i := 8) (N := some 130) (v := ?_) (a' := ?_) #[true, true, true, true, true, true, true, true, true, false, false, false, false, false, false, false, false] rfl rfl (any_of HT_.out (by kernel_rfl)) (fun _ _ _ h => h) (Or.inl ⟨by rfl, ?_⟩) ?_ ?_
                rotate_left
                · intro w'
                  go_simp
                  with_reducible rfl
                rotate_left
                · simp only [Act.put, List.setIfInBounds_toArray, List.set_cons_zero, List.set_cons_succ, i64_w, i32_w]
                  rfl
                refine pure_ (i := 9) (N := some 131) (v := ?_) (a' := ?_) #[true, true, true, true, true, true, true, true, true, true, false, false, false, false, false, false, false] rfl rfl (any_of HT_.out (by kernel_rfl)) (fun _ _ _ h => h) (Or.inl ⟨by rfl, ?_⟩) ?_ ?_
                rotate_left
                · intro w'
                  go_simp
                  with_reducible rfl
                rotate_left
                · simp only [Act.put, List.setIfInBounds_toArray, List.set_cons_zero, List.set_cons_succ, i64_w, i32_w]
                  rfl
                refine take_ (i := 10) (N := some 132) (v := ?_) (a' := ?_) #[true, true, true, true, true, true, true, true, true, true, true, false, false, false, false, false, false] rfl rfl (take_ofW HT_.out HW_.out (by kernel_rfl)) (fun _ _ _ h => h) (Or.inl ⟨by rfl, ?_⟩) hHeld ?_ ?_
                rotate_left
                · intro w' hS
                  obtain ⟨L_, _, hm_, _⟩ := hS.out
                  have s0 := hxd _ _ hm_
                  go_simp
                  with_reducible rfl
                rotate_left
                · simp only [Act.put, List.setIfInBounds_toArray, List.set_cons_zero, List.set_cons_succ, i64_w, i32_w]
                  rfl
                refine one_ (i := 11) (N := some 133) #[true, true, true, true, true, true, true, true, true, true, true, true, false, false, false, false, false] rfl rfl (one_of HT_.out (by kernel_rfl)) (by decide) (fun K hK => ?_)
                refine goes_ Try.func13 (by kernel_rfl) rfl #[(.agg #[.slice A0 ids.length c0, .slice B0 rows.length d0, .int .i64 room, .int .i64 last]), .int .i64 (rd ids (p : Int))] (by rfl) rfl rfl (by (try simp only [List.map_toArray, List.map_cons, List.map_nil]); first | done | rfl) ?_
                refine (get_c FD TD hget).mono ?_
                rintro e wa ⟨x0, rfl, X0, Fa, Ma⟩
                refine ⟨_, rfl, ?_⟩
                refine hK.out _ _ (Held.of Fa Ma (fun _ h => h)) (fun hHeld => ?_)
                clear hK K
                refine norm_ (a' := ?_) ?_ ?_
                rotate_left
                · show Act.put _ (some 133) _ = _
                  simp only [Act.put, List.setIfInBounds_toArray, List.set_cons_zero, List.set_cons_succ, i64_w, i32_w]
                  rfl
                refine pure_ (i := 12) (N := some 121) (v := ?_) (a' := ?_) #[true, true, true, true, true, true, true, true, true, true, true, true, true, false, false, false, false] rfl rfl (any_of HT_.out (by kernel_rfl)) (fun _ _ _ h => h) (Or.inl ⟨by rfl, ?_⟩) ?_ ?_
                rotate_left
                · intro w'
                  go_simp
                  with_reducible rfl
                rotate_left
                · simp only [Act.put, List.setIfInBounds_toArray, List.set_cons_zero, List.set_cons_succ, i64_w, i32_w]
                  rfl
                refine pure_ (i := 13) (N := some 134) (v := ?_) (a' := ?_) #[true, true, true, true, true, true, true, true, true, true, true, true, true, true, false, false, false] rfl rfl (any_of HT_.out (by kernel_rfl)) (fun _ _ _ h => h) (Or.inl ⟨by rfl, ?_⟩) ?_ ?_
                rotate_left
                · intro w'
                  go_simp
                  with_reducible rfl
                rotate_left
                · simp only [Act.put, List.setIfInBounds_toArray, List.set_cons_zero, List.set_cons_succ, i64_w, i32_w]
                  rfl
                refine pure_ (i := 14) (N := some 135) (v := ?_) (a' := ?_) #[true, true, true, true, true, true, true, true, true, true, true, true, true, true, true, false, false] rfl rfl (any_of HT_.out (by kernel_rfl)) (fun _ _ _ h => h) (Or.inl ⟨by rfl, ?_⟩) ?_ ?_
                rotate_left
                · intro w'
                  go_simp
                  with_reducible rfl
                rotate_left
                · simp only [Act.put, List.setIfInBounds_toArray, List.set_cons_zero, List.set_cons_succ, i64_w, i32_w]
                  rfl
                refine pure_ (i := 15) (N := some 20) (v := ?_) (a' := ?_) #[true, true, true, true, true, true, true, true, true, true, true, true, true, true, true, true, false] rfl rfl (any_of HT_.out (by kernel_rfl)) (fun _ _ _ h => h) (Or.inl ⟨by rfl, ?_⟩) ?_ ?_
                rotate_left
                · intro w'
                  go_simp
                  with_reducible rfl
                rotate_left
                · simp only [Act.put, List.setIfInBounds_toArray, List.set_cons_zero, List.set_cons_succ, i64_w, i32_w]
                  rfl
                refine pure_ (i := 16) (N := some 21) (v := ?_) (a' := ?_) #[true, true, true, true, true, true, true, true, true, true, true, true, true, true, true, true, true] rfl rfl (any_of HT_.out (by kernel_rfl)) (fun _ _ _ h => h) (Or.inl ⟨by rfl, ?_⟩) ?_ ?_
                rotate_left
                · intro w'
                  go_simp
                  with_reducible rfl
                rotate_left
                · simp only [Act.put, List.setIfInBounds_toArray, List.set_cons_zero, List.set_cons_succ, i64_w, i32_w]
                  rfl
                refine done_ (done_of HT_.out (by kernel_rfl)) ?_
                have MP := MD.trans Ma
                have z8 := hat8 _ _ Fa (fun _ h _ => h)
                obtain ⟨Av, cv, ev, _, hCv⟩ := (VR.mv MP).sl
                injection ev with ev _ _
                subst ev
                obtain ⟨adr, Ae, ce, rfl, zr, hle, hCe⟩ := at_L7 hCv (p : Int) hp0 hp3
                have hrd : rd_L7 rows (p : Int) = x := by simp [rd_L7, hxm]
                rw [hrd] at zr hle hCe
                simp only [Int.toNat_natCast, Nat.mul_one] at zr
                go_wp2_with (first | ((with_reducible refine gate_callee (f := 14) rfl ?_); (try (refine gate_guard (by rfl) ?_; dsimp only)); refine goesL_ (some 147) rfl rfl Try.func14 (by kernel_rfl) rfl #[x0, .slice Ae x.length ce] rfl (by (try simp only [List.map_toArray, List.map_cons, List.map_nil]); first | done | rfl) ?_; refine (same_c2 Fa X0 hCe hle hsame).mono ?_; rintro e wd_ ⟨rfl, Fd, Md⟩; refine ⟨_, rfl, ?_⟩))
                go_roundw
                case rel => exact ⟨⟨p + 1, by go_num, by omega, H.mv Fd (MP.trans Md) (fun _ h _ => h), TJ.mv (MP.trans Md), VI.mv (MP.trans Md), VR.mv (MP.trans Md)⟩⟩
                case measure => simp [intOf]; omega
              · have hp2 : ¬ ((p : Int) < (ids.length : Int)) := by omega
                have hp3 := decide_eq_false hp2
                go_wp2
                go_roundw
                case rel => exact ⟨⟨q + 1, by go_num, by omega, H⟩⟩
                case measure => simp [intOf]; omega
          · have hq2 : ¬ ((q : Int) < (n : Int)) := by omega
            have hq3 := decide_eq_false hq2
            go_wp2
            go_ret
            exact ⟨rfl, H.fr.bel⟩
  · cases b with
    | false =>
      go_enter Try.func7, Try.ntmps7
      go_wp2_with (first | ((with_reducible refine gate_callee (f := 9) rfl ?_); refine goesL_ (some 22) rfl rfl Try.func9 (by kernel_rfl) rfl #[] rfl (by (try simp only [List.map_toArray, List.map_cons, List.map_nil]); first | done | rfl) ?_; refine (awake_c (Fr.start w) hA).mono ?_; rintro e w1 ⟨rfl, F1, M1⟩; refine ⟨_, rfl, ?_⟩) | ((with_reducible refine gate_callee (f := 17) rfl ?_); refine goesL_ (some 24) rfl rfl Try.func17 (by kernel_rfl) rfl #[.slice A1 l.length c1] rfl (by (try simp only [List.map_toArray, List.map_cons, List.map_nil]); first | done | rfl) ?_; refine (small_c F1 HR HC hS).mono ?_; rintro e w2 ⟨rfl, F2, M2⟩; refine ⟨_, rfl, ?_⟩))
      go_ret
      exact ⟨rfl, F2.bel⟩
    | true =>
      have q30 : ((30 : Int) < (l.length : Int)) := by
        have : ¬ l.length ≤ 30 := fun h => hlen ⟨rfl, h⟩
        omega
      have q31 := decide_eq_true q30
      clear hlen
      go_enter Try.func7, Try.ntmps7
      go_wp2_with (first | ((with_reducible refine gate_callee (f := 9) rfl ?_); refine goesL_ (some 22) rfl rfl Try.func9 (by kernel_rfl) rfl #[] rfl (by (try simp only [List.map_toArray, List.map_cons, List.map_nil]); first | done | rfl) ?_; refine (awake_c (Fr.start w) hA).mono ?_; rintro e w1 ⟨rfl, F1, M1⟩; refine ⟨_, rfl, ?_⟩) | ((with_reducible refine gate_callee (f := 17) rfl ?_); refine goesL_ (some 24) rfl rfl Try.func17 (by kernel_rfl) rfl #[.slice A1 l.length c1] rfl (by (try simp only [List.map_toArray, List.map_cons, List.map_nil]); first | done | rfl) ?_; refine (small_c F1 HR HC hS).mono ?_; rintro e w2 ⟨rfl, F2, M2⟩; refine ⟨_, rfl, ?_⟩))
      go_ret
      exact ⟨rfl, F2.bel⟩
end Go.Proofs.Ytkabbahfaeeihaa.Q

