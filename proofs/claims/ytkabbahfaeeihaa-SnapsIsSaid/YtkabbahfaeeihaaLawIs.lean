/- SnapsIs, walked by hand. -/
import Derived.Test.YtkabbahfaeeihaaHl
import Derived.Test.YtkabbahfaeeihaaQ26
import Derived.Test.YtkabbahfaeeihaaQ29
import Derived.Test.YtkabbahfaeeihaaQ31
import Derived.Test.YtkabbahfaeeihaaQ34
import Derived.Test.YtkabbahfaeeihaaQ35
/-! The document's table (ref21) in the words of the hand-made walks: its functions' contracts. -/
namespace Go.Proofs.Ytkabbahfaeeihaa.Q
open Go.RowKit Go.Proofs.YtkabbahfaeeihaaW.PrintWords Go.Proofs.YtkabbahfaeeihaaW.PrintLast Go.Proofs.YtkabbahfaeeihaaW.PrintMore
set_option linter.unusedVariables false
set_option linter.unusedSimpArgs false
variable {w W : World} {L : List Box} {v u : Value} {rl q1 : List S86} {most last : Int} {l : List S72} {r3 r4 r5 r6 : Int}

/-- The document's table v as it is read. -/
structure Rt (L : List Box) (W : World) (v : Value) (rl : List S86) (most last : Int) : Prop where
  out : ∃ A c, v = .agg #[.slice A rl.length c, .int .i64 most, .int .i64 last] ∧ Vw k86 L W (.slice A rl.length c) rl
theorem Rt.mv {L L' : List Box} {W W' : World} (h : Rt L W v rl most last) (m : Mv L W L' W') : Rt L' W' v rl most last := by
  obtain ⟨A, c, rfl, h0⟩ := h.out
  exact ⟨A, c, rfl, h0.mv m⟩
theorem Rt.fits (h : Rt L W v rl most last) : Fits v 46 := by
  obtain ⟨A0, c0, rfl, h0⟩ := h.out
  refine ⟨rfl, by kernel_rfl, ?_⟩
  intro q hq
  simp only [Value.cells, List.mem_cons, List.not_mem_nil, or_false] at hq
  rcases hq with rfl | rfl | rfl <;> rfl
theorem rt_mk {W' : World} {v0 : Value} {e0 b0 : Nat} {ok0 : Nat → Prop} (hF : Fr w L W) (h0 : Kd.V k86 e0 W' b0 ok0 v0 rl) (o0 : ∀ k, ok0 k → Off L k ∨ W.heap.size ≤ k) : Rt L W' (.agg #[v0, .int .i64 most, .int .i64 last]) rl most last := by
  obtain ⟨A0, c0, rfl⟩ := Kd.V_slice h0
  exact ⟨A0, c0, rfl, hF.vw h0 o0⟩
theorem new_r (a0 : Int) (hF : Fr w L W) : Calls Try.prog 18 #[.int .i64 a0] W fun e W' => ∃ v, e = .returned v ∧ Rt L W' v [] (mn (mx a0 0) 64) 0 ∧ Fr w L W' ∧ Mv L W L W' := by
  refine (cordwoodref21_New.calls a0 _ _ _ W rfl).mono ?_
  rintro e W' ⟨v0, rfl, h0, hb⟩
  exact ⟨_, rfl, rt_mk hF (Kd.R_V (base' := 0) (Kd.R_bound h0)) (fun k hk => .inr hk.2.1), hF.below hb⟩
theorem keep_r (hF : Fr w L W) (hT : Rt L W v rl most last) (hl : Vw k72 L W u l) (h : cordwoodref21_Keep.f rl most last l = some (q1, r3, r4, r5, r6)) :
    Calls Try.prog 32 #[v, u] W fun e W' => ∃ v', e = .returned (.tuple #[v', .int .i64 r5, .int .i64 r6]) ∧ Rt L W' v' q1 r3 r4 ∧ Fr w L W' ∧ Mv L W L W' := by
  obtain ⟨A0, c0, rfl, h0⟩ := hT.out
  obtain ⟨A, c, rfl, _⟩ := hl.sl
  refine (cordwoodref21_Keep.calls (Off L) A0 c0 rl most last (Off L) A c l q1 r3 r4 r5 r6 W h0.out hl.out h).mono ?_
  rintro e W' ⟨v0, rfl, g0, hb⟩
  exact ⟨_, rfl, rt_mk hF (Kd.N_V (base' := 0) g0) (fun k hk => hk.elim (fun h => .inl (h.elim id id)) .inr), hF.below hb⟩
theorem forget_r {k : Nat} {id : Int} (hF : Fr w L W) (hT : Rt L W v rl most last) (h : cordwoodref21_Forget.f k rl most last id = some (q1, r3, r4, r5)) :
    Calls Try.prog 33 #[v, .int .i64 id] W fun e W' => ∃ v', e = .returned (.tuple #[v', .int .i64 r5]) ∧ Rt L W' v' q1 r3 r4 ∧ Fr w L W' ∧ Mv L W L W' := by
  obtain ⟨A0, c0, rfl, h0⟩ := hT.out
  refine (cordwoodref21_Forget.calls k (Off L) A0 c0 rl most last id q1 r3 r4 r5 W h0.out h).mono ?_
  rintro e W' ⟨v0, rfl, g0, hb⟩
  exact ⟨_, rfl, rt_mk hF (Kd.N_V (base' := 0) g0) (fun k hk => hk.elim .inl .inr), hF.below hb⟩
theorem get_r {k : Nat} {id : Int} (hF : Fr w L W) (hT : Rt L W v rl most last) (h : cordwoodref21_Get.f k rl most last id = some (l, r6)) :
    Calls Try.prog 21 #[v, .int .i64 id] W fun e W' => ∃ v', e = .returned (.tuple #[v', .int .i64 r6]) ∧ Vw k72 L W' v' l ∧ Fr w L W' ∧ Mv L W L W' := by
  obtain ⟨A0, c0, rfl, h0⟩ := hT.out
  refine (cordwoodref21_Get.calls k (Off L) A0 c0 rl most last id l r6 W h0.out h).mono ?_
  rintro e W' ⟨v0, rfl, g0, hb⟩
  exact ⟨_, rfl, hF.vw g0 (fun k hk => hk.elim .inl .inr), hF.below hb⟩
theorem ids_r {k : Nat} {x : List Int} (hF : Fr w L W) (hT : Rt L W v rl most last) (h : cordwoodref21_IDs.f k rl most last = some x) :
    Calls Try.prog 23 #[v] W fun e W' => ∃ v', e = .returned v' ∧ Vw (Kd.int .i64) L W' v' x ∧ Fr w L W' ∧ Mv L W L W' := by
  obtain ⟨A0, c0, rfl, h0⟩ := hT.out
  refine (cordwoodref21_IDs.calls k A0 c0 rl most last x W (Kd.F_now (Kd.V_F h0.out)) (Kd.V_at h0.out).2.1 h).mono ?_
  rintro e W' ⟨v0, rfl, g0, hb⟩
  exact ⟨_, rfl, hF.vw (Kd.R_V (base' := 0) (Kd.R_bound g0)) (fun k hk => .inr hk.2.1), hF.below hb⟩
theorem Vw.t86_at {A : Option Addr} {n c : Nat} {xs : List S86} (h : Vw k86 L W (.slice A n c) xs) (i : Int) (h0 : 0 ≤ i) (h1 : i < n) :
    ∃ ad, A = some ad ∧ ∀ L' W', Mv L W L' W' → W'.cell? (ad.add (i.toNat * 2)) = some (.int .i64 (rd_T86 xs i).f0) := by
  obtain ⟨e, _, hC⟩ := Kd.V_reads' h.out
  obtain ⟨ad, _, _, rfl, _⟩ := at_T86 hC i h0 (by omega)
  refine ⟨ad, rfl, fun L' W' m => ?_⟩
  obtain ⟨ad', _, _, e', hc, _⟩ := at_T86 (Kd.V_reads' (h.mv m).out).2.2 i h0 (by omega)
  injection e' with e'
  subst e'
  exact hc
end Go.Proofs.Ytkabbahfaeeihaa.Q

/-! ref21's Oldest and theirs, walked by hand in the words of Hw and Rc. -/
namespace Go.Proofs.Ytkabbahfaeeihaa.Q
open Go.RowKit Go.Proofs.YtkabbahfaeeihaaW.PrintWords Go.Proofs.YtkabbahfaeeihaaW.PrintLast Go.Proofs.YtkabbahfaeeihaaW.PrintMore
set_option linter.unusedVariables false
set_option linter.unusedSimpArgs false
variable {w W : World} {L : List Box} {v u : Value} {rl q1 : List S86} {most last : Int} {l : List S72} {r3 r4 r5 r6 : Int}
def cordwoodref21_Oldest.f (k : Nat) (l0_0 : List (S86)) (a0_1 : Int) (a0_2 : Int) : Option ((List (S86)) × Int × Int × Int) := if (l0_0.length : Int) = 0 then (some (l0_0, a0_1, a0_2, 0)) else (if 0 < (l0_0.length : Int) then ((cordwoodref21_Forget.f k l0_0 a0_1 a0_2 ((rd_T86 l0_0 0).f0)).bind fun bt431 => (some (bt431.1, bt431.2.1, bt431.2.2.1, (rd_T86 l0_0 0).f0))) else (none))
def rO.T3 : Bool × List (List Nat × List Nat) := (true, [([], []), ([], []), ([1], [1]), ([2], [2]), ([3], [3]), ([4], [4]), ([0, 5], [0, 5]), ([6], [6]), ([7], [7]), ([7], [7]), ([], []), ([10, 8, 6, 0, 1, 2, 3, 4, 5, 6, 7, 8, 10], [8, 10]), ([9, 11, 0, 1, 2, 3, 4, 5, 6, 7, 8, 9, 10, 11], [9])])
def rO.B3 : List Nat := [0, 0, 2, 6, 14, 30, 63, 127, 255, 255, 0, 1535, 4095]
theorem rO.tab3 : rtab .any (opsOf Try.f34 3) = rO.T3 := by kernel_rfl
theorem rO.bits3 : waitsOk rO.T3.2 rO.B3 = true := by kernel_rfl
def rO.T4 : Bool × List (List Nat × List Nat) := (true, [([], []), ([], []), ([1], [1]), ([2], [2]), ([3], [3]), ([4], [4]), ([0, 0], [0]), ([5, 6, 0, 1, 2, 3, 4, 5, 6], [5])])
def rO.B4 : List Nat := [0, 0, 2, 6, 14, 30, 1, 127]
theorem rO.tab4 : rtab .any (opsOf Try.f34 4) = rO.T4 := by kernel_rfl
theorem rO.bits4 : waitsOk rO.T4.2 rO.B4 = true := by kernel_rfl
def cordwoodlaw21_theirs.f (k : Nat) (l0_0 : List (S86)) (a0_1 : Int) (a0_2 : Int) (a1_0 : Int) (a1_1 : Int) (l1_2 : List (S72)) : Option ((List (S86)) × Int × Int × Int × Int) := if (Go.bits .and .i64 a1_0 3) = 0 then ((cordwoodref21_Keep.f l0_0 a0_1 a0_2 l1_2).bind fun bt442 => (if bt442.2.2.2.2 = 0 then (some (bt442.1, bt442.2.1, bt442.2.2.1, bt442.2.2.2.1, bt442.2.2.2.2)) else (some (l0_0, a0_1, a0_2, bt442.2.2.2.1, bt442.2.2.2.2)))) else (if (Go.bits .and .i64 a1_0 3) = 1 then ((cordwoodref21_Forget.f k l0_0 a0_1 a0_2 a1_1).bind fun bt450 => (if bt450.2.2.2 = 0 then (some (bt450.1, bt450.2.1, bt450.2.2.1, 0, bt450.2.2.2)) else (some (l0_0, a0_1, a0_2, 0, bt450.2.2.2)))) else ((cordwoodref21_Oldest.f k l0_0 a0_1 a0_2).bind fun bt457 => (some (bt457.1, bt457.2.1, bt457.2.2.1, bt457.2.2.2, 0))))
set_option maxHeartbeats 8000000 in
set_option maxRecDepth 100000 in
theorem oldest_r {k : Nat} (hF : Fr w L W) (hT : Rt L W v rl most last) (h : cordwoodref21_Oldest.f k rl most last = some (q1, r3, r4, r5)) :
    Calls Try.prog 34 #[v] W fun e W' => ∃ v', e = .returned (.tuple #[v', .int .i64 r5]) ∧ Rt L W' v' q1 r3 r4 ∧ Fr w L W' ∧ Mv L W L W' := by
  obtain ⟨A0, c0, rfl, h0⟩ := hT.out
  have hu46 := Try.underlying46
  unfold cordwoodref21_Oldest.f at h
  by_cases c : (rl.length : Int) = 0
  · rw [if_pos c] at h
    simp only [Option.some.injEq, Prod.mk.injEq] at h
    obtain ⟨rfl, rfl, rfl, rfl⟩ := h
    have cb : ((rl.length : Int) == 0) = true := beq_iff_eq.mpr c
    clear c
    go_enter Try.func34, Try.ntmps34
    go_wp2_with (first | ((with_reducible refine gate_dst (N := 1) rfl ?_); refine fr_new (N := 1) (by assumption) rfl rfl ((.agg #[.slice A0 rl.length c0, .int .i64 most, .int .i64 last])) 46 hT.fits ?hr ?_; (case hr => first | (go_simp; done) | (go_simp; rfl)); intro g1 w1 F1 M1) | ((with_reducible refine gate_dst (N := 2) rfl ?_); refine fr_new (N := 2) (by assumption) rfl rfl (zero46) 46 zero46_fits ?hr ?_; (case hr => first | (go_simp; done) | (go_simp; rfl)); intro g2 w2 F2 M2) | ((with_reducible refine gate_dst (N := 7) rfl ?_); refine fr_cell (by assumption) rfl rfl rfl (by repeat (first | exact List.mem_cons_self | apply List.mem_cons_of_mem)) rfl (Try.isAgg44 _) ?_) | ((with_reducible refine gate_dst (N := 10) rfl ?_); refine fr_load (t := 46) (by assumption) rfl rfl rfl (by repeat (first | exact List.mem_cons_self | apply List.mem_cons_of_mem)) (by kernel_rfl) Try.underlying46 ?_) | ((with_reducible refine gate_store (t := 46) (p := 2) rfl ?_); refine fr_store (v := (.agg #[.slice A0 rl.length c0, .int .i64 most, .int .i64 last])) (by assumption) rfl rfl rfl rfl rfl hT.fits (by repeat (first | exact Put.here | apply Put.there)) ?_; intro w3 F3 M3))
    refine bodyPost_ret (results_ct rfl _ _ g2 46 _ (0, 0) _ rfl (F3.at List.mem_cons_self) Try.underlying46 rfl (by kernel_rfl)) rfl ?_
    have M := ((M1.trans M2).trans M3).tail.tail
    exact ⟨_, rfl, hT.mv M, F3.tail.tail, M⟩
  · have q : (0 : Int) < (rl.length : Int) := by omega
    rw [if_neg c, if_pos q] at h
    obtain ⟨⟨x1, x3, x4, e0⟩, hk, h⟩ := Option.bind_eq_some_iff.1 h
    replace h : some (x1, x3, x4, (rd_T86 rl 0).f0) = some (q1, r3, r4, r5) := h
    simp only [Option.some.injEq, Prod.mk.injEq] at h
    obtain ⟨rfl, rfl, rfl, rfl⟩ := h
    have cb : ((rl.length : Int) == 0) = false := beq_eq_false_iff_ne.mpr c
    obtain ⟨ad, rfl, hx0⟩ := h0.t86_at 0 (by decide) q
    rw [show ((0 : Int)).toNat * 2 = 0 from rfl, Addr.add_zero'] at hx0
    have p1 : ((0 : Int) ≤ 0) = True := eq_true (by decide)
    have q1' := eq_true q
    have qn : (0 < rl.length) = True := eq_true (by omega)
    clear c q
    go_enter Try.func34, Try.ntmps34
    go_wp2_with (first | ((with_reducible refine gate_dst (N := 1) rfl ?_); refine fr_new (N := 1) (by assumption) rfl rfl ((.agg #[.slice (some ad) rl.length c0, .int .i64 most, .int .i64 last])) 46 hT.fits ?hr ?_; (case hr => first | (go_simp; done) | (go_simp; rfl)); intro g1 w1 F1 M1) | ((with_reducible refine gate_dst (N := 2) rfl ?_); refine fr_new (N := 2) (by assumption) rfl rfl (zero46) 46 zero46_fits ?hr ?_; (case hr => first | (go_simp; done) | (go_simp; rfl)); intro g2 w2 F2 M2) | ((with_reducible refine gate_dst (N := 7) rfl ?_); refine fr_cell (by assumption) rfl rfl rfl (by repeat (first | exact List.mem_cons_self | apply List.mem_cons_of_mem)) rfl (Try.isAgg44 _) ?_))
    have T2 := hT.mv (M1.trans M2)
    refine start_ (n := 13) (S := Held w ((g2, zero46, 46) :: (g1, (.agg #[.slice (some ad) rl.length c0, .int .i64 most, .int .i64 last]), 46) :: L) ((g2, zero46, 46) :: (g1, (.agg #[.slice (some ad) rl.length c0, .int .i64 most, .int .i64 last]), 46) :: L) (World.drew _)) (ds := []) #[false, false, false, false, false, false, false, false, false, false, false, false, false] (by kernel_rfl) rfl rfl (Held.start F2) (fun hHeld => ?_); refine with_tabW rO.tab3 rO.bits3 (fun HT_ HW_ => ?_)
    have FD := F2.drew
    have TD := T2.mv (Mv.refl _ _).drew
    have hxd := fun L' W' m => hx0 L' W' ((M1.trans M2).trans (Mv.trans ((Mv.refl _ w2).drew) m))
    have MZ := (M1.trans M2).trans ((Mv.refl _ w2).drew)
    generalize World.drew _ = wd at FD TD hxd MZ hHeld ⊢
    refine pure_ (i := 1) (N := some 13) (v := ?_) (a' := ?_) #[false, true, false, false, false, false, false, false, false, false, false, false, false] rfl rfl (any_of HT_.out (by kernel_rfl)) (fun _ _ _ h => h) (Or.inl ⟨by rfl, ?_⟩) ?_ ?_
    rotate_left
    · intro w'
      go_simp
      with_reducible rfl
    rotate_left
    · simp only [Act.put, List.setIfInBounds_toArray, List.set_cons_zero, List.set_cons_succ, i64_w, i32_w]
      rfl
    refine take_ (i := 0) (N := some 12) (v := (.agg #[.slice (some ad) rl.length c0, .int .i64 most, .int .i64 last])) (a' := ?_) #[true, true, false, false, false, false, false, false, false, false, false, false, false] rfl rfl (take_ofW HT_.out HW_.out (by kernel_rfl)) (fun _ _ _ h => h) (Or.inl ⟨by rfl, ?_⟩) hHeld ?_ ?_
    · intro w' hS
      exact hS.run_load (t := 46) rfl rfl (.tail _ <| List.mem_cons_self) (by kernel_rfl) Try.underlying46
    rotate_left
    · simp only [Act.put, List.setIfInBounds_toArray, List.set_cons_zero, List.set_cons_succ, i64_w, i32_w]
      rfl
    refine take_ (i := 2) (N := some 14) (v := (.slice (some ad) rl.length c0)) (a' := ?_) #[true, true, true, false, false, false, false, false, false, false, false, false, false] rfl rfl (take_ofW HT_.out HW_.out (by kernel_rfl)) (fun _ _ _ h => h) (Or.inl ⟨by rfl, ?_⟩) hHeld ?_ ?_
    · intro w' hS
      exact hS.run_cell rfl rfl (.tail _ <| List.mem_cons_self) rfl (Try.isAgg44 _)
    rotate_left
    · simp only [Act.put, List.setIfInBounds_toArray, List.set_cons_zero, List.set_cons_succ, i64_w, i32_w]
      rfl
    refine pure_ (i := 3) (N := some 15) (v := ?_) (a' := ?_) #[true, true, true, true, false, false, false, false, false, false, false, false, false] rfl rfl (any_of HT_.out (by kernel_rfl)) (fun _ _ _ h => h) (Or.inl ⟨by rfl, ?_⟩) ?_ ?_
    rotate_left
    · intro w'
      go_simp
      with_reducible rfl
    rotate_left
    · simp only [Act.put, List.setIfInBounds_toArray, List.set_cons_zero, List.set_cons_succ, i64_w, i32_w]
      rfl
    refine pure_ (i := 4) (N := some 16) (v := ?_) (a' := ?_) #[true, true, true, true, true, false, false, false, false, false, false, false, false] rfl rfl (any_of HT_.out (by kernel_rfl)) (fun _ _ _ h => h) (Or.inl ⟨by rfl, ?_⟩) ?_ ?_
    rotate_left
    · intro w'
      go_simp
      with_reducible rfl
    rotate_left
    · simp only [Act.put, List.setIfInBounds_toArray, List.set_cons_zero, List.set_cons_succ, i64_w, i32_w]
      rfl
    refine take_ (i := 5) (N := some 17) (v := ?_) (a' := ?_) #[true, true, true, true, true, true, false, false, false, false, false, false, false] rfl rfl (take_ofW HT_.out HW_.out (by kernel_rfl)) (fun _ _ _ h => h) (Or.inl ⟨by rfl, ?_⟩) hHeld ?_ ?_
    rotate_left
    · intro w' hS
      obtain ⟨L_, _, hm_, _⟩ := hS.out
      have s0 := hxd _ _ hm_
      go_simp
      with_reducible rfl
    rotate_left
    · simp only [Act.put, List.setIfInBounds_toArray, List.set_cons_zero, List.set_cons_succ, i64_w, i32_w]
      rfl
    refine join_ (σ := Value × Nat) 2 #[true, true, true, true, true, true, true, true, true, true, true, false, false] (fun s_ => [(18, .tuple #[s_.1, .int .i64 e0]), (4, .pointer (some ⟨s_.2, 0, none⟩)), (11, .tuple #[s_.1, .int .i64 e0]), (19, s_.1), (20, .int .i64 e0)]) (fun s_ w' => Fr w ((s_.2, zero46, 46) :: ((g2, zero46, 46) :: (g1, (.agg #[.slice (some ad) rl.length c0, .int .i64 most, .int .i64 last]), 46) :: L)) w' ∧ Rt ((s_.2, zero46, 46) :: ((g2, zero46, 46) :: (g1, (.agg #[.slice (some ad) rl.length c0, .int .i64 most, .int .i64 last]), 46) :: L)) w' s_.1 x1 x3 x4 ∧ Mv ((g2, zero46, 46) :: (g1, (.agg #[.slice (some ad) rl.length c0, .int .i64 most, .int .i64 last]), 46) :: L) wd ((s_.2, zero46, 46) :: ((g2, zero46, 46) :: (g1, (.agg #[.slice (some ad) rl.length c0, .int .i64 most, .int .i64 last]), 46) :: L)) w') ?_ ?_
    rotate_left
    · intro hCont
      refine two_ (i := 6) (j := 10) (Ni := some 18) (Nj := some 4) #[true, true, true, true, true, true, true, false, false, false, false, false, false] #[true, true, true, true, true, true, false, false, false, false, true, false, false] rfl rfl rfl rfl (two_of HT_.out (by kernel_rfl)) (by decide) (by decide) (fun K hK => ?_) (fun K hK => ?_)
      · skip
        refine goes_ Try.func33 (by kernel_rfl) rfl #[(.agg #[.slice (some ad) rl.length c0, .int .i64 most, .int .i64 last]), .int .i64 (rd_T86 rl 0).f0] (by rfl) rfl rfl (by (try simp only [List.map_toArray, List.map_cons, List.map_nil]); first | done | rfl) ?_
        refine (forget_r (k := k) FD (TD.mv (Mv.refl _ _)) hk).mono ?_
        rintro e w9 ⟨v', rfl, T9, F9, M9⟩
        refine ⟨_, rfl, ?_⟩
        refine hK.out _ _ (Held.of F9 M9 (fun _ h => h)) (fun hHeld => ?_)
        clear hK K
        refine norm_ (a' := ?_) ?_ ?_
        rotate_left
        · show Act.put _ (some 18) _ = _
          simp only [Act.put, List.setIfInBounds_toArray, List.set_cons_zero, List.set_cons_succ, i64_w, i32_w]
          rfl
        refine pure_ (i := 7) (N := some 11) (v := ?_) (a' := ?_) #[true, true, true, true, true, true, true, true, false, false, false, false, false] rfl rfl (any_of HT_.out (by kernel_rfl)) (fun _ _ _ h => h) (Or.inl ⟨by rfl, ?_⟩) ?_ ?_
        rotate_left
        · intro w'
          go_simp
          with_reducible rfl
        rotate_left
        · simp only [Act.put, List.setIfInBounds_toArray, List.set_cons_zero, List.set_cons_succ, i64_w, i32_w]
          rfl
        refine pure_ (i := 8) (N := some 19) (v := ?_) (a' := ?_) #[true, true, true, true, true, true, true, true, true, false, false, false, false] rfl rfl (any_of HT_.out (by kernel_rfl)) (fun _ _ _ h => h) (Or.inl ⟨by rfl, ?_⟩) ?_ ?_
        rotate_left
        · intro w'
          go_simp
          with_reducible rfl
        rotate_left
        · simp only [Act.put, List.setIfInBounds_toArray, List.set_cons_zero, List.set_cons_succ, i64_w, i32_w]
          rfl
        refine pure_ (i := 9) (N := some 20) (v := ?_) (a' := ?_) #[true, true, true, true, true, true, true, true, true, true, false, false, false] rfl rfl (any_of HT_.out (by kernel_rfl)) (fun _ _ _ h => h) (Or.inl ⟨by rfl, ?_⟩) ?_ ?_
        rotate_left
        · intro w'
          go_simp
          with_reducible rfl
        rotate_left
        · simp only [Act.put, List.setIfInBounds_toArray, List.set_cons_zero, List.set_cons_succ, i64_w, i32_w]
          rfl
        refine one_ (i := 10) (N := some 4) #[true, true, true, true, true, true, true, true, true, true, true, false, false] rfl rfl (one_of HT_.out (by kernel_rfl)) (by decide) (fun K hK => ?_)
        refine box_step ?hg (N := 4) ?hd (cs := #[.slice none 0 0, .int .i64 0, .int .i64 0]) (t := 46) ?hr ?_; (case hd => rfl); (case hg => rfl); (case hr => first | (go_simp; done) | (go_simp; rfl))
        intro g8 hg w10 hbox hb
        obtain ⟨F10, M10⟩ := F9.new (v := zero46) hg hbox zero46_fits hb
        clear hg hbox hb
        refine hK.out _ _ (Held.of F10 (M9.trans M10) (fun _ h => List.mem_cons_of_mem _ h)) (fun hHeld => ?_)
        clear hK K
        refine norm_ (a' := ?_) ?_ ?_
        rotate_left
        · show Act.put _ (some 4) _ = _
          simp only [Act.put, List.setIfInBounds_toArray, List.set_cons_zero, List.set_cons_succ, i64_w, i32_w]
          rfl
        exact norm_ (by simp only [putAll, Act.put, List.setIfInBounds_toArray, List.set_cons_zero, List.set_cons_succ]) (hCont (v', g8) _ ⟨F10, T9.mv M10, M9.trans M10⟩)
      · skip
        refine box_step ?hg (N := 4) ?hd (cs := #[.slice none 0 0, .int .i64 0, .int .i64 0]) (t := 46) ?hr ?_; (case hd => rfl); (case hg => rfl); (case hr => first | (go_simp; done) | (go_simp; rfl))
        intro g8 hg w9 hbox hb
        obtain ⟨F9, M9⟩ := FD.new (v := zero46) hg hbox zero46_fits hb
        clear hg hbox hb
        refine hK.out _ _ (Held.of F9 M9 (fun _ h => List.mem_cons_of_mem _ h)) (fun hHeld => ?_)
        clear hK K
        refine norm_ (a' := ?_) ?_ ?_
        rotate_left
        · show Act.put _ (some 4) _ = _
          simp only [Act.put, List.setIfInBounds_toArray, List.set_cons_zero, List.set_cons_succ, i64_w, i32_w]
          rfl
        refine one_ (i := 6) (N := some 18) #[true, true, true, true, true, true, true, false, false, false, true, false, false] rfl rfl (one_of HT_.out (by kernel_rfl)) (by decide) (fun K hK => ?_)
        refine goes_ Try.func33 (by kernel_rfl) rfl #[(.agg #[.slice (some ad) rl.length c0, .int .i64 most, .int .i64 last]), .int .i64 (rd_T86 rl 0).f0] (by rfl) rfl rfl (by (try simp only [List.map_toArray, List.map_cons, List.map_nil]); first | done | rfl) ?_
        refine (forget_r (k := k) F9 (TD.mv M9) hk).mono ?_
        rintro e w10 ⟨v', rfl, T10, F10, M10⟩
        refine ⟨_, rfl, ?_⟩
        refine hK.out _ _ (Held.of F10 (M9.trans M10) (fun _ h => List.mem_cons_of_mem _ h)) (fun hHeld => ?_)
        clear hK K
        refine norm_ (a' := ?_) ?_ ?_
        rotate_left
        · show Act.put _ (some 18) _ = _
          simp only [Act.put, List.setIfInBounds_toArray, List.set_cons_zero, List.set_cons_succ, i64_w, i32_w]
          rfl
        refine pure_ (i := 7) (N := some 11) (v := ?_) (a' := ?_) #[true, true, true, true, true, true, true, true, false, false, true, false, false] rfl rfl (any_of HT_.out (by kernel_rfl)) (fun _ _ _ h => h) (Or.inl ⟨by rfl, ?_⟩) ?_ ?_
        rotate_left
        · intro w'
          go_simp
          with_reducible rfl
        rotate_left
        · simp only [Act.put, List.setIfInBounds_toArray, List.set_cons_zero, List.set_cons_succ, i64_w, i32_w]
          rfl
        refine pure_ (i := 8) (N := some 19) (v := ?_) (a' := ?_) #[true, true, true, true, true, true, true, true, true, false, true, false, false] rfl rfl (any_of HT_.out (by kernel_rfl)) (fun _ _ _ h => h) (Or.inl ⟨by rfl, ?_⟩) ?_ ?_
        rotate_left
        · intro w'
          go_simp
          with_reducible rfl
        rotate_left
        · simp only [Act.put, List.setIfInBounds_toArray, List.set_cons_zero, List.set_cons_succ, i64_w, i32_w]
          rfl
        refine pure_ (i := 9) (N := some 20) (v := ?_) (a' := ?_) #[true, true, true, true, true, true, true, true, true, true, true, false, false] rfl rfl (any_of HT_.out (by kernel_rfl)) (fun _ _ _ h => h) (Or.inl ⟨by rfl, ?_⟩) ?_ ?_
        rotate_left
        · intro w'
          go_simp
          with_reducible rfl
        rotate_left
        · simp only [Act.put, List.setIfInBounds_toArray, List.set_cons_zero, List.set_cons_succ, i64_w, i32_w]
          rfl
        exact norm_ (by simp only [putAll, Act.put, List.setIfInBounds_toArray, List.set_cons_zero, List.set_cons_succ]) (hCont (v', g8) _ ⟨F10, T10, M9.trans M10⟩)
    rintro ⟨v', g8⟩ w10 ⟨F10, T10, M10⟩
    have hHeld : Held w ((g2, zero46, 46) :: (g1, (.agg #[.slice (some ad) rl.length c0, .int .i64 most, .int .i64 last]), 46) :: L) ((g2, zero46, 46) :: (g1, (.agg #[.slice (some ad) rl.length c0, .int .i64 most, .int .i64 last]), 46) :: L) wd w10 := Held.of F10 M10 (fun _ h => List.mem_cons_of_mem _ h)
    refine norm_ (a' := ?_) ?_ ?_
    rotate_left
    · simp only [putAll, Act.put, List.setIfInBounds_toArray, List.set_cons_zero, List.set_cons_succ]
      rfl
    refine one_ (i := 11) (N := none) #[true, true, true, true, true, true, true, true, true, true, true, true, false] rfl rfl (one_of HT_.out (by kernel_rfl)) (by decide) (fun K hK => ?_)
    refine skip_ (by rfl) rfl (F10.run_store (v := v') rfl rfl rfl (T10.fits) Put.here) ?_
    obtain ⟨F11, M11⟩ := F10.put (v := v') (Put.here : Put _ _ _ 46 _) (T10.fits)
    generalize World.setCells _ _ _ _ = w11 at F11 M11 ⊢
    refine hK.out _ _ (Held.of F11 (M10.trans M11) (fun _ h => List.mem_cons_of_mem _ h)) (fun hHeld => ?_)
    clear hK K
    have T11 := T10.mv M11
    have M12 := M10.trans M11
    refine pure_ (i := 12) (N := some 5) (v := ?_) (a' := ?_) #[true, true, true, true, true, true, true, true, true, true, true, true, true] rfl rfl (any_of HT_.out (by kernel_rfl)) (fun _ _ _ h => h) (Or.inl ⟨by rfl, ?_⟩) ?_ ?_
    rotate_left
    · intro w'
      go_simp
      with_reducible rfl
    rotate_left
    · simp only [Act.put, List.setIfInBounds_toArray, List.set_cons_zero, List.set_cons_succ, i64_w, i32_w]
      rfl
    refine done_ (done_of HT_.out (by kernel_rfl)) ?_
    go_wp2
    refine start_ (n := 8) (S := Held w [(g8, v', 46), (g1, (.agg #[.slice (some ad) rl.length c0, .int .i64 most, .int .i64 last]), 46)] ((g8, v', 46) :: (g2, zero46, 46) :: (g1, (.agg #[.slice (some ad) rl.length c0, .int .i64 most, .int .i64 last]), 46) :: L) (World.drew _)) (ds := []) #[false, false, false, false, false, false, false, false] (by kernel_rfl) rfl rfl (Held.of F11.drew (Mv.refl _ _) (by intro b hb; simp only [List.mem_cons, List.not_mem_nil, or_false] at hb; rcases hb with rfl | rfl; exact List.mem_cons_self; exact .tail _ (.tail _ List.mem_cons_self))) (fun hHeld => ?_); refine with_tabW rO.tab4 rO.bits4 (fun HT_ HW_ => ?_)
    have FD := F11.drew
    have hxe := fun L' W' m => hxd L' W' (M12.trans (Mv.trans ((Mv.refl _ w11).drew) m))
    have TE := T11.mv (Mv.refl _ _).drew
    have ME := (M12.trans ((Mv.refl _ w11).drew))
    generalize World.drew _ = w20 at FD hxe TE ME hHeld ⊢
    refine pure_ (i := 1) (N := some 22) (v := ?_) (a' := ?_) #[false, true, false, false, false, false, false, false] rfl rfl (any_of HT_.out (by kernel_rfl)) (fun _ _ _ h => h) (Or.inl ⟨by rfl, ?_⟩) ?_ ?_
    rotate_left
    · intro w'
      go_simp
      with_reducible rfl
    rotate_left
    · simp only [Act.put, List.setIfInBounds_toArray, List.set_cons_zero, List.set_cons_succ, i64_w, i32_w]
      rfl
    refine take_ (i := 0) (N := some 21) (v := v') (a' := ?_) #[true, true, false, false, false, false, false, false] rfl rfl (take_ofW HT_.out HW_.out (by kernel_rfl)) (fun _ _ _ h => h) (Or.inl ⟨by rfl, ?_⟩) hHeld ?_ ?_
    · intro w' hS
      exact hS.run_load (t := 46) rfl rfl (List.mem_cons_self) (by kernel_rfl) Try.underlying46
    rotate_left
    · simp only [Act.put, List.setIfInBounds_toArray, List.set_cons_zero, List.set_cons_succ, i64_w, i32_w]
      rfl
    refine take_ (i := 2) (N := some 23) (v := (.slice (some ad) rl.length c0)) (a' := ?_) #[true, true, true, false, false, false, false, false] rfl rfl (take_ofW HT_.out HW_.out (by kernel_rfl)) (fun _ _ _ h => h) (Or.inl ⟨by rfl, ?_⟩) hHeld ?_ ?_
    · intro w' hS
      exact hS.run_cell rfl rfl (.tail _ <| List.mem_cons_self) rfl (Try.isAgg44 _)
    rotate_left
    · simp only [Act.put, List.setIfInBounds_toArray, List.set_cons_zero, List.set_cons_succ, i64_w, i32_w]
      rfl
    refine pure_ (i := 3) (N := some 24) (v := ?_) (a' := ?_) #[true, true, true, true, false, false, false, false] rfl rfl (any_of HT_.out (by kernel_rfl)) (fun _ _ _ h => h) (Or.inl ⟨by rfl, ?_⟩) ?_ ?_
    rotate_left
    · intro w'
      go_simp
      with_reducible rfl
    rotate_left
    · simp only [Act.put, List.setIfInBounds_toArray, List.set_cons_zero, List.set_cons_succ, i64_w, i32_w]
      rfl
    refine pure_ (i := 4) (N := some 25) (v := ?_) (a' := ?_) #[true, true, true, true, true, false, false, false] rfl rfl (any_of HT_.out (by kernel_rfl)) (fun _ _ _ h => h) (Or.inl ⟨by rfl, ?_⟩) ?_ ?_
    rotate_left
    · intro w'
      go_simp
      with_reducible rfl
    rotate_left
    · simp only [Act.put, List.setIfInBounds_toArray, List.set_cons_zero, List.set_cons_succ, i64_w, i32_w]
      rfl
    refine take_ (i := 5) (N := some 26) (v := ?_) (a' := ?_) #[true, true, true, true, true, true, false, false] rfl rfl (take_ofW HT_.out HW_.out (by kernel_rfl)) (fun _ _ _ h => h) (Or.inl ⟨by rfl, ?_⟩) hHeld ?_ ?_
    rotate_left
    · intro w' hS
      obtain ⟨L_, _, hm_, _⟩ := hS.out
      have s0 := hxe _ _ hm_
      go_simp
      with_reducible rfl
    rotate_left
    · simp only [Act.put, List.setIfInBounds_toArray, List.set_cons_zero, List.set_cons_succ, i64_w, i32_w]
      rfl
    refine one_ (i := 6) (N := none) #[true, true, true, true, true, true, true, false] rfl rfl (one_of HT_.out (by kernel_rfl)) (by decide) (fun K hK => ?_)
    refine skip_ (by rfl) rfl (FD.run_store (v := v') rfl rfl rfl (TE.fits) (Put.there Put.here)) ?_
    obtain ⟨F21, M21⟩ := FD.put (v := v') ((Put.there Put.here) : Put _ _ _ 46 _) (TE.fits)
    generalize World.setCells _ _ _ _ = w21 at F21 M21 ⊢
    refine hK.out _ _ (Held.of F21 M21 (by intro b hb; simp only [List.mem_cons, List.not_mem_nil, or_false] at hb; rcases hb with rfl | rfl; exact List.mem_cons_self; exact .tail _ (.tail _ List.mem_cons_self))) (fun hHeld => ?_)
    clear hK K
    refine pure_ (i := 7) (N := some 3) (v := ?_) (a' := ?_) #[true, true, true, true, true, true, true, true] rfl rfl (any_of HT_.out (by kernel_rfl)) (fun _ _ _ h => h) (Or.inl ⟨by rfl, ?_⟩) ?_ ?_
    rotate_left
    · intro w'
      go_simp
      with_reducible rfl
    rotate_left
    · simp only [Act.put, List.setIfInBounds_toArray, List.set_cons_zero, List.set_cons_succ, i64_w, i32_w]
      rfl
    refine done_ (done_of HT_.out (by kernel_rfl)) ?_
    go_wp2
    refine bodyPost_ret (results_ct rfl _ _ g2 46 _ (0, 0) _ rfl (F21.at (.tail _ List.mem_cons_self)) Try.underlying46 rfl (F21.fits (.tail _ List.mem_cons_self)).size) rfl ?_
    rw [(F21.fits (.tail _ List.mem_cons_self)).agg]
    exact ⟨_, rfl, TE.mv M21.tail.tail.tail, F21.tail.tail.tail, ((MZ.trans ME).trans M21).tail.tail.tail⟩

set_option maxHeartbeats 8000000 in
set_option maxRecDepth 100000 in
theorem thr_kept {k : Nat} {what I : Int} {A : Option Addr} {c : Nat} {t : List S72} (hF : Fr w L W) (hT : Rt L W v rl most last) (hl : Vw k72 L W (.slice A t.length c) t) (c0 : (Go.bits .and .i64 what 3) = 0) (hk : cordwoodref21_Keep.f rl most last t = some (q1, r3, r4, r5, 0)) :
    Calls Try.prog 20 #[v, .agg #[.int .i64 what, .int .i64 I, .slice A t.length c]] W fun e W' => ∃ v', e = .returned (.tuple #[v', .int .i64 r5, .int .i64 0]) ∧ Rt L W' v' q1 r3 r4 ∧ Fr w L W' ∧ Mv L W L W' := by
  have hu46 := Try.underlying46
  have hu50 := Try.underlying50
  have qa : ((Go.bits .and .i64 what 3) == 0) = true := beq_iff_eq.mpr c0
  have qan : ((Go.bits .and .i64 what 3) != 0) = false := bne_eq_false_iff_eq.mpr c0
  go_enter Try.func20, Try.ntmps20
  go_wp2_with (first | ((with_reducible refine gate_dst (N := 2) rfl ?_); refine fr_new (N := 2) (by assumption) rfl rfl (v) 46 hT.fits ?hr ?_; (case hr => first | (go_simp; done) | (go_simp; rfl)); intro g2 w1 F1 M1) | ((with_reducible refine gate_dst (N := 3) rfl ?_); refine fr_new (N := 3) (by assumption) rfl rfl ((.agg #[.int .i64 what, .int .i64 I, .slice A t.length c])) 50 fits50 ?hr ?_; (case hr => first | (go_simp; done) | (go_simp; rfl)); intro g3 w2 F2 M2) | ((with_reducible refine gate_dst (N := 4) rfl ?_); refine fr_new (N := 4) (by assumption) rfl rfl (zero46) 46 zero46_fits ?hr ?_; (case hr => first | (go_simp; done) | (go_simp; rfl)); intro g4 w3 F3 M3) | ((with_reducible refine gate_dst (N := 15) rfl ?_); refine fr_cell (by assumption) rfl rfl rfl (by repeat (first | exact List.mem_cons_self | apply List.mem_cons_of_mem)) rfl (Try.isAgg3 _) ?_) | ((with_reducible refine gate_dst (N := 20) rfl ?_); refine fr_load (t := 46) (by assumption) rfl rfl rfl (by repeat (first | exact List.mem_cons_self | apply List.mem_cons_of_mem)) (by kernel_rfl) Try.underlying46 ?_) | ((with_reducible refine gate_dst (N := 22) rfl ?_); refine fr_cell (by assumption) rfl rfl rfl (by repeat (first | exact List.mem_cons_self | apply List.mem_cons_of_mem)) rfl (Try.isAgg31 _) ?_) | ((with_reducible refine gate_callee (f := 32) rfl ?_); refine goesL_ (some 23) rfl rfl Try.func32 (by kernel_rfl) rfl #[v, .slice A t.length c] rfl (by (try simp only [List.map_toArray, List.map_cons, List.map_nil]); first | done | rfl) ?_; refine (keep_r F3 (hT.mv ((M1.trans M2).trans M3)) (hl.mv ((M1.trans M2).trans M3)) hk).mono ?_; rintro e w4 ⟨v', rfl, T4, F4, M4⟩; refine ⟨_, rfl, ?_⟩) | ((with_reducible refine gate_dst (N := 7) rfl ?_); refine fr_new (N := 7) (by assumption) rfl rfl (zero46) 46 zero46_fits ?hr ?_; (case hr => first | (go_simp; done) | (go_simp; rfl)); intro g7 w5 F5 M5) | ((with_reducible refine gate_store (t := 46) (p := 7) rfl ?_); refine fr_store (v := v') (by assumption) rfl rfl rfl rfl rfl T4.fits (by repeat (first | exact Put.here | apply Put.there)) ?_; intro w6 F6 M6) | ((with_reducible refine gate_dst (N := 32) rfl ?_); refine fr_load (t := 46) (by assumption) rfl rfl rfl (by repeat (first | exact List.mem_cons_self | apply List.mem_cons_of_mem)) (by kernel_rfl) Try.underlying46 ?_) | ((with_reducible refine gate_store (t := 46) (p := 4) rfl ?_); refine fr_store (v := v') (by assumption) rfl rfl rfl rfl rfl T4.fits (by repeat (first | exact Put.here | apply Put.there)) ?_; intro w7 F7 M7))
  refine bodyPost_ret (results_ctt rfl _ _ g4 46 _ (0, 0) _ rfl (F7.at (.tail _ <| List.mem_cons_self)) Try.underlying46 rfl (F7.fits (.tail _ <| List.mem_cons_self)).size) rfl ?_
  rw [(F7.fits (.tail _ <| List.mem_cons_self)).agg]
  exact ⟨_, rfl, T4.mv ((M5.trans M6).trans M7).tail.tail.tail.tail, F7.tail.tail.tail.tail, ((((((M1.trans M2).trans M3).trans M4).trans M5).trans M6).trans M7).tail.tail.tail.tail⟩

set_option maxHeartbeats 8000000 in
set_option maxRecDepth 100000 in
theorem thr_full {k : Nat} {what I : Int} {A : Option Addr} {c : Nat} {t : List S72} (hF : Fr w L W) (hT : Rt L W v rl most last) (hl : Vw k72 L W (.slice A t.length c) t) (c0 : (Go.bits .and .i64 what 3) = 0) {x6 : Int} (ce : ¬ x6 = 0) {y1 : List S86} {y3 y4 : Int} (hk : cordwoodref21_Keep.f rl most last t = some (y1, y3, y4, r5, x6)) :
    Calls Try.prog 20 #[v, .agg #[.int .i64 what, .int .i64 I, .slice A t.length c]] W fun e W' => ∃ v', e = .returned (.tuple #[v', .int .i64 r5, .int .i64 x6]) ∧ Rt L W' v' rl most last ∧ Fr w L W' ∧ Mv L W L W' := by
  have hu46 := Try.underlying46
  have hu50 := Try.underlying50
  have qa : ((Go.bits .and .i64 what 3) == 0) = true := beq_iff_eq.mpr c0
  have qan : ((Go.bits .and .i64 what 3) != 0) = false := bne_eq_false_iff_eq.mpr c0
  have qe : (x6 == 0) = false := beq_eq_false_iff_ne.mpr ce
  have qen : (x6 != 0) = true := bne_iff_ne.mpr ce
  go_enter Try.func20, Try.ntmps20
  go_wp2_with (first | ((with_reducible refine gate_dst (N := 2) rfl ?_); refine fr_new (N := 2) (by assumption) rfl rfl (v) 46 hT.fits ?hr ?_; (case hr => first | (go_simp; done) | (go_simp; rfl)); intro g2 w1 F1 M1) | ((with_reducible refine gate_dst (N := 3) rfl ?_); refine fr_new (N := 3) (by assumption) rfl rfl ((.agg #[.int .i64 what, .int .i64 I, .slice A t.length c])) 50 fits50 ?hr ?_; (case hr => first | (go_simp; done) | (go_simp; rfl)); intro g3 w2 F2 M2) | ((with_reducible refine gate_dst (N := 4) rfl ?_); refine fr_new (N := 4) (by assumption) rfl rfl (zero46) 46 zero46_fits ?hr ?_; (case hr => first | (go_simp; done) | (go_simp; rfl)); intro g4 w3 F3 M3) | ((with_reducible refine gate_dst (N := 15) rfl ?_); refine fr_cell (by assumption) rfl rfl rfl (by repeat (first | exact List.mem_cons_self | apply List.mem_cons_of_mem)) rfl (Try.isAgg3 _) ?_) | ((with_reducible refine gate_dst (N := 20) rfl ?_); refine fr_load (t := 46) (by assumption) rfl rfl rfl (by repeat (first | exact List.mem_cons_self | apply List.mem_cons_of_mem)) (by kernel_rfl) Try.underlying46 ?_) | ((with_reducible refine gate_dst (N := 22) rfl ?_); refine fr_cell (by assumption) rfl rfl rfl (by repeat (first | exact List.mem_cons_self | apply List.mem_cons_of_mem)) rfl (Try.isAgg31 _) ?_) | ((with_reducible refine gate_callee (f := 32) rfl ?_); refine goesL_ (some 23) rfl rfl Try.func32 (by kernel_rfl) rfl #[v, .slice A t.length c] rfl (by (try simp only [List.map_toArray, List.map_cons, List.map_nil]); first | done | rfl) ?_; refine (keep_r F3 (hT.mv ((M1.trans M2).trans M3)) (hl.mv ((M1.trans M2).trans M3)) hk).mono ?_; rintro e w4 ⟨v', rfl, T4, F4, M4⟩; refine ⟨_, rfl, ?_⟩) | ((with_reducible refine gate_dst (N := 7) rfl ?_); refine fr_new (N := 7) (by assumption) rfl rfl (zero46) 46 zero46_fits ?hr ?_; (case hr => first | (go_simp; done) | (go_simp; rfl)); intro g7 w5 F5 M5) | ((with_reducible refine gate_store (t := 46) (p := 7) rfl ?_); refine fr_store (v := v') (by assumption) rfl rfl rfl rfl rfl T4.fits (by repeat (first | exact Put.here | apply Put.there)) ?_; intro w6 F6 M6) | ((with_reducible refine gate_dst (N := 29) rfl ?_); refine fr_load (t := 46) (by assumption) rfl rfl rfl (by repeat (first | exact List.mem_cons_self | apply List.mem_cons_of_mem)) (by kernel_rfl) Try.underlying46 ?_) | ((with_reducible refine gate_store (t := 46) (p := 4) rfl ?_); refine fr_store (v := v) (by assumption) rfl rfl rfl rfl rfl hT.fits (by repeat (first | exact Put.here | apply Put.there)) ?_; intro w7 F7 M7))
  refine bodyPost_ret (results_ctt rfl _ _ g4 46 _ (0, 0) _ rfl (F7.at (.tail _ <| List.mem_cons_self)) Try.underlying46 rfl (F7.fits (.tail _ <| List.mem_cons_self)).size) rfl ?_
  rw [(F7.fits (.tail _ <| List.mem_cons_self)).agg]
  exact ⟨_, rfl, hT.mv ((((((M1.trans M2).trans M3).trans M4).trans M5).trans M6).trans M7).tail.tail.tail.tail, F7.tail.tail.tail.tail, ((((((M1.trans M2).trans M3).trans M4).trans M5).trans M6).trans M7).tail.tail.tail.tail⟩

set_option maxHeartbeats 8000000 in
set_option maxRecDepth 100000 in
theorem thr_gone {k : Nat} {what I : Int} {A : Option Addr} {c : Nat} {t : List S72} (hF : Fr w L W) (hT : Rt L W v rl most last) (hl : Vw k72 L W (.slice A t.length c) t) (c0 : ¬ (Go.bits .and .i64 what 3) = 0) (c1 : (Go.bits .and .i64 what 3) = 1) (hk : cordwoodref21_Forget.f k rl most last I = some (q1, r3, r4, 0)) :
    Calls Try.prog 20 #[v, .agg #[.int .i64 what, .int .i64 I, .slice A t.length c]] W fun e W' => ∃ v', e = .returned (.tuple #[v', .int .i64 0, .int .i64 0]) ∧ Rt L W' v' q1 r3 r4 ∧ Fr w L W' ∧ Mv L W L W' := by
  have hu46 := Try.underlying46
  have hu50 := Try.underlying50
  have qa : ((Go.bits .and .i64 what 3) == 0) = false := beq_eq_false_iff_ne.mpr c0
  have qan : ((Go.bits .and .i64 what 3) != 0) = true := bne_iff_ne.mpr c0
  have qb : ((Go.bits .and .i64 what 3) == 1) = true := beq_iff_eq.mpr c1
  have qbn : ((Go.bits .and .i64 what 3) != 1) = false := bne_eq_false_iff_eq.mpr c1
  go_enter Try.func20, Try.ntmps20
  go_wp2_with (first | ((with_reducible refine gate_dst (N := 2) rfl ?_); refine fr_new (N := 2) (by assumption) rfl rfl (v) 46 hT.fits ?hr ?_; (case hr => first | (go_simp; done) | (go_simp; rfl)); intro g2 w1 F1 M1) | ((with_reducible refine gate_dst (N := 3) rfl ?_); refine fr_new (N := 3) (by assumption) rfl rfl ((.agg #[.int .i64 what, .int .i64 I, .slice A t.length c])) 50 fits50 ?hr ?_; (case hr => first | (go_simp; done) | (go_simp; rfl)); intro g3 w2 F2 M2) | ((with_reducible refine gate_dst (N := 4) rfl ?_); refine fr_new (N := 4) (by assumption) rfl rfl (zero46) 46 zero46_fits ?hr ?_; (case hr => first | (go_simp; done) | (go_simp; rfl)); intro g4 w3 F3 M3) | ((with_reducible refine gate_dst (N := 15) rfl ?_); refine fr_cell (by assumption) rfl rfl rfl (by repeat (first | exact List.mem_cons_self | apply List.mem_cons_of_mem)) rfl (Try.isAgg3 _) ?_) | ((with_reducible refine gate_dst (N := 38) rfl ?_); refine fr_load (t := 46) (by assumption) rfl rfl rfl (by repeat (first | exact List.mem_cons_self | apply List.mem_cons_of_mem)) (by kernel_rfl) Try.underlying46 ?_) | ((with_reducible refine gate_dst (N := 40) rfl ?_); refine fr_cell (by assumption) rfl rfl rfl (by repeat (first | exact List.mem_cons_self | apply List.mem_cons_of_mem)) rfl (Try.isAgg3 _) ?_) | ((with_reducible refine gate_callee (f := 33) rfl ?_); refine goesL_ (some 41) rfl rfl Try.func33 (by kernel_rfl) rfl #[v, .int .i64 I] rfl (by (try simp only [List.map_toArray, List.map_cons, List.map_nil]); first | done | rfl) ?_; refine (forget_r F3 (hT.mv ((M1.trans M2).trans M3)) hk).mono ?_; rintro e w4 ⟨v', rfl, T4, F4, M4⟩; refine ⟨_, rfl, ?_⟩) | ((with_reducible refine gate_dst (N := 10) rfl ?_); refine fr_new (N := 10) (by assumption) rfl rfl (zero46) 46 zero46_fits ?hr ?_; (case hr => first | (go_simp; done) | (go_simp; rfl)); intro g7 w5 F5 M5) | ((with_reducible refine gate_store (t := 46) (p := 10) rfl ?_); refine fr_store (v := v') (by assumption) rfl rfl rfl rfl rfl T4.fits (by repeat (first | exact Put.here | apply Put.there)) ?_; intro w6 F6 M6) | ((with_reducible refine gate_dst (N := 48) rfl ?_); refine fr_load (t := 46) (by assumption) rfl rfl rfl (by repeat (first | exact List.mem_cons_self | apply List.mem_cons_of_mem)) (by kernel_rfl) Try.underlying46 ?_) | ((with_reducible refine gate_store (t := 46) (p := 4) rfl ?_); refine fr_store (v := v') (by assumption) rfl rfl rfl rfl rfl T4.fits (by repeat (first | exact Put.here | apply Put.there)) ?_; intro w7 F7 M7))
  refine bodyPost_ret (results_ctt rfl _ _ g4 46 _ (0, 0) _ rfl (F7.at (.tail _ <| List.mem_cons_self)) Try.underlying46 rfl (F7.fits (.tail _ <| List.mem_cons_self)).size) rfl ?_
  rw [(F7.fits (.tail _ <| List.mem_cons_self)).agg]
  exact ⟨_, rfl, T4.mv ((M5.trans M6).trans M7).tail.tail.tail.tail, F7.tail.tail.tail.tail, ((((((M1.trans M2).trans M3).trans M4).trans M5).trans M6).trans M7).tail.tail.tail.tail⟩

set_option maxHeartbeats 8000000 in
set_option maxRecDepth 100000 in
theorem thr_none {k : Nat} {what I : Int} {A : Option Addr} {c : Nat} {t : List S72} (hF : Fr w L W) (hT : Rt L W v rl most last) (hl : Vw k72 L W (.slice A t.length c) t) (c0 : ¬ (Go.bits .and .i64 what 3) = 0) (c1 : (Go.bits .and .i64 what 3) = 1) {x6 : Int} (ce : ¬ x6 = 0) {y1 : List S86} {y3 y4 : Int} (hk : cordwoodref21_Forget.f k rl most last I = some (y1, y3, y4, x6)) :
    Calls Try.prog 20 #[v, .agg #[.int .i64 what, .int .i64 I, .slice A t.length c]] W fun e W' => ∃ v', e = .returned (.tuple #[v', .int .i64 0, .int .i64 x6]) ∧ Rt L W' v' rl most last ∧ Fr w L W' ∧ Mv L W L W' := by
  have hu46 := Try.underlying46
  have hu50 := Try.underlying50
  have qa : ((Go.bits .and .i64 what 3) == 0) = false := beq_eq_false_iff_ne.mpr c0
  have qan : ((Go.bits .and .i64 what 3) != 0) = true := bne_iff_ne.mpr c0
  have qb : ((Go.bits .and .i64 what 3) == 1) = true := beq_iff_eq.mpr c1
  have qbn : ((Go.bits .and .i64 what 3) != 1) = false := bne_eq_false_iff_eq.mpr c1
  have qe : (x6 == 0) = false := beq_eq_false_iff_ne.mpr ce
  have qen : (x6 != 0) = true := bne_iff_ne.mpr ce
  go_enter Try.func20, Try.ntmps20
  go_wp2_with (first | ((with_reducible refine gate_dst (N := 2) rfl ?_); refine fr_new (N := 2) (by assumption) rfl rfl (v) 46 hT.fits ?hr ?_; (case hr => first | (go_simp; done) | (go_simp; rfl)); intro g2 w1 F1 M1) | ((with_reducible refine gate_dst (N := 3) rfl ?_); refine fr_new (N := 3) (by assumption) rfl rfl ((.agg #[.int .i64 what, .int .i64 I, .slice A t.length c])) 50 fits50 ?hr ?_; (case hr => first | (go_simp; done) | (go_simp; rfl)); intro g3 w2 F2 M2) | ((with_reducible refine gate_dst (N := 4) rfl ?_); refine fr_new (N := 4) (by assumption) rfl rfl (zero46) 46 zero46_fits ?hr ?_; (case hr => first | (go_simp; done) | (go_simp; rfl)); intro g4 w3 F3 M3) | ((with_reducible refine gate_dst (N := 15) rfl ?_); refine fr_cell (by assumption) rfl rfl rfl (by repeat (first | exact List.mem_cons_self | apply List.mem_cons_of_mem)) rfl (Try.isAgg3 _) ?_) | ((with_reducible refine gate_dst (N := 38) rfl ?_); refine fr_load (t := 46) (by assumption) rfl rfl rfl (by repeat (first | exact List.mem_cons_self | apply List.mem_cons_of_mem)) (by kernel_rfl) Try.underlying46 ?_) | ((with_reducible refine gate_dst (N := 40) rfl ?_); refine fr_cell (by assumption) rfl rfl rfl (by repeat (first | exact List.mem_cons_self | apply List.mem_cons_of_mem)) rfl (Try.isAgg3 _) ?_) | ((with_reducible refine gate_callee (f := 33) rfl ?_); refine goesL_ (some 41) rfl rfl Try.func33 (by kernel_rfl) rfl #[v, .int .i64 I] rfl (by (try simp only [List.map_toArray, List.map_cons, List.map_nil]); first | done | rfl) ?_; refine (forget_r F3 (hT.mv ((M1.trans M2).trans M3)) hk).mono ?_; rintro e w4 ⟨v', rfl, T4, F4, M4⟩; refine ⟨_, rfl, ?_⟩) | ((with_reducible refine gate_dst (N := 10) rfl ?_); refine fr_new (N := 10) (by assumption) rfl rfl (zero46) 46 zero46_fits ?hr ?_; (case hr => first | (go_simp; done) | (go_simp; rfl)); intro g7 w5 F5 M5) | ((with_reducible refine gate_store (t := 46) (p := 10) rfl ?_); refine fr_store (v := v') (by assumption) rfl rfl rfl rfl rfl T4.fits (by repeat (first | exact Put.here | apply Put.there)) ?_; intro w6 F6 M6) | ((with_reducible refine gate_dst (N := 46) rfl ?_); refine fr_load (t := 46) (by assumption) rfl rfl rfl (by repeat (first | exact List.mem_cons_self | apply List.mem_cons_of_mem)) (by kernel_rfl) Try.underlying46 ?_) | ((with_reducible refine gate_store (t := 46) (p := 4) rfl ?_); refine fr_store (v := v) (by assumption) rfl rfl rfl rfl rfl hT.fits (by repeat (first | exact Put.here | apply Put.there)) ?_; intro w7 F7 M7))
  refine bodyPost_ret (results_ctt rfl _ _ g4 46 _ (0, 0) _ rfl (F7.at (.tail _ <| List.mem_cons_self)) Try.underlying46 rfl (F7.fits (.tail _ <| List.mem_cons_self)).size) rfl ?_
  rw [(F7.fits (.tail _ <| List.mem_cons_self)).agg]
  exact ⟨_, rfl, hT.mv ((((((M1.trans M2).trans M3).trans M4).trans M5).trans M6).trans M7).tail.tail.tail.tail, F7.tail.tail.tail.tail, ((((((M1.trans M2).trans M3).trans M4).trans M5).trans M6).trans M7).tail.tail.tail.tail⟩

set_option maxHeartbeats 8000000 in
set_option maxRecDepth 100000 in
theorem thr_old {k : Nat} {what I : Int} {A : Option Addr} {c : Nat} {t : List S72} (hF : Fr w L W) (hT : Rt L W v rl most last) (hl : Vw k72 L W (.slice A t.length c) t) (c0 : ¬ (Go.bits .and .i64 what 3) = 0) (c1 : ¬ (Go.bits .and .i64 what 3) = 1) (hk : cordwoodref21_Oldest.f k rl most last = some (q1, r3, r4, r5)) :
    Calls Try.prog 20 #[v, .agg #[.int .i64 what, .int .i64 I, .slice A t.length c]] W fun e W' => ∃ v', e = .returned (.tuple #[v', .int .i64 r5, .int .i64 0]) ∧ Rt L W' v' q1 r3 r4 ∧ Fr w L W' ∧ Mv L W L W' := by
  have hu46 := Try.underlying46
  have hu50 := Try.underlying50
  have qa : ((Go.bits .and .i64 what 3) == 0) = false := beq_eq_false_iff_ne.mpr c0
  have qan : ((Go.bits .and .i64 what 3) != 0) = true := bne_iff_ne.mpr c0
  have qb : ((Go.bits .and .i64 what 3) == 1) = false := beq_eq_false_iff_ne.mpr c1
  have qbn : ((Go.bits .and .i64 what 3) != 1) = true := bne_iff_ne.mpr c1
  go_enter Try.func20, Try.ntmps20
  go_wp2_with (first | ((with_reducible refine gate_dst (N := 2) rfl ?_); refine fr_new (N := 2) (by assumption) rfl rfl (v) 46 hT.fits ?hr ?_; (case hr => first | (go_simp; done) | (go_simp; rfl)); intro g2 w1 F1 M1) | ((with_reducible refine gate_dst (N := 3) rfl ?_); refine fr_new (N := 3) (by assumption) rfl rfl ((.agg #[.int .i64 what, .int .i64 I, .slice A t.length c])) 50 fits50 ?hr ?_; (case hr => first | (go_simp; done) | (go_simp; rfl)); intro g3 w2 F2 M2) | ((with_reducible refine gate_dst (N := 4) rfl ?_); refine fr_new (N := 4) (by assumption) rfl rfl (zero46) 46 zero46_fits ?hr ?_; (case hr => first | (go_simp; done) | (go_simp; rfl)); intro g4 w3 F3 M3) | ((with_reducible refine gate_dst (N := 15) rfl ?_); refine fr_cell (by assumption) rfl rfl rfl (by repeat (first | exact List.mem_cons_self | apply List.mem_cons_of_mem)) rfl (Try.isAgg3 _) ?_) | ((with_reducible refine gate_dst (N := 51) rfl ?_); refine fr_load (t := 46) (by assumption) rfl rfl rfl (by repeat (first | exact List.mem_cons_self | apply List.mem_cons_of_mem)) (by kernel_rfl) Try.underlying46 ?_) | ((with_reducible refine gate_callee (f := 34) rfl ?_); refine goesL_ (some 52) rfl rfl Try.func34 (by kernel_rfl) rfl #[v] rfl (by (try simp only [List.map_toArray, List.map_cons, List.map_nil]); first | done | rfl) ?_; refine (oldest_r (k := k) F3 (hT.mv ((M1.trans M2).trans M3)) hk).mono ?_; rintro e w4 ⟨v', rfl, T4, F4, M4⟩; refine ⟨_, rfl, ?_⟩) | ((with_reducible refine gate_dst (N := 12) rfl ?_); refine fr_new (N := 12) (by assumption) rfl rfl (zero46) 46 zero46_fits ?hr ?_; (case hr => first | (go_simp; done) | (go_simp; rfl)); intro g7 w5 F5 M5) | ((with_reducible refine gate_store (t := 46) (p := 12) rfl ?_); refine fr_store (v := v') (by assumption) rfl rfl rfl rfl rfl T4.fits (by repeat (first | exact Put.here | apply Put.there)) ?_; intro w6 F6 M6) | ((with_reducible refine gate_dst (N := 55) rfl ?_); refine fr_load (t := 46) (by assumption) rfl rfl rfl (by repeat (first | exact List.mem_cons_self | apply List.mem_cons_of_mem)) (by kernel_rfl) Try.underlying46 ?_) | ((with_reducible refine gate_store (t := 46) (p := 4) rfl ?_); refine fr_store (v := v') (by assumption) rfl rfl rfl rfl rfl T4.fits (by repeat (first | exact Put.here | apply Put.there)) ?_; intro w7 F7 M7))
  refine bodyPost_ret (results_ctt rfl _ _ g4 46 _ (0, 0) _ rfl (F7.at (.tail _ <| List.mem_cons_self)) Try.underlying46 rfl (F7.fits (.tail _ <| List.mem_cons_self)).size) rfl ?_
  rw [(F7.fits (.tail _ <| List.mem_cons_self)).agg]
  exact ⟨_, rfl, T4.mv ((M5.trans M6).trans M7).tail.tail.tail.tail, F7.tail.tail.tail.tail, ((((((M1.trans M2).trans M3).trans M4).trans M5).trans M6).trans M7).tail.tail.tail.tail⟩

theorem theirs_c {k : Nat} {what I : Int} {A : Option Addr} {c : Nat} {t : List S72} (hF : Fr w L W) (hT : Rt L W v rl most last) (hl : Vw k72 L W (.slice A t.length c) t) (h : cordwoodlaw21_theirs.f k rl most last what I t = some (q1, r3, r4, r5, r6)) :
    Calls Try.prog 20 #[v, .agg #[.int .i64 what, .int .i64 I, .slice A t.length c]] W fun e W' => ∃ v', e = .returned (.tuple #[v', .int .i64 r5, .int .i64 r6]) ∧ Rt L W' v' q1 r3 r4 ∧ Fr w L W' ∧ Mv L W L W' := by
  unfold cordwoodlaw21_theirs.f at h
  by_cases c0 : (Go.bits .and .i64 what 3) = 0
  · rw [if_pos c0] at h
    obtain ⟨⟨y1, y3, y4, y5, y6⟩, hk, h⟩ := Option.bind_eq_some_iff.1 h
    replace h : (if y6 = 0 then some (y1, y3, y4, y5, y6) else some (rl, most, last, y5, y6)) = some (q1, r3, r4, r5, r6) := h
    by_cases ce : y6 = 0
    · rw [if_pos ce] at h
      simp only [Option.some.injEq, Prod.mk.injEq] at h
      obtain ⟨rfl, rfl, rfl, rfl, rfl⟩ := h
      subst ce
      exact thr_kept (k := k) hF hT hl c0 hk
    · rw [if_neg ce] at h
      simp only [Option.some.injEq, Prod.mk.injEq] at h
      obtain ⟨rfl, rfl, rfl, rfl, rfl⟩ := h
      exact thr_full (k := k) hF hT hl c0 ce hk
  · rw [if_neg c0] at h
    by_cases c1 : (Go.bits .and .i64 what 3) = 1
    · rw [if_pos c1] at h
      obtain ⟨⟨y1, y3, y4, y6⟩, hk, h⟩ := Option.bind_eq_some_iff.1 h
      replace h : (if y6 = 0 then some (y1, y3, y4, 0, y6) else some (rl, most, last, 0, y6)) = some (q1, r3, r4, r5, r6) := h
      by_cases ce : y6 = 0
      · rw [if_pos ce] at h
        simp only [Option.some.injEq, Prod.mk.injEq] at h
        obtain ⟨rfl, rfl, rfl, rfl, rfl⟩ := h
        subst ce
        exact thr_gone hF hT hl c0 c1 hk
      · rw [if_neg ce] at h
        simp only [Option.some.injEq, Prod.mk.injEq] at h
        obtain ⟨rfl, rfl, rfl, rfl, rfl⟩ := h
        exact thr_none hF hT hl c0 c1 ce hk
    · rw [if_neg c1] at h
      obtain ⟨⟨y1, y3, y4, y5⟩, hk, h⟩ := Option.bind_eq_some_iff.1 h
      replace h : some (y1, y3, y4, y5, (0 : Int)) = some (q1, r3, r4, r5, r6) := h
      simp only [Option.some.injEq, Prod.mk.injEq] at h
      obtain ⟨rfl, rfl, rfl, rfl, rfl⟩ := h
      exact thr_old (k := k) hF hT hl c0 c1 hk

end Go.Proofs.Ytkabbahfaeeihaa.Q

/-! What the document's table (ref21) answers, in plain lists: as the table's, for the same numbers and rows. -/
namespace Go.Proofs.Ytkabbahfaeeihaa.Q
open Go.RowKit Go.Proofs.YtkabbahfaeeihaaW.PrintWords Go.Proofs.YtkabbahfaeeihaaW.PrintLast Go.Proofs.YtkabbahfaeeihaaW.PrintMore

/-- The document's row of what is kept. -/
def zp (ids : List Int) (rows : List (List S72)) : List S86 := List.zipWith S86.mk ids rows
theorem zp_len {ids : List Int} {rows : List (List S72)} (hl : ids.length = rows.length) : (zp ids rows).length = ids.length := by simp [zp, hl]
theorem zp_at {ids : List Int} {rows : List (List S72)} (hl : ids.length = rows.length) {p : Nat} (hp : p < ids.length) : rd_T86 (zp ids rows) (p : Int) = ⟨rd ids (p : Int), rd_L7 rows (p : Int)⟩ := by
  have hp2 : p < rows.length := by omega
  simp [rd_T86, zp, rd, rd_L7, hp, hp2]
  rw [List.getElem?_eq_getElem (by simp; omega)]
  simp
theorem zp_add {ids : List Int} {rows : List (List S72)} (hl : ids.length = rows.length) (a : Int) (t : List S72) : zp (ids ++ [a]) (rows ++ [t]) = zp ids rows ++ [⟨a, t⟩] := by
  simp [zp, List.zipWith_append hl]
theorem zp_cut {ids : List Int} {rows : List (List S72)} (hl : ids.length = rows.length) (p : Nat) : zp (ids.take p ++ ids.drop (p + 1)) (rows.take p ++ rows.drop (p + 1)) = (zp ids rows).take p ++ (zp ids rows).drop (p + 1) := by
  rw [zp, List.zipWith_append (by simp [hl])]
  simp [zp, List.take_zipWith, List.drop_zipWith]
theorem place_ev {ids : List Int} {rows : List (List S72)} (hl : ids.length = rows.length) (hs : ids.length ≤ 1000) (most last a : Int) : ∀ (m i : Nat), m + i = ids.length →
    ∃ r, Ev (fun k => cordwoodref21_place.l0 k a (i : Int) (zp ids rows) most last) r ∧ ((r = -1 ∧ ∀ j, i ≤ j → ids[j]? ≠ some a) ∨ ∃ p : Nat, r = p ∧ i ≤ p ∧ ids[p]? = some a)
  | 0, i, h => ⟨-1, Ev.step (fun k => by rw [cordwoodref21_place.l0, zp_len hl, if_neg (by omega)]) (Ev.const _), .inl ⟨rfl, fun j hj => by rw [List.getElem?_eq_none (by omega)]; simp⟩⟩
  | m + 1, i, h => by
    have hi : i < ids.length := by omega
    have hw := wrap_inc hi (by omega)
    by_cases c : ids[i] = a
    · exact ⟨i, Ev.step (fun k => by rw [cordwoodref21_place.l0, zp_len hl, if_pos (by omega), if_pos (by omega), zp_at hl hi, if_pos (by rw [rd_at hi]; exact c)]) (Ev.const _), .inr ⟨i, rfl, Nat.le_refl _, by rw [List.getElem?_eq_getElem hi, c]⟩⟩
    · obtain ⟨r, he, hr⟩ := place_ev hl hs most last a m (i + 1) (by omega)
      refine ⟨r, Ev.step (fun k => by rw [cordwoodref21_place.l0, zp_len hl, if_pos (by omega), if_pos (by omega), zp_at hl hi, if_neg (by rw [rd_at hi]; exact c), hw]) he, ?_⟩
      rcases hr with ⟨h1, h2⟩ | ⟨p, h1, h2, h3⟩
      · refine .inl ⟨h1, fun j hj => ?_⟩
        by_cases cj : j = i
        · subst cj
          rw [List.getElem?_eq_getElem hi]
          intro he
          exact c (Option.some.inj he)
        · exact h2 j (by omega)
      · exact .inr ⟨p, h1, by omega, h3⟩
section
variable {ids : List Int} {rows : List (List S72)} {room last : Int}
theorem rkeep_some (t : List S72) (hl : ids.length = rows.length) (h : ids.length ≤ 1000) (h0 : 0 ≤ last) (h1 : last ≤ 1000) (hr : (ids.length : Int) < room) :
    cordwoodref21_Keep.f (zp ids rows) room last t = some (zp (ids ++ [last + 1]) (rows ++ [t]), room, last + 1, last + 1, 0) := by
  have hw : wrap64 (last + 1) = last + 1 := wrap64_small (by omega) (by omega)
  have hz := zp_len hl
  rw [cordwoodref21_Keep.f, hz, if_neg (by omega), hw, zp_add hl]
  simp only [Option.bind_some, List.nil_append, List.length_nil, hz]
  rw [if_pos (by omega), if_pos (by omega)]
theorem rkeep_none (t : List S72) (hl : ids.length = rows.length) (hr : ¬ (ids.length : Int) < room) : cordwoodref21_Keep.f (zp ids rows) room last t = some ([], 0, 0, 0, 10) := by
  rw [cordwoodref21_Keep.f, zp_len hl, if_pos (by omega)]
theorem rforget_at (hl : ids.length = rows.length) (h : ids.length ≤ 1000) {id : Int} {p : Nat} (hp : ids[p]? = some id) (hu : ∀ q, ids[q]? = some id → q = p) :
    Ev (fun k => cordwoodref21_Forget.f k (zp ids rows) room last id) (zp (ids.take p ++ ids.drop (p + 1)) (rows.take p ++ rows.drop (p + 1)), room, last, 0) := by
  obtain ⟨r, ⟨k0, hk⟩, hr⟩ := place_ev hl h room last id ids.length 0 (by omega)
  have hidx : ∀ k, k0 ≤ k → cordwoodref21_place.f k (zp ids rows) room last id = some r := hk
  have hpl : p < ids.length := (List.getElem?_eq_some_iff.1 hp).1
  have hz := zp_len hl
  have hw := wrap_inc hpl (by omega)
  rcases hr with ⟨rfl, hn⟩ | ⟨q, rfl, _, hq⟩
  · exact absurd hp (hn p (by omega))
  · obtain rfl := hu q hq
    refine ⟨k0, fun k hle => ?_⟩
    show cordwoodref21_Forget.f k (zp ids rows) room last id = _
    rw [cordwoodref21_Forget.f, hidx k hle, Option.bind_some, if_neg (by omega), zp_cut hl]
    simp only [Option.bind_some, List.nil_append, List.length_nil, hw, hz]
    rw [if_pos (by omega), if_pos (by omega), if_pos (by simp [hz]; omega), if_pos (by omega), if_pos (by omega), if_pos (by simp [hz]; omega)]
    simp
theorem rforget_none (hl : ids.length = rows.length) (h : ids.length ≤ 1000) {id : Int} (hn : ∀ j : Nat, ids[j]? ≠ some id) : Ev (fun k => cordwoodref21_Forget.f k (zp ids rows) room last id) ([], 0, 0, 13) := by
  obtain ⟨r, ⟨k0, hk⟩, hr⟩ := place_ev hl h room last id ids.length 0 (by omega)
  have hidx : ∀ k, k0 ≤ k → cordwoodref21_place.f k (zp ids rows) room last id = some r := hk
  rcases hr with ⟨rfl, _⟩ | ⟨q, rfl, _, hq⟩
  · refine ⟨k0, fun k hle => ?_⟩
    show cordwoodref21_Forget.f k (zp ids rows) room last id = _
    rw [cordwoodref21_Forget.f, hidx k hle, Option.bind_some, if_pos (by omega)]
  · exact absurd hq (hn q)
theorem rget_at (hl : ids.length = rows.length) (h : ids.length ≤ 1000) {id : Int} {p : Nat} (hp : ids[p]? = some id) (hu : ∀ q, ids[q]? = some id → q = p) :
    Ev (fun k => cordwoodref21_Get.f k (zp ids rows) room last id) (rd_L7 rows (p : Int), 0) := by
  obtain ⟨r, ⟨k0, hk⟩, hr⟩ := place_ev hl h room last id ids.length 0 (by omega)
  have hidx : ∀ k, k0 ≤ k → cordwoodref21_place.f k (zp ids rows) room last id = some r := hk
  have hpl : p < ids.length := (List.getElem?_eq_some_iff.1 hp).1
  rcases hr with ⟨rfl, hn⟩ | ⟨q, rfl, _, hq⟩
  · exact absurd hp (hn p (by omega))
  · obtain rfl := hu q hq
    refine ⟨k0, fun k hle => ?_⟩
    show cordwoodref21_Get.f k (zp ids rows) room last id = _
    rw [cordwoodref21_Get.f, hidx k hle, Option.bind_some, if_neg (by omega), if_pos (by omega), zp_len hl, if_pos (by omega), zp_at hl hpl]
theorem rget_not (hl : ids.length = rows.length) (h : ids.length ≤ 1000) {id : Int} (hn : ∀ j : Nat, ids[j]? ≠ some id) : Ev (fun k => cordwoodref21_Get.f k (zp ids rows) room last id) ([], 13) := by
  obtain ⟨r, ⟨k0, hk⟩, hr⟩ := place_ev hl h room last id ids.length 0 (by omega)
  have hidx : ∀ k, k0 ≤ k → cordwoodref21_place.f k (zp ids rows) room last id = some r := hk
  rcases hr with ⟨rfl, _⟩ | ⟨q, rfl, _, hq⟩
  · refine ⟨k0, fun k hle => ?_⟩
    show cordwoodref21_Get.f k (zp ids rows) room last id = _
    rw [cordwoodref21_Get.f, hidx k hle, Option.bind_some, if_pos (by omega)]
  · exact absurd hq (hn q)
theorem rids_l0 (hl : ids.length = rows.length) (h : ids.length ≤ 1000) : ∀ (m i : Nat), m + i = ids.length → Ev (fun k => cordwoodref21_IDs.l0 k (ids.take i) (i : Int) (zp ids rows) room last) ids
  | 0, i, hm => Ev.step (fun k => by rw [cordwoodref21_IDs.l0, zp_len hl, if_neg (by omega), List.take_of_length_le (by omega)]) (Ev.const _)
  | m + 1, i, hm => by
    have hi : i < ids.length := by omega
    have hw := wrap_inc hi (by omega)
    refine Ev.step (fun k => ?_) (rids_l0 hl h m (i + 1) (by omega))
    rw [cordwoodref21_IDs.l0, zp_len hl, if_pos (by omega), if_pos (by omega), zp_at hl hi, if_pos (by simp; omega), hw, rd_at hi, ← List.take_succ_eq_append_getElem hi]
theorem rids_ev (hl : ids.length = rows.length) (h : ids.length ≤ 1000) : Ev (fun k => cordwoodref21_IDs.f k (zp ids rows) room last) ids := rids_l0 hl h ids.length 0 (by omega)
theorem theirs_ev {what I : Int} {t : List S72} {ids' : List Int} {rows' : List (List S72)} {last' i e : Int} (hl : ids.length = rows.length) (h : ids.length ≤ 1000) (h0 : 0 ≤ last) (h1 : last ≤ 1000) (hasc : ids.Pairwise (· < ·))
    (hd : Did ids rows room last what I t ids' rows' last' i e) : Ev (fun k => cordwoodlaw21_theirs.f k (zp ids rows) room last what I t) (zp ids' rows', room, last', i, e) := by
  cases hd with
  | kept c0 cr => exact Ev.of (fun k => by rw [cordwoodlaw21_theirs.f, if_pos c0, rkeep_some t hl h h0 h1 cr]; rfl) (Ev.const _)
  | full c0 cr => exact Ev.of (fun k => by rw [cordwoodlaw21_theirs.f, if_pos c0, rkeep_none t hl cr]; rfl) (Ev.const _)
  | gone p c1 hp hI =>
    have c0 : ¬ Go.bits .and .i64 what 3 = 0 := by omega
    obtain ⟨k0, hk⟩ := rforget_at (room := room) (last := last) hl h hI (fun q hq => asc_uniq hasc hI hq)
    exact ⟨k0, fun k hle => by
      have hk1 : cordwoodref21_Forget.f k (zp ids rows) room last I = _ := hk k hle
      simp only [cordwoodlaw21_theirs.f]
      rw [if_neg c0, if_pos c1, hk1]
      rfl⟩
  | none c1 hI =>
    have c0 : ¬ Go.bits .and .i64 what 3 = 0 := by omega
    obtain ⟨k0, hk⟩ := rforget_none (room := room) (last := last) hl h hI
    exact ⟨k0, fun k hle => by
      have hk1 : cordwoodref21_Forget.f k (zp ids rows) room last I = _ := hk k hle
      simp only [cordwoodlaw21_theirs.f]
      rw [if_neg c0, if_pos c1, hk1]
      rfl⟩
  | bare c0 c1 he =>
    subst he
    exact Ev.of (fun k => by
      rw [cordwoodlaw21_theirs.f, if_neg c0, if_neg c1, cordwoodref21_Oldest.f, zp_len hl, if_pos (by rfl)]
      rfl) (Ev.const _)
  | old c0 c1 hp =>
    have h00 : ids[0]? = some (rd ids 0) := by simp [rd, hp]
    obtain ⟨k0, hk⟩ := rforget_at (room := room) (last := last) hl h h00 (fun q hq => asc_uniq hasc h00 hq)
    have hz : rd_T86 (zp ids rows) 0 = ⟨rd ids 0, rd_L7 rows 0⟩ := zp_at hl hp
    exact ⟨k0, fun k hle => by
      have hk1 : cordwoodref21_Forget.f k (zp ids rows) room last (rd ids 0) = _ := hk k hle
      simp only [cordwoodlaw21_theirs.f]
      rw [if_neg c0, if_neg c1, cordwoodref21_Oldest.f, zp_len hl, if_neg (by omega), if_pos (by omega), hz, hk1]
      rfl⟩
end
end Go.Proofs.Ytkabbahfaeeihaa.Q

/-! SnapsIs, walked by hand. -/
namespace Go.Proofs.Ytkabbahfaeeihaa.Q
open Go.RowKit Go.Proofs.YtkabbahfaeeihaaW.PrintWords Go.Proofs.YtkabbahfaeeihaaW.PrintLast Go.Proofs.YtkabbahfaeeihaaW.PrintMore
attribute [local go_sem] max2_int min2_int max_two min_two max_three min_three max_four min_four
set_option linter.unusedVariables false
set_option linter.unusedSimpArgs false
def iL.T9 : Bool × List (List Nat × List Nat) := (true, [([], []), ([], []), ([], []), ([1, 2], [1, 2]), ([3], [3]), ([0, 4], [0, 4]), ([5], [5]), ([6], [6]), ([6], [6]), ([6], [6]), ([], []), ([10, 7, 5, 0, 1, 2, 3, 4, 5, 6, 7, 10], [7, 10]), ([8, 11, 0, 1, 2, 3, 4, 5, 6, 7, 8, 10, 11], [8]), ([9, 12, 0, 1, 2, 3, 4, 5, 6, 7, 8, 9, 10, 11, 12], [9])])
def iL.B9 : List Nat := [0, 0, 0, 6, 14, 31, 63, 127, 127, 127, 0, 1279, 3583, 8191]
theorem iL.tab9 : rtab .any (opsOf Try.f4 9) = iL.T9 := by kernel_rfl
theorem iL.bits9 : waitsOk iL.T9.2 iL.B9 = true := by kernel_rfl
def iL.T10 : Bool × List (List Nat × List Nat) := (true, [([], []), ([], []), ([], []), ([1, 2], [1, 2]), ([3], [3]), ([0, 4], [0, 4]), ([5], [5]), ([6], [6]), ([6], [6]), ([6], [6]), ([], []), ([10, 7, 5, 0, 1, 2, 3, 4, 5, 6, 7, 10], [7, 10]), ([8, 11, 0, 1, 2, 3, 4, 5, 6, 7, 8, 10, 11], [8]), ([9, 12, 0, 1, 2, 3, 4, 5, 6, 7, 8, 9, 10, 11, 12], [9])])
def iL.B10 : List Nat := [0, 0, 0, 6, 14, 31, 63, 127, 127, 127, 0, 1279, 3583, 8191]
theorem iL.tab10 : rtab .any (opsOf Try.f4 10) = iL.T10 := by kernel_rfl
theorem iL.bits10 : waitsOk iL.T10.2 iL.B10 = true := by kernel_rfl
def iL.T15 : Bool × List (List Nat × List Nat) := (true, [([], []), ([], []), ([0, 1], [0, 1]), ([2], [2]), ([3], [3]), ([3], [3]), ([4, 5, 3], [3, 4, 5]), ([3, 6], [3, 6]), ([7, 3], [7]), ([8], [8]), ([8], [8]), ([9, 10, 8, 8], [8, 9, 10]), ([11, 8], [8, 11]), ([8, 12], [8, 12]), ([13, 11], [13]), ([14], [14]), ([14], [14]), ([15, 16, 14], [14, 15, 16]), ([14, 17], [14, 17]), ([18, 14], [18]), ([19], [19]), ([20, 19, 19], [19, 20]), ([19], [19]), ([22, 21, 19], [19, 22]), ([21, 23, 23, 19], [19, 21, 23]), ([24, 19], [19, 24]), ([19, 25], [19, 25])])
def iL.B15 : List Nat := [0, 0, 3, 7, 15, 15, 63, 127, 255, 511, 511, 2047, 4095, 8191, 16383, 32767, 32767, 131071, 262143, 524287, 1048575, 2097151, 1048575, 8388607, 16777215, 33554431, 67108863]
theorem iL.tab15 : rtab .any (opsOf Try.f4 15) = iL.T15 := by kernel_rfl
theorem iL.bits15 : waitsOk iL.T15.2 iL.B15 = true := by kernel_rfl
theorem Tb.zero (L : List Box) (W : World) : Tb L W (.agg #[.slice none 0 0, .slice none 0 0, .int .i64 0, .int .i64 0]) [] [] 0 0 := ⟨none, 0, none, 0, rfl, Vw.nil _ _ _, Vw.nil _ _ _⟩
theorem rows_did {ids : List Int} {rows : List (List S72)} {room last what I : Int} {t : List S72} {ids' : List Int} {rows' : List (List S72)} {last' i e : Int} (h : ∀ x ∈ rows, RowOk x) (ht : RowOk t) (hd : Did ids rows room last what I t ids' rows' last' i e) : ∀ x ∈ rows', RowOk x := by
  cases hd with
  | kept c0 cr => intro x hx; rcases List.mem_append.1 hx with hx | hx; exact h x hx; rw [List.mem_singleton] at hx; subst hx; exact ht
  | full c0 cr => exact h
  | gone p c1 hp hI => intro x hx; exact h x ((cut_sublist rows p).subset hx)
  | none c1 hI => exact h
  | bare c0 c1 he => exact h
  | old c0 c1 hp => intro x hx; exact h x ((cut_sublist rows 0).subset hx)
theorem step_row {w : World} {A : Option Addr} {n : Nat} {l : List S50} (h : Kd.C k50 w A n l) {j : Nat} (hj : j < n) : RowOk (rd_T50 l (j : Int)).f2 := by
  obtain ⟨_, _, _, _, _, _, _, _, hC⟩ := at_T50 h (j : Int) (by omega) (by omega)
  exact row_ok hC
theorem both_get {ids : List Int} {rows : List (List S72)} {room last id : Int} (hl : ids.length = rows.length) (h : ids.length ≤ 1000) (hasc : ids.Pairwise (· < ·)) (hr : ∀ x ∈ rows, RowOk x) :
    ∃ x n k, snaps_Get.f k ids rows room last id = some (x, n) ∧ cordwoodref21_Get.f k (zp ids rows) room last id = some (x, n) ∧ RowOk x := by
  by_cases hex : ∃ p : Nat, ids[p]? = some id
  · obtain ⟨p, hp⟩ := hex
    have hpl := (List.getElem?_eq_some_iff.1 hp).1
    have hu : ∀ q, ids[q]? = some id → q = p := fun q hq => asc_uniq hasc hp hq
    obtain ⟨k0, h0⟩ := get_ev ids rows room last id p hl h hp hu
    obtain ⟨k1, h1⟩ := rget_at (room := room) (last := last) hl h hp hu
    refine ⟨rd_L7 rows (p : Int), 0, max k0 k1, h0 _ (by omega), h1 _ (by omega), hr _ ?_⟩
    have hp2 : p < rows.length := by omega
    simp [rd_L7, hp2]
  · have hn : ∀ q : Nat, ids[q]? ≠ some id := fun q hq => hex ⟨q, hq⟩
    obtain ⟨k0, h0⟩ := get_not ids rows room last id h hn
    obtain ⟨k1, h1⟩ := rget_not (room := room) (last := last) hl h hn
    exact ⟨[], 13, max k0 k1, h0 _ (by omega), h1 _ (by omega), by simp [RowOk]⟩
/-- Both tables, the law's and the document's, behind some steps. -/
structure AtBoth (w : World) (g h : Nat) (a0 : Int) (l : List S50) (i : Value) (W : World) : Prop where
  out : ∃ (j : Nat) (v r : Value) (ids : List Int) (rows : List (List S72)) (room last : Int), i = .int .i64 (j : Int) ∧ j ≤ l.length ∧ Fr w [(h, r, 46), (g, v, 28)] W ∧ Tb [(h, r, 46), (g, v, 28)] W v ids rows room last ∧ Rt [(h, r, 46), (g, v, 28)] W r (zp ids rows) room last ∧ (∃ gv, Once a0 ids rows room last gv j) ∧ ∀ x ∈ rows, RowOk x
set_option maxHeartbeats 8000000 in
set_option maxRecDepth 100000 in
theorem is_law (a0 : Int) (A1 : Option Addr) (c1 : Nat) (l : List S50) (id : Int) (w : World) (HR : Kd.C k50 w A1 l.length l) (HC : l.length ≤ c1) :
    Calls Try.prog 4 #[.int .i64 a0, .slice A1 l.length c1, .int .i64 id] w fun e w' => e = .returned (.bool true) ∧ Below w.heap.size w w' := by
  have hu28 := Try.underlying28
  have hu46 := Try.underlying46
  have hu50 := Try.underlying50
  have hsize := HR.2.1
  obtain ⟨ka, hA⟩ := awake_ev
  replace hA := hA ka (Nat.le_refl _)
  obtain ⟨b, ⟨ks, hS⟩, hb⟩ := small_ev l (steps_ok HR) l.length 0 (by omega)
  replace hS : cordwoodlaw21_small.f ks l = some b := hS ks (Nat.le_refl _)
  cases b with
  | false =>
    go_enter Try.func4, Try.ntmps4
    go_wp2_with (first | ((with_reducible refine gate_callee (f := 9) rfl ?_); refine goesL_ (some 24) rfl rfl Try.func9 (by kernel_rfl) rfl #[] rfl (by (try simp only [List.map_toArray, List.map_cons, List.map_nil]); first | done | rfl) ?_; refine (awake_c (Fr.start w) hA).mono ?_; rintro e w1 ⟨rfl, F1, M1⟩; refine ⟨_, rfl, ?_⟩) | ((with_reducible refine gate_callee (f := 17) rfl ?_); refine goesL_ (some 26) rfl rfl Try.func17 (by kernel_rfl) rfl #[.slice A1 l.length c1] rfl (by (try simp only [List.map_toArray, List.map_cons, List.map_nil]); first | done | rfl) ?_; refine (small_c F1 HR HC hS).mono ?_; rintro e w2 ⟨rfl, F2, M2⟩; refine ⟨_, rfl, ?_⟩))
    go_ret
    exact ⟨rfl, F2.bel⟩
  | true =>
    have hl := hb rfl
    go_enter Try.func4, Try.ntmps4
    go_wp2_with (first | ((with_reducible refine gate_callee (f := 9) rfl ?_); refine goesL_ (some 24) rfl rfl Try.func9 (by kernel_rfl) rfl #[] rfl (by (try simp only [List.map_toArray, List.map_cons, List.map_nil]); first | done | rfl) ?_; refine (awake_c (Fr.start w) hA).mono ?_; rintro e w1 ⟨rfl, F1, M1⟩; refine ⟨_, rfl, ?_⟩) | ((with_reducible refine gate_callee (f := 17) rfl ?_); refine goesL_ (some 26) rfl rfl Try.func17 (by kernel_rfl) rfl #[.slice A1 l.length c1] rfl (by (try simp only [List.map_toArray, List.map_cons, List.map_nil]); first | done | rfl) ?_; refine (small_c F1 HR HC hS).mono ?_; rintro e w2 ⟨rfl, F2, M2⟩; refine ⟨_, rfl, ?_⟩) | ((with_reducible refine gate_callee (f := 10) rfl ?_); refine goesL_ (some 30) rfl rfl Try.func10 (by kernel_rfl) rfl #[.int .i64 a0] rfl (by (try simp only [List.map_toArray, List.map_cons, List.map_nil]); first | done | rfl) ?_; refine (new_c a0 F2).mono ?_; rintro e w3 ⟨v3, rfl, T3, F3, M3⟩; refine ⟨_, rfl, ?_⟩) | ((with_reducible refine gate_dst (N := 8) rfl ?_); refine fr_new (N := 8) (by assumption) rfl rfl (zero28) 28 zero_fits ?hr ?_; (case hr => first | (go_simp; done) | (go_simp; rfl)); intro gt w4 F4 M4) | ((with_reducible refine gate_store (t := 28) (p := 8) rfl ?_); refine fr_store (v := v3) (by assumption) rfl rfl rfl rfl rfl T3.fits (by repeat (first | exact Put.here | apply Put.there)) ?_; intro w5 F5 M5) | ((with_reducible refine gate_callee (f := 18) rfl ?_); refine goesL_ (some 32) rfl rfl Try.func18 (by kernel_rfl) rfl #[.int .i64 a0] rfl (by (try simp only [List.map_toArray, List.map_cons, List.map_nil]); first | done | rfl) ?_; refine (new_r a0 F5).mono ?_; rintro e w6 ⟨v6, rfl, T6, F6, M6⟩; refine ⟨_, rfl, ?_⟩) | ((with_reducible refine gate_dst (N := 9) rfl ?_); refine fr_new (N := 9) (by assumption) rfl rfl (zero46) 46 zero46_fits ?hr ?_; (case hr => first | (go_simp; done) | (go_simp; rfl)); intro gr w7 F7 M7) | ((with_reducible refine gate_store (t := 46) (p := 9) rfl ?_); refine fr_store (v := v6) (by assumption) rfl rfl rfl rfl rfl T6.fits (by repeat (first | exact Put.here | apply Put.there)) ?_; intro w8 F8 M8))
    go_loopw [10] (fun i W => AtBoth w gt gr a0 l i W) (fun i _ => l.length - (intOf i).toNat)
    case atStart => exact ⟨⟨0, v3, v6, [], [], _, 0, rfl, Nat.zero_le _, F8, T3.mv ((((M4.trans M5).trans M6).trans M7).trans M8), (room_eq a0).symm ▸ T6.mv (M7.trans M8), ⟨[], once_start a0⟩, fun x hx => by cases hx⟩⟩
    case round =>
      obtain ⟨⟨j, v, r, ids, rows, room, last, rfl, hj, F, T, TR, hO, hrows⟩⟩ := hrel
      clear hA hS hb T3 T6 F1 F2 F3 F4 F5 F6 F7 F8 M1 M2 M3 M4 M5 M6 M7 M8
      have hOl : ids.length = rows.length := hO.elim fun _ h => h.len
      have hsh : ids.length ≤ 64 := hO.elim fun _ h => h.short
      have hlow : 0 ≤ last := hO.elim fun _ h => h.low
      have hhigh : last ≤ j := hO.elim fun _ h => h.high
      have hasc : ids.Pairwise (· < ·) := hO.elim fun _ h => h.asc
      by_cases hlt : j < l.length
      · obtain ⟨ids', rows', last', i', e', ⟨k, hd⟩, hdid⟩ := done_ev ids rows room last (rd_T50 l (j : Int)).f0 (rd_T50 l (j : Int)).f1 (rd_T50 l (j : Int)).f2 hOl (by omega) hlow (by omega)
        replace hd := hd k (Nat.le_refl _)
        obtain ⟨kt, ht⟩ := theirs_ev hOl (by omega) hlow (by omega) hasc hdid
        replace ht := ht kt (Nat.le_refl _)
        have hO' : ∃ gv, Once a0 ids' rows' room last' gv (j + 1) := once_did hO hdid
        have hOl' : ids'.length = rows'.length := hO'.elim fun _ h => h.len
        have hsh' : ids'.length ≤ 64 := hO'.elim fun _ h => h.short
        have hasc' : ids'.Pairwise (· < ·) := hO'.elim fun _ h => h.asc
        have hrows' := rows_did hrows (step_row HR hlt) hdid
        obtain ⟨x, n, kg, hget, hrget, hxok⟩ := both_get (id := id) (room := room) (last := last') hOl' (by omega) hasc' hrows'
        obtain ⟨ks, hsame⟩ := same_ev x hxok
        replace hsame := hsame ks (Nat.le_refl _)
        have hids' : snaps_IDs.f ids' rows' room last' = some ids' := ids_some _ _ _ _ (by omega)
        obtain ⟨ki, hrid⟩ := rids_ev (room := room) (last := last') hOl' (by omega)
        replace hrid := hrid ki (Nat.le_refl _)
        obtain ⟨kn, hint⟩ := ints_same ids' (by omega)
        replace hint := hint kn (Nat.le_refl _)
        have hi0 : (0 : Int) ≤ (j : Int) := by omega
        have hi2 : (j : Int) < (l.length : Int) := by omega
        obtain ⟨ad, Ae, ce, rfl, hst⟩ := step_at HR (j : Int) hi0 hi2
        simp only [Int.toNat_natCast] at hst
        clear hOl hsh hlow hhigh hasc hrows hOl' hsh' hasc' hxok
        go_wp2
        refine start_ (n := 14) (S := Held w [(gr, r, 46), (gt, v, 28)] [(gr, r, 46), (gt, v, 28)] (World.drew _)) (ds := []) #[false, false, false, false, false, false, false, false, false, false, false, false, false, false] (by kernel_rfl) rfl rfl (Held.start F) (fun hHeld => ?_); refine with_tabW iL.tab9 iL.bits9 (fun HT_ HW_ => ?_)
        have FD := F.drew
        have TD := T.mv (Mv.refl _ _).drew
        have RD := TR.mv (Mv.refl _ _).drew
        generalize World.drew _ = wd at FD TD RD hHeld ⊢
        refine pure_ (i := 1) (N := some 41) (v := ?_) (a' := ?_) #[false, true, false, false, false, false, false, false, false, false, false, false, false, false] rfl rfl (any_of HT_.out (by kernel_rfl)) (fun _ _ _ h => h) (Or.inl ⟨by rfl, ?_⟩) ?_ ?_
        rotate_left
        · intro w'
          go_simp
          with_reducible rfl
        rotate_left
        · simp only [Act.put, List.setIfInBounds_toArray, List.set_cons_zero, List.set_cons_succ, i64_w, i32_w]
          rfl
        refine pure_ (i := 2) (N := some 42) (v := ?_) (a' := ?_) #[false, true, true, false, false, false, false, false, false, false, false, false, false, false] rfl rfl (any_of HT_.out (by kernel_rfl)) (fun _ _ _ h => h) (Or.inl ⟨by rfl, ?_⟩) ?_ ?_
        rotate_left
        · intro w'
          go_simp
          with_reducible rfl
        rotate_left
        · simp only [Act.put, List.setIfInBounds_toArray, List.set_cons_zero, List.set_cons_succ, i64_w, i32_w]
          rfl
        refine pure_ (i := 3) (N := some 43) (v := ?_) (a' := ?_) #[false, true, true, true, false, false, false, false, false, false, false, false, false, false] rfl rfl (any_of HT_.out (by kernel_rfl)) (fun _ _ _ h => h) (Or.inl ⟨by rfl, ?_⟩) ?_ ?_
        rotate_left
        · intro w'
          go_simp
          with_reducible rfl
        rotate_left
        · simp only [Act.put, List.setIfInBounds_toArray, List.set_cons_zero, List.set_cons_succ, i64_w, i32_w]
          rfl
        refine take_ (i := 0) (N := some 40) (v := v) (a' := ?_) #[true, true, true, true, false, false, false, false, false, false, false, false, false, false] rfl rfl (take_ofW HT_.out HW_.out (by kernel_rfl)) (fun _ _ _ h => h) (Or.inl ⟨by rfl, ?_⟩) hHeld ?_ ?_
        · intro w' hS
          exact hS.run_load (t := 28) rfl rfl (.tail _ <| List.mem_cons_self) (by kernel_rfl) Try.underlying28
        rotate_left
        · simp only [Act.put, List.setIfInBounds_toArray, List.set_cons_zero, List.set_cons_succ, i64_w, i32_w]
          rfl
        refine take_ (i := 4) (N := some 44) (v := ?_) (a' := ?_) #[true, true, true, true, true, false, false, false, false, false, false, false, false, false] rfl rfl (take_ofW HT_.out HW_.out (by kernel_rfl)) (fun _ _ _ h => h) (Or.inl ⟨by rfl, ?_⟩) hHeld ?_ ?_
        rotate_left
        · rintro w' hS
          obtain ⟨L_, hF_, _, _⟩ := hS.out
          obtain ⟨s0, s1, s2, _⟩ := hst _ _ hF_
          go_simp
          with_reducible rfl
        rotate_left
        · simp only [Act.put, List.setIfInBounds_toArray, List.set_cons_zero, List.set_cons_succ, i64_w, i32_w]
          rfl
        refine join_ (σ := Value × Nat) 3 #[true, true, true, true, true, true, true, true, true, true, true, false, false, false] (fun s_ => [(45, .tuple #[s_.1, .int .i64 i', .int .i64 e']), (11, .pointer (some ⟨s_.2, 0, none⟩)), (39, .tuple #[s_.1, .int .i64 i', .int .i64 e']), (46, s_.1), (47, .int .i64 i'), (48, .int .i64 e')]) (fun s_ w' => Fr w ((s_.2, zero28, 28) :: [(gr, r, 46), (gt, v, 28)]) w' ∧ Tb ((s_.2, zero28, 28) :: [(gr, r, 46), (gt, v, 28)]) w' s_.1 ids' rows' room last' ∧ Mv [(gr, r, 46), (gt, v, 28)] wd ((s_.2, zero28, 28) :: [(gr, r, 46), (gt, v, 28)]) w') ?_ ?_
        rotate_left
        · intro hCont
          refine two_ (i := 5) (j := 10) (Ni := some 45) (Nj := some 11) #[true, true, true, true, true, true, false, false, false, false, false, false, false, false] #[true, true, true, true, true, false, false, false, false, false, true, false, false, false] rfl rfl rfl rfl (two_of HT_.out (by kernel_rfl)) (by decide) (by decide) (fun K hK => ?_) (fun K hK => ?_)
          · skip
            refine goes_ Try.func19 (by kernel_rfl) rfl #[v, .agg #[.int .i64 (rd_T50 l (j : Int)).f0, .int .i64 (rd_T50 l (j : Int)).f1, .slice Ae (rd_T50 l (j : Int)).f2.length ce]] (by rfl) rfl rfl (by (try simp only [List.map_toArray, List.map_cons, List.map_nil]); first | done | rfl) ?_
            refine (done_c (k := k) FD (TD.mv (Mv.refl _ _)) (hst _ _ FD).2.2.2 hd).mono ?_
            rintro e w9 ⟨u, rfl, T9, F9, M9⟩
            refine ⟨_, rfl, ?_⟩
            refine hK.out _ _ (Held.of F9 M9 (fun _ h => h)) (fun hHeld => ?_)
            clear hK K
            refine norm_ (a' := ?_) ?_ ?_
            rotate_left
            · show Act.put _ (some 45) _ = _
              simp only [Act.put, List.setIfInBounds_toArray, List.set_cons_zero, List.set_cons_succ, i64_w, i32_w]
              rfl
            refine pure_ (i := 6) (N := some 39) (v := ?_) (a' := ?_) #[true, true, true, true, true, true, true, false, false, false, false, false, false, false] rfl rfl (any_of HT_.out (by kernel_rfl)) (fun _ _ _ h => h) (Or.inl ⟨by rfl, ?_⟩) ?_ ?_
            rotate_left
            · intro w'
              go_simp
              with_reducible rfl
            rotate_left
            · simp only [Act.put, List.setIfInBounds_toArray, List.set_cons_zero, List.set_cons_succ, i64_w, i32_w]
              rfl
            refine pure_ (i := 7) (N := some 46) (v := ?_) (a' := ?_) #[true, true, true, true, true, true, true, true, false, false, false, false, false, false] rfl rfl (any_of HT_.out (by kernel_rfl)) (fun _ _ _ h => h) (Or.inl ⟨by rfl, ?_⟩) ?_ ?_
            rotate_left
            · intro w'
              go_simp
              with_reducible rfl
            rotate_left
            · simp only [Act.put, List.setIfInBounds_toArray, List.set_cons_zero, List.set_cons_succ, i64_w, i32_w]
              rfl
            refine pure_ (i := 8) (N := some 47) (v := ?_) (a' := ?_) #[true, true, true, true, true, true, true, true, true, false, false, false, false, false] rfl rfl (any_of HT_.out (by kernel_rfl)) (fun _ _ _ h => h) (Or.inl ⟨by rfl, ?_⟩) ?_ ?_
            rotate_left
            · intro w'
              go_simp
              with_reducible rfl
            rotate_left
            · simp only [Act.put, List.setIfInBounds_toArray, List.set_cons_zero, List.set_cons_succ, i64_w, i32_w]
              rfl
            refine pure_ (i := 9) (N := some 48) (v := ?_) (a' := ?_) #[true, true, true, true, true, true, true, true, true, true, false, false, false, false] rfl rfl (any_of HT_.out (by kernel_rfl)) (fun _ _ _ h => h) (Or.inl ⟨by rfl, ?_⟩) ?_ ?_
            rotate_left
            · intro w'
              go_simp
              with_reducible rfl
            rotate_left
            · simp only [Act.put, List.setIfInBounds_toArray, List.set_cons_zero, List.set_cons_succ, i64_w, i32_w]
              rfl
            refine one_ (i := 10) (N := some 11) #[true, true, true, true, true, true, true, true, true, true, true, false, false, false] rfl rfl (one_of HT_.out (by kernel_rfl)) (by decide) (fun K hK => ?_)
            refine box_step ?hg (N := 11) ?hd (cs := #[.slice none 0 0, .slice none 0 0, .int .i64 0, .int .i64 0]) (t := 28) ?hr ?_; (case hd => rfl); (case hg => rfl); (case hr => first | (go_simp; done) | (go_simp; rfl))
            intro gA hg w10 hbox hb
            obtain ⟨F10, M10⟩ := F9.new (v := zero28) hg hbox zero_fits hb
            clear hg hbox hb
            refine hK.out _ _ (Held.of F10 (M9.trans M10) (fun _ h => List.mem_cons_of_mem _ h)) (fun hHeld => ?_)
            clear hK K
            refine norm_ (a' := ?_) ?_ ?_
            rotate_left
            · show Act.put _ (some 11) _ = _
              simp only [Act.put, List.setIfInBounds_toArray, List.set_cons_zero, List.set_cons_succ, i64_w, i32_w]
              rfl
            exact norm_ (by simp only [putAll, Act.put, List.setIfInBounds_toArray, List.set_cons_zero, List.set_cons_succ]) (hCont (u, gA) _ ⟨F10, T9.mv M10, M9.trans M10⟩)
          · skip
            refine box_step ?hg (N := 11) ?hd (cs := #[.slice none 0 0, .slice none 0 0, .int .i64 0, .int .i64 0]) (t := 28) ?hr ?_; (case hd => rfl); (case hg => rfl); (case hr => first | (go_simp; done) | (go_simp; rfl))
            intro gA hg w9 hbox hb
            obtain ⟨F9, M9⟩ := FD.new (v := zero28) hg hbox zero_fits hb
            clear hg hbox hb
            refine hK.out _ _ (Held.of F9 M9 (fun _ h => List.mem_cons_of_mem _ h)) (fun hHeld => ?_)
            clear hK K
            refine norm_ (a' := ?_) ?_ ?_
            rotate_left
            · show Act.put _ (some 11) _ = _
              simp only [Act.put, List.setIfInBounds_toArray, List.set_cons_zero, List.set_cons_succ, i64_w, i32_w]
              rfl
            refine one_ (i := 5) (N := some 45) #[true, true, true, true, true, true, false, false, false, false, true, false, false, false] rfl rfl (one_of HT_.out (by kernel_rfl)) (by decide) (fun K hK => ?_)
            refine goes_ Try.func19 (by kernel_rfl) rfl #[v, .agg #[.int .i64 (rd_T50 l (j : Int)).f0, .int .i64 (rd_T50 l (j : Int)).f1, .slice Ae (rd_T50 l (j : Int)).f2.length ce]] (by rfl) rfl rfl (by (try simp only [List.map_toArray, List.map_cons, List.map_nil]); first | done | rfl) ?_
            refine (done_c (k := k) F9 (TD.mv M9) (hst _ _ F9).2.2.2 hd).mono ?_
            rintro e w10 ⟨u, rfl, T10, F10, M10⟩
            refine ⟨_, rfl, ?_⟩
            refine hK.out _ _ (Held.of F10 (M9.trans M10) (fun _ h => List.mem_cons_of_mem _ h)) (fun hHeld => ?_)
            clear hK K
            refine norm_ (a' := ?_) ?_ ?_
            rotate_left
            · show Act.put _ (some 45) _ = _
              simp only [Act.put, List.setIfInBounds_toArray, List.set_cons_zero, List.set_cons_succ, i64_w, i32_w]
              rfl
            refine pure_ (i := 6) (N := some 39) (v := ?_) (a' := ?_) #[true, true, true, true, true, true, true, false, false, false, true, false, false, false] rfl rfl (any_of HT_.out (by kernel_rfl)) (fun _ _ _ h => h) (Or.inl ⟨by rfl, ?_⟩) ?_ ?_
            rotate_left
            · intro w'
              go_simp
              with_reducible rfl
            rotate_left
            · simp only [Act.put, List.setIfInBounds_toArray, List.set_cons_zero, List.set_cons_succ, i64_w, i32_w]
              rfl
            refine pure_ (i := 7) (N := some 46) (v := ?_) (a' := ?_) #[true, true, true, true, true, true, true, true, false, false, true, false, false, false] rfl rfl (any_of HT_.out (by kernel_rfl)) (fun _ _ _ h => h) (Or.inl ⟨by rfl, ?_⟩) ?_ ?_
            rotate_left
            · intro w'
              go_simp
              with_reducible rfl
            rotate_left
            · simp only [Act.put, List.setIfInBounds_toArray, List.set_cons_zero, List.set_cons_succ, i64_w, i32_w]
              rfl
            refine pure_ (i := 8) (N := some 47) (v := ?_) (a' := ?_) #[true, true, true, true, true, true, true, true, true, false, true, false, false, false] rfl rfl (any_of HT_.out (by kernel_rfl)) (fun _ _ _ h => h) (Or.inl ⟨by rfl, ?_⟩) ?_ ?_
            rotate_left
            · intro w'
              go_simp
              with_reducible rfl
            rotate_left
            · simp only [Act.put, List.setIfInBounds_toArray, List.set_cons_zero, List.set_cons_succ, i64_w, i32_w]
              rfl
            refine pure_ (i := 9) (N := some 48) (v := ?_) (a' := ?_) #[true, true, true, true, true, true, true, true, true, true, true, false, false, false] rfl rfl (any_of HT_.out (by kernel_rfl)) (fun _ _ _ h => h) (Or.inl ⟨by rfl, ?_⟩) ?_ ?_
            rotate_left
            · intro w'
              go_simp
              with_reducible rfl
            rotate_left
            · simp only [Act.put, List.setIfInBounds_toArray, List.set_cons_zero, List.set_cons_succ, i64_w, i32_w]
              rfl
            exact norm_ (by simp only [putAll, Act.put, List.setIfInBounds_toArray, List.set_cons_zero, List.set_cons_succ]) (hCont (u, gA) _ ⟨F10, T10, M9.trans M10⟩)
        rintro ⟨u, gA⟩ w10 ⟨F10, T10, M10⟩
        have hHeld : Held w [(gr, r, 46), (gt, v, 28)] [(gr, r, 46), (gt, v, 28)] wd w10 := Held.of F10 M10 (fun _ h => List.mem_cons_of_mem _ h)
        refine norm_ (a' := ?_) ?_ ?_
        rotate_left
        · simp only [putAll, Act.put, List.setIfInBounds_toArray, List.set_cons_zero, List.set_cons_succ]
          rfl
        refine one_ (i := 11) (N := none) #[true, true, true, true, true, true, true, true, true, true, true, true, false, false] rfl rfl (one_of HT_.out (by kernel_rfl)) (by decide) (fun K hK => ?_)
        refine skip_ (by rfl) rfl (F10.run_store (v := u) rfl rfl rfl (T10.fits) Put.here) ?_
        obtain ⟨F11, M11⟩ := F10.put (v := u) (Put.here : Put _ _ _ 28 _) (T10.fits)
        generalize World.setCells _ _ _ _ = w11 at F11 M11 ⊢
        refine hK.out _ _ (Held.of F11 (M10.trans M11) (fun _ h => List.mem_cons_of_mem _ h)) (fun hHeld => ?_)
        clear hK K
        have T11 := T10.mv M11
        have M12 := M10.trans M11
        refine pure_ (i := 12) (N := some 12) (v := ?_) (a' := ?_) #[true, true, true, true, true, true, true, true, true, true, true, true, true, false] rfl rfl (any_of HT_.out (by kernel_rfl)) (fun _ _ _ h => h) (Or.inl ⟨by rfl, ?_⟩) ?_ ?_
        rotate_left
        · intro w'
          go_simp
          with_reducible rfl
        rotate_left
        · simp only [Act.put, List.setIfInBounds_toArray, List.set_cons_zero, List.set_cons_succ, i64_w, i32_w]
          rfl
        refine pure_ (i := 13) (N := some 13) (v := ?_) (a' := ?_) #[true, true, true, true, true, true, true, true, true, true, true, true, true, true] rfl rfl (any_of HT_.out (by kernel_rfl)) (fun _ _ _ h => h) (Or.inl ⟨by rfl, ?_⟩) ?_ ?_
        rotate_left
        · intro w'
          go_simp
          with_reducible rfl
        rotate_left
        · simp only [Act.put, List.setIfInBounds_toArray, List.set_cons_zero, List.set_cons_succ, i64_w, i32_w]
          rfl
        refine done_ (done_of HT_.out (by kernel_rfl)) ?_
        have T20 := T11
        have F20 := F11
        have R20 := RD.mv M12
        clear T11 F11 M12 M11 F10 T10 M10 HT_ HW_ FD TD RD F T TR
        clear hHeld
        go_wp2
        refine start_ (n := 14) (S := Held w [(gA, u, 28), (gr, r, 46), (gt, v, 28)] [(gA, u, 28), (gr, r, 46), (gt, v, 28)] (World.drew _)) (ds := []) #[false, false, false, false, false, false, false, false, false, false, false, false, false, false] (by kernel_rfl) rfl rfl (Held.start F20) (fun hHeld => ?_); refine with_tabW iL.tab10 iL.bits10 (fun HT_ HW_ => ?_)
        have FD := F20.drew
        have TD := R20.mv (Mv.refl _ _).drew
        have UD := T20.mv (Mv.refl _ _).drew
        generalize World.drew _ = wd at FD TD UD hHeld ⊢
        refine pure_ (i := 1) (N := some 51) (v := ?_) (a' := ?_) #[false, true, false, false, false, false, false, false, false, false, false, false, false, false] rfl rfl (any_of HT_.out (by kernel_rfl)) (fun _ _ _ h => h) (Or.inl ⟨by rfl, ?_⟩) ?_ ?_
        rotate_left
        · intro w'
          go_simp
          with_reducible rfl
        rotate_left
        · simp only [Act.put, List.setIfInBounds_toArray, List.set_cons_zero, List.set_cons_succ, i64_w, i32_w]
          rfl
        refine pure_ (i := 2) (N := some 52) (v := ?_) (a' := ?_) #[false, true, true, false, false, false, false, false, false, false, false, false, false, false] rfl rfl (any_of HT_.out (by kernel_rfl)) (fun _ _ _ h => h) (Or.inl ⟨by rfl, ?_⟩) ?_ ?_
        rotate_left
        · intro w'
          go_simp
          with_reducible rfl
        rotate_left
        · simp only [Act.put, List.setIfInBounds_toArray, List.set_cons_zero, List.set_cons_succ, i64_w, i32_w]
          rfl
        refine pure_ (i := 3) (N := some 53) (v := ?_) (a' := ?_) #[false, true, true, true, false, false, false, false, false, false, false, false, false, false] rfl rfl (any_of HT_.out (by kernel_rfl)) (fun _ _ _ h => h) (Or.inl ⟨by rfl, ?_⟩) ?_ ?_
        rotate_left
        · intro w'
          go_simp
          with_reducible rfl
        rotate_left
        · simp only [Act.put, List.setIfInBounds_toArray, List.set_cons_zero, List.set_cons_succ, i64_w, i32_w]
          rfl
        refine take_ (i := 0) (N := some 50) (v := r) (a' := ?_) #[true, true, true, true, false, false, false, false, false, false, false, false, false, false] rfl rfl (take_ofW HT_.out HW_.out (by kernel_rfl)) (fun _ _ _ h => h) (Or.inl ⟨by rfl, ?_⟩) hHeld ?_ ?_
        · intro w' hS
          exact hS.run_load (t := 46) rfl rfl (.tail _ <| List.mem_cons_self) (by kernel_rfl) Try.underlying46
        rotate_left
        · simp only [Act.put, List.setIfInBounds_toArray, List.set_cons_zero, List.set_cons_succ, i64_w, i32_w]
          rfl
        refine take_ (i := 4) (N := some 54) (v := ?_) (a' := ?_) #[true, true, true, true, true, false, false, false, false, false, false, false, false, false] rfl rfl (take_ofW HT_.out HW_.out (by kernel_rfl)) (fun _ _ _ h => h) (Or.inl ⟨by rfl, ?_⟩) hHeld ?_ ?_
        rotate_left
        · rintro w' hS
          obtain ⟨L_, hF_, _, _⟩ := hS.out
          obtain ⟨s0, s1, s2, _⟩ := hst _ _ hF_
          go_simp
          with_reducible rfl
        rotate_left
        · simp only [Act.put, List.setIfInBounds_toArray, List.set_cons_zero, List.set_cons_succ, i64_w, i32_w]
          rfl
        refine join_ (σ := Value × Nat) 3 #[true, true, true, true, true, true, true, true, true, true, true, false, false, false] (fun s_ => [(55, .tuple #[s_.1, .int .i64 i', .int .i64 e']), (14, .pointer (some ⟨s_.2, 0, none⟩)), (49, .tuple #[s_.1, .int .i64 i', .int .i64 e']), (56, s_.1), (57, .int .i64 i'), (58, .int .i64 e')]) (fun s_ w' => Fr w ((s_.2, zero46, 46) :: [(gA, u, 28), (gr, r, 46), (gt, v, 28)]) w' ∧ Rt ((s_.2, zero46, 46) :: [(gA, u, 28), (gr, r, 46), (gt, v, 28)]) w' s_.1 (zp ids' rows') room last' ∧ Mv [(gA, u, 28), (gr, r, 46), (gt, v, 28)] wd ((s_.2, zero46, 46) :: [(gA, u, 28), (gr, r, 46), (gt, v, 28)]) w') ?_ ?_
        rotate_left
        · intro hCont
          refine two_ (i := 5) (j := 10) (Ni := some 55) (Nj := some 14) #[true, true, true, true, true, true, false, false, false, false, false, false, false, false] #[true, true, true, true, true, false, false, false, false, false, true, false, false, false] rfl rfl rfl rfl (two_of HT_.out (by kernel_rfl)) (by decide) (by decide) (fun K hK => ?_) (fun K hK => ?_)
          · skip
            refine goes_ Try.func20 (by kernel_rfl) rfl #[r, .agg #[.int .i64 (rd_T50 l (j : Int)).f0, .int .i64 (rd_T50 l (j : Int)).f1, .slice Ae (rd_T50 l (j : Int)).f2.length ce]] (by rfl) rfl rfl (by (try simp only [List.map_toArray, List.map_cons, List.map_nil]); first | done | rfl) ?_
            refine (theirs_c (k := kt) FD (TD.mv (Mv.refl _ _)) (hst _ _ FD).2.2.2 ht).mono ?_
            rintro e w9 ⟨s, rfl, T9, F9, M9⟩
            refine ⟨_, rfl, ?_⟩
            refine hK.out _ _ (Held.of F9 M9 (fun _ h => h)) (fun hHeld => ?_)
            clear hK K
            refine norm_ (a' := ?_) ?_ ?_
            rotate_left
            · show Act.put _ (some 55) _ = _
              simp only [Act.put, List.setIfInBounds_toArray, List.set_cons_zero, List.set_cons_succ, i64_w, i32_w]
              rfl
            refine pure_ (i := 6) (N := some 49) (v := ?_) (a' := ?_) #[true, true, true, true, true, true, true, false, false, false, false, false, false, false] rfl rfl (any_of HT_.out (by kernel_rfl)) (fun _ _ _ h => h) (Or.inl ⟨by rfl, ?_⟩) ?_ ?_
            rotate_left
            · intro w'
              go_simp
              with_reducible rfl
            rotate_left
            · simp only [Act.put, List.setIfInBounds_toArray, List.set_cons_zero, List.set_cons_succ, i64_w, i32_w]
              rfl
            refine pure_ (i := 7) (N := some 56) (v := ?_) (a' := ?_) #[true, true, true, true, true, true, true, true, false, false, false, false, false, false] rfl rfl (any_of HT_.out (by kernel_rfl)) (fun _ _ _ h => h) (Or.inl ⟨by rfl, ?_⟩) ?_ ?_
            rotate_left
            · intro w'
              go_simp
              with_reducible rfl
            rotate_left
            · simp only [Act.put, List.setIfInBounds_toArray, List.set_cons_zero, List.set_cons_succ, i64_w, i32_w]
              rfl
            refine pure_ (i := 8) (N := some 57) (v := ?_) (a' := ?_) #[true, true, true, true, true, true, true, true, true, false, false, false, false, false] rfl rfl (any_of HT_.out (by kernel_rfl)) (fun _ _ _ h => h) (Or.inl ⟨by rfl, ?_⟩) ?_ ?_
            rotate_left
            · intro w'
              go_simp
              with_reducible rfl
            rotate_left
            · simp only [Act.put, List.setIfInBounds_toArray, List.set_cons_zero, List.set_cons_succ, i64_w, i32_w]
              rfl
            refine pure_ (i := 9) (N := some 58) (v := ?_) (a' := ?_) #[true, true, true, true, true, true, true, true, true, true, false, false, false, false] rfl rfl (any_of HT_.out (by kernel_rfl)) (fun _ _ _ h => h) (Or.inl ⟨by rfl, ?_⟩) ?_ ?_
            rotate_left
            · intro w'
              go_simp
              with_reducible rfl
            rotate_left
            · simp only [Act.put, List.setIfInBounds_toArray, List.set_cons_zero, List.set_cons_succ, i64_w, i32_w]
              rfl
            refine one_ (i := 10) (N := some 14) #[true, true, true, true, true, true, true, true, true, true, true, false, false, false] rfl rfl (one_of HT_.out (by kernel_rfl)) (by decide) (fun K hK => ?_)
            refine box_step ?hg (N := 14) ?hd (cs := #[.slice none 0 0, .int .i64 0, .int .i64 0]) (t := 46) ?hr ?_; (case hd => rfl); (case hg => rfl); (case hr => first | (go_simp; done) | (go_simp; rfl))
            intro gB hg w10 hbox hb
            obtain ⟨F10, M10⟩ := F9.new (v := zero46) hg hbox zero46_fits hb
            clear hg hbox hb
            refine hK.out _ _ (Held.of F10 (M9.trans M10) (fun _ h => List.mem_cons_of_mem _ h)) (fun hHeld => ?_)
            clear hK K
            refine norm_ (a' := ?_) ?_ ?_
            rotate_left
            · show Act.put _ (some 14) _ = _
              simp only [Act.put, List.setIfInBounds_toArray, List.set_cons_zero, List.set_cons_succ, i64_w, i32_w]
              rfl
            exact norm_ (by simp only [putAll, Act.put, List.setIfInBounds_toArray, List.set_cons_zero, List.set_cons_succ]) (hCont (s, gB) _ ⟨F10, T9.mv M10, M9.trans M10⟩)
          · skip
            refine box_step ?hg (N := 14) ?hd (cs := #[.slice none 0 0, .int .i64 0, .int .i64 0]) (t := 46) ?hr ?_; (case hd => rfl); (case hg => rfl); (case hr => first | (go_simp; done) | (go_simp; rfl))
            intro gB hg w9 hbox hb
            obtain ⟨F9, M9⟩ := FD.new (v := zero46) hg hbox zero46_fits hb
            clear hg hbox hb
            refine hK.out _ _ (Held.of F9 M9 (fun _ h => List.mem_cons_of_mem _ h)) (fun hHeld => ?_)
            clear hK K
            refine norm_ (a' := ?_) ?_ ?_
            rotate_left
            · show Act.put _ (some 14) _ = _
              simp only [Act.put, List.setIfInBounds_toArray, List.set_cons_zero, List.set_cons_succ, i64_w, i32_w]
              rfl
            refine one_ (i := 5) (N := some 55) #[true, true, true, true, true, true, false, false, false, false, true, false, false, false] rfl rfl (one_of HT_.out (by kernel_rfl)) (by decide) (fun K hK => ?_)
            refine goes_ Try.func20 (by kernel_rfl) rfl #[r, .agg #[.int .i64 (rd_T50 l (j : Int)).f0, .int .i64 (rd_T50 l (j : Int)).f1, .slice Ae (rd_T50 l (j : Int)).f2.length ce]] (by rfl) rfl rfl (by (try simp only [List.map_toArray, List.map_cons, List.map_nil]); first | done | rfl) ?_
            refine (theirs_c (k := kt) F9 (TD.mv M9) (hst _ _ F9).2.2.2 ht).mono ?_
            rintro e w10 ⟨s, rfl, T10, F10, M10⟩
            refine ⟨_, rfl, ?_⟩
            refine hK.out _ _ (Held.of F10 (M9.trans M10) (fun _ h => List.mem_cons_of_mem _ h)) (fun hHeld => ?_)
            clear hK K
            refine norm_ (a' := ?_) ?_ ?_
            rotate_left
            · show Act.put _ (some 55) _ = _
              simp only [Act.put, List.setIfInBounds_toArray, List.set_cons_zero, List.set_cons_succ, i64_w, i32_w]
              rfl
            refine pure_ (i := 6) (N := some 49) (v := ?_) (a' := ?_) #[true, true, true, true, true, true, true, false, false, false, true, false, false, false] rfl rfl (any_of HT_.out (by kernel_rfl)) (fun _ _ _ h => h) (Or.inl ⟨by rfl, ?_⟩) ?_ ?_
            rotate_left
            · intro w'
              go_simp
              with_reducible rfl
            rotate_left
            · simp only [Act.put, List.setIfInBounds_toArray, List.set_cons_zero, List.set_cons_succ, i64_w, i32_w]
              rfl
            refine pure_ (i := 7) (N := some 56) (v := ?_) (a' := ?_) #[true, true, true, true, true, true, true, true, false, false, true, false, false, false] rfl rfl (any_of HT_.out (by kernel_rfl)) (fun _ _ _ h => h) (Or.inl ⟨by rfl, ?_⟩) ?_ ?_
            rotate_left
            · intro w'
              go_simp
              with_reducible rfl
            rotate_left
            · simp only [Act.put, List.setIfInBounds_toArray, List.set_cons_zero, List.set_cons_succ, i64_w, i32_w]
              rfl
            refine pure_ (i := 8) (N := some 57) (v := ?_) (a' := ?_) #[true, true, true, true, true, true, true, true, true, false, true, false, false, false] rfl rfl (any_of HT_.out (by kernel_rfl)) (fun _ _ _ h => h) (Or.inl ⟨by rfl, ?_⟩) ?_ ?_
            rotate_left
            · intro w'
              go_simp
              with_reducible rfl
            rotate_left
            · simp only [Act.put, List.setIfInBounds_toArray, List.set_cons_zero, List.set_cons_succ, i64_w, i32_w]
              rfl
            refine pure_ (i := 9) (N := some 58) (v := ?_) (a' := ?_) #[true, true, true, true, true, true, true, true, true, true, true, false, false, false] rfl rfl (any_of HT_.out (by kernel_rfl)) (fun _ _ _ h => h) (Or.inl ⟨by rfl, ?_⟩) ?_ ?_
            rotate_left
            · intro w'
              go_simp
              with_reducible rfl
            rotate_left
            · simp only [Act.put, List.setIfInBounds_toArray, List.set_cons_zero, List.set_cons_succ, i64_w, i32_w]
              rfl
            exact norm_ (by simp only [putAll, Act.put, List.setIfInBounds_toArray, List.set_cons_zero, List.set_cons_succ]) (hCont (s, gB) _ ⟨F10, T10, M9.trans M10⟩)
        rintro ⟨s, gB⟩ w10 ⟨F10, T10, M10⟩
        have hHeld : Held w [(gA, u, 28), (gr, r, 46), (gt, v, 28)] [(gA, u, 28), (gr, r, 46), (gt, v, 28)] wd w10 := Held.of F10 M10 (fun _ h => List.mem_cons_of_mem _ h)
        refine norm_ (a' := ?_) ?_ ?_
        rotate_left
        · simp only [putAll, Act.put, List.setIfInBounds_toArray, List.set_cons_zero, List.set_cons_succ]
          rfl
        refine one_ (i := 11) (N := none) #[true, true, true, true, true, true, true, true, true, true, true, true, false, false] rfl rfl (one_of HT_.out (by kernel_rfl)) (by decide) (fun K hK => ?_)
        refine skip_ (by rfl) rfl (F10.run_store (v := s) rfl rfl rfl (T10.fits) Put.here) ?_
        obtain ⟨F11, M11⟩ := F10.put (v := s) (Put.here : Put _ _ _ 46 _) (T10.fits)
        generalize World.setCells _ _ _ _ = w11 at F11 M11 ⊢
        refine hK.out _ _ (Held.of F11 (M10.trans M11) (fun _ h => List.mem_cons_of_mem _ h)) (fun hHeld => ?_)
        clear hK K
        have T11 := T10.mv M11
        have M12 := M10.trans M11
        refine pure_ (i := 12) (N := some 15) (v := ?_) (a' := ?_) #[true, true, true, true, true, true, true, true, true, true, true, true, true, false] rfl rfl (any_of HT_.out (by kernel_rfl)) (fun _ _ _ h => h) (Or.inl ⟨by rfl, ?_⟩) ?_ ?_
        rotate_left
        · intro w'
          go_simp
          with_reducible rfl
        rotate_left
        · simp only [Act.put, List.setIfInBounds_toArray, List.set_cons_zero, List.set_cons_succ, i64_w, i32_w]
          rfl
        refine pure_ (i := 13) (N := some 16) (v := ?_) (a' := ?_) #[true, true, true, true, true, true, true, true, true, true, true, true, true, true] rfl rfl (any_of HT_.out (by kernel_rfl)) (fun _ _ _ h => h) (Or.inl ⟨by rfl, ?_⟩) ?_ ?_
        rotate_left
        · intro w'
          go_simp
          with_reducible rfl
        rotate_left
        · simp only [Act.put, List.setIfInBounds_toArray, List.set_cons_zero, List.set_cons_succ, i64_w, i32_w]
          rfl
        refine done_ (done_of HT_.out (by kernel_rfl)) ?_
        have U11 := UD.mv M12
        go_wp2_with (first | ((with_reducible refine gate_dst (N := 59) rfl ?_); refine fr_load (t := 28) (by assumption) rfl rfl rfl (by repeat (first | exact List.mem_cons_self | apply List.mem_cons_of_mem)) (by kernel_rfl) Try.underlying28 ?_) | ((with_reducible refine gate_store (t := 28) (p := 8) rfl ?_); refine fr_store (v := u) (by assumption) rfl rfl rfl rfl rfl T20.fits (by repeat (first | exact Put.here | apply Put.there)) ?_; intro w21 F21 M21) | ((with_reducible refine gate_dst (N := 60) rfl ?_); refine fr_load (t := 46) (by assumption) rfl rfl rfl (by repeat (first | exact List.mem_cons_self | apply List.mem_cons_of_mem)) (by kernel_rfl) Try.underlying46 ?_) | ((with_reducible refine gate_store (t := 46) (p := 9) rfl ?_); refine fr_store (v := s) (by assumption) rfl rfl rfl rfl rfl T11.fits (by repeat (first | exact Put.here | apply Put.there)) ?_; intro w22 F22 M22) | ((with_reducible refine gate_dst (N := 62) rfl ?_); refine fr_load (t := 28) (by assumption) rfl rfl rfl (by repeat (first | exact List.mem_cons_self | apply List.mem_cons_of_mem)) (by kernel_rfl) Try.underlying28 ?_) | ((with_reducible refine gate_callee (f := 13) rfl ?_); refine goesL_ (some 64) rfl rfl Try.func13 (by kernel_rfl) rfl #[u, .int .i64 id] rfl (by (try simp only [List.map_toArray, List.map_cons, List.map_nil]); first | done | rfl) ?_; refine (get_c F22 (U11.mv (M21.trans M22)) hget).mono ?_; rintro e wa ⟨x0, rfl, X0, Fa, Ma⟩; refine ⟨_, rfl, ?_⟩) | ((with_reducible refine gate_dst (N := 68) rfl ?_); refine fr_load (t := 46) (by assumption) rfl rfl rfl (by repeat (first | exact List.mem_cons_self | apply List.mem_cons_of_mem)) (by kernel_rfl) Try.underlying46 ?_) | ((with_reducible refine gate_callee (f := 21) rfl ?_); refine goesL_ (some 70) rfl rfl Try.func21 (by kernel_rfl) rfl #[s, .int .i64 id] rfl (by (try simp only [List.map_toArray, List.map_cons, List.map_nil]); first | done | rfl) ?_; refine (get_r Fa (T11.mv ((M21.trans M22).trans Ma)) hrget).mono ?_; rintro e wb ⟨y0, rfl, Y0, Fb, Mb⟩; refine ⟨_, rfl, ?_⟩))
        have MM := (((M21.trans M22).trans Ma).trans Mb).tail.tail
        have Fz := Fb.tail.tail
        have Ub := U11.mv MM
        have Rb := T11.mv MM
        have Xb := X0.mv Mb.tail.tail
        have Yb := Y0.mv (Mv.refl _ _).tail.tail
        clear MM Fa Fb
        refine start_ (n := 27) (S := Held w [(gr, s, 46), (gt, u, 28)] [(gr, s, 46), (gt, u, 28)] (World.drew _)) (ds := []) #[false, false, false, false, false, false, false, false, false, false, false, false, false, false, false, false, false, false, false, false, false, false, false, false, false, false, false] (by kernel_rfl) rfl rfl (Held.start Fz) (fun hHeld => ?_); refine with_tabW iL.tab15 iL.bits15 (fun HT_ HW_ => ?_)
        have FD := Fz.drew
        have UD2 := Ub.mv (Mv.refl _ _).drew
        have RD2 := Rb.mv (Mv.refl _ _).drew
        have XD2 := Xb.mv (Mv.refl _ _).drew
        have YD2 := Yb.mv (Mv.refl _ _).drew
        generalize World.drew _ = w30 at FD UD2 RD2 XD2 YD2 hHeld ⊢
        refine pure_ (i := 0) (N := some 73) (v := ?_) (a' := ?_) #[true, false, false, false, false, false, false, false, false, false, false, false, false, false, false, false, false, false, false, false, false, false, false, false, false, false, false] rfl rfl (any_of HT_.out (by kernel_rfl)) (fun _ _ _ h => h) (Or.inl ⟨by rfl, ?_⟩) ?_ ?_
        rotate_left
        · intro w'
          go_simp
          with_reducible rfl
        rotate_left
        · simp only [Act.put, List.setIfInBounds_toArray, List.set_cons_zero, List.set_cons_succ, i64_w, i32_w]
          rfl
        refine pure_ (i := 1) (N := some 74) (v := ?_) (a' := ?_) #[true, true, false, false, false, false, false, false, false, false, false, false, false, false, false, false, false, false, false, false, false, false, false, false, false, false, false] rfl rfl (any_of HT_.out (by kernel_rfl)) (fun _ _ _ h => h) (Or.inl ⟨by rfl, ?_⟩) ?_ ?_
        rotate_left
        · intro w'
          go_simp
          with_reducible rfl
        rotate_left
        · simp only [Act.put, List.setIfInBounds_toArray, List.set_cons_zero, List.set_cons_succ, i64_w, i32_w]
          rfl
        refine pure_ (i := 2) (N := some 75) (v := ?_) (a' := ?_) #[true, true, true, false, false, false, false, false, false, false, false, false, false, false, false, false, false, false, false, false, false, false, false, false, false, false, false] rfl rfl (any_of HT_.out (by kernel_rfl)) (fun _ _ _ h => h) (Or.inl ⟨by rfl, ?_⟩) ?_ ?_
        rotate_left
        · intro w'
          go_simp
          with_reducible rfl
        rotate_left
        · simp only [Act.put, List.setIfInBounds_toArray, List.set_cons_zero, List.set_cons_succ, i64_w, i32_w]
          rfl
        refine pure_ (i := 3) (N := some 76) (v := ?_) (a' := ?_) #[true, true, true, true, false, false, false, false, false, false, false, false, false, false, false, false, false, false, false, false, false, false, false, false, false, false, false] rfl rfl (any_of HT_.out (by kernel_rfl)) (fun _ _ _ h => h) (Or.inl ⟨by rfl, ?_⟩) ?_ ?_
        rotate_left
        · intro w'
          go_simp
          with_reducible rfl
        rotate_left
        · simp only [Act.put, List.setIfInBounds_toArray, List.set_cons_zero, List.set_cons_succ, i64_w, i32_w]
          rfl
        refine pure_ (i := 4) (N := some 77) (v := ?_) (a' := ?_) #[true, true, true, true, true, false, false, false, false, false, false, false, false, false, false, false, false, false, false, false, false, false, false, false, false, false, false] rfl rfl (any_of HT_.out (by kernel_rfl)) (fun _ _ _ h => h) (Or.inl ⟨by rfl, ?_⟩) ?_ ?_
        rotate_left
        · intro w'
          go_simp
          with_reducible rfl
        rotate_left
        · simp only [Act.put, List.setIfInBounds_toArray, List.set_cons_zero, List.set_cons_succ, i64_w, i32_w]
          rfl
        refine pure_ (i := 5) (N := some 78) (v := ?_) (a' := ?_) #[true, true, true, true, true, true, false, false, false, false, false, false, false, false, false, false, false, false, false, false, false, false, false, false, false, false, false] rfl rfl (any_of HT_.out (by kernel_rfl)) (fun _ _ _ h => h) (Or.inl ⟨by rfl, ?_⟩) ?_ ?_
        rotate_left
        · intro w'
          go_simp
          with_reducible rfl
        rotate_left
        · simp only [Act.put, List.setIfInBounds_toArray, List.set_cons_zero, List.set_cons_succ, i64_w, i32_w]
          rfl
        refine pure_ (i := 6) (N := some 79) (v := ?_) (a' := ?_) #[true, true, true, true, true, true, true, false, false, false, false, false, false, false, false, false, false, false, false, false, false, false, false, false, false, false, false] rfl rfl (any_of HT_.out (by kernel_rfl)) (fun _ _ _ h => h) (Or.inl ⟨by rfl, ?_⟩) ?_ ?_
        rotate_left
        · intro w'
          go_simp
          with_reducible rfl
        rotate_left
        · simp only [Act.put, List.setIfInBounds_toArray, List.set_cons_zero, List.set_cons_succ, i64_w, i32_w]
          rfl
        refine pure_ (i := 7) (N := some 80) (v := ?_) (a' := ?_) #[true, true, true, true, true, true, true, true, false, false, false, false, false, false, false, false, false, false, false, false, false, false, false, false, false, false, false] rfl rfl (any_of HT_.out (by kernel_rfl)) (fun _ _ _ h => h) (Or.inl ⟨by rfl, ?_⟩) ?_ ?_
        rotate_left
        · intro w'
          go_simp
          with_reducible rfl
        rotate_left
        · simp only [Act.put, List.setIfInBounds_toArray, List.set_cons_zero, List.set_cons_succ, i64_w, i32_w]
          rfl
        refine pure_ (i := 8) (N := some 81) (v := ?_) (a' := ?_) #[true, true, true, true, true, true, true, true, true, false, false, false, false, false, false, false, false, false, false, false, false, false, false, false, false, false, false] rfl rfl (any_of HT_.out (by kernel_rfl)) (fun _ _ _ h => h) (Or.inl ⟨by rfl, ?_⟩) ?_ ?_
        rotate_left
        · intro w'
          go_simp
          with_reducible rfl
        rotate_left
        · simp only [Act.put, List.setIfInBounds_toArray, List.set_cons_zero, List.set_cons_succ, i64_w, i32_w]
          rfl
        refine pure_ (i := 9) (N := some 82) (v := ?_) (a' := ?_) #[true, true, true, true, true, true, true, true, true, true, false, false, false, false, false, false, false, false, false, false, false, false, false, false, false, false, false] rfl rfl (any_of HT_.out (by kernel_rfl)) (fun _ _ _ h => h) (Or.inl ⟨by rfl, ?_⟩) ?_ ?_
        rotate_left
        · intro w'
          go_simp
          with_reducible rfl
        rotate_left
        · simp only [Act.put, List.setIfInBounds_toArray, List.set_cons_zero, List.set_cons_succ, i64_w, i32_w]
          rfl
        refine pure_ (i := 10) (N := some 83) (v := ?_) (a' := ?_) #[true, true, true, true, true, true, true, true, true, true, true, false, false, false, false, false, false, false, false, false, false, false, false, false, false, false, false] rfl rfl (any_of HT_.out (by kernel_rfl)) (fun _ _ _ h => h) (Or.inl ⟨by rfl, ?_⟩) ?_ ?_
        rotate_left
        · intro w'
          go_simp
          with_reducible rfl
        rotate_left
        · simp only [Act.put, List.setIfInBounds_toArray, List.set_cons_zero, List.set_cons_succ, i64_w, i32_w]
          rfl
        refine one_ (i := 11) (N := some 84) #[true, true, true, true, true, true, true, true, true, true, true, true, false, false, false, false, false, false, false, false, false, false, false, false, false, false, false] rfl rfl (one_of HT_.out (by kernel_rfl)) (by decide) (fun K hK => ?_)
        refine goes_ Try.func14 (by kernel_rfl) rfl #[x0, y0] (by rfl) rfl rfl (by (try simp only [List.map_toArray, List.map_cons, List.map_nil]); first | done | rfl) ?_
        refine (same_c FD XD2 YD2 hsame).mono ?_
        rintro e w31 ⟨rfl, F31, M31⟩
        refine ⟨_, rfl, ?_⟩
        refine hK.out _ _ (Held.of F31 M31 (fun _ h => h)) (fun hHeld => ?_)
        clear hK K
        refine norm_ (a' := ?_) ?_ ?_
        rotate_left
        · show Act.put _ (some 84) _ = _
          simp only [Act.put, List.setIfInBounds_toArray, List.set_cons_zero, List.set_cons_succ, i64_w, i32_w]
          rfl
        refine pure_ (i := 12) (N := some 85) (v := ?_) (a' := ?_) #[true, true, true, true, true, true, true, true, true, true, true, true, true, false, false, false, false, false, false, false, false, false, false, false, false, false, false] rfl rfl (any_of HT_.out (by kernel_rfl)) (fun _ _ _ h => h) (Or.inl ⟨by rfl, ?_⟩) ?_ ?_
        rotate_left
        · intro w'
          go_simp
          with_reducible rfl
        rotate_left
        · simp only [Act.put, List.setIfInBounds_toArray, List.set_cons_zero, List.set_cons_succ, i64_w, i32_w]
          rfl
        refine pure_ (i := 13) (N := some 86) (v := ?_) (a' := ?_) #[true, true, true, true, true, true, true, true, true, true, true, true, true, true, false, false, false, false, false, false, false, false, false, false, false, false, false] rfl rfl (any_of HT_.out (by kernel_rfl)) (fun _ _ _ h => h) (Or.inl ⟨by rfl, ?_⟩) ?_ ?_
        rotate_left
        · intro w'
          go_simp
          with_reducible rfl
        rotate_left
        · simp only [Act.put, List.setIfInBounds_toArray, List.set_cons_zero, List.set_cons_succ, i64_w, i32_w]
          rfl
        refine pure_ (i := 14) (N := some 87) (v := ?_) (a' := ?_) #[true, true, true, true, true, true, true, true, true, true, true, true, true, true, true, false, false, false, false, false, false, false, false, false, false, false, false] rfl rfl (any_of HT_.out (by kernel_rfl)) (fun _ _ _ h => h) (Or.inl ⟨by rfl, ?_⟩) ?_ ?_
        rotate_left
        · intro w'
          go_simp
          with_reducible rfl
        rotate_left
        · simp only [Act.put, List.setIfInBounds_toArray, List.set_cons_zero, List.set_cons_succ, i64_w, i32_w]
          rfl
        refine pure_ (i := 15) (N := some 88) (v := ?_) (a' := ?_) #[true, true, true, true, true, true, true, true, true, true, true, true, true, true, true, true, false, false, false, false, false, false, false, false, false, false, false] rfl rfl (any_of HT_.out (by kernel_rfl)) (fun _ _ _ h => h) (Or.inl ⟨by rfl, ?_⟩) ?_ ?_
        rotate_left
        · intro w'
          go_simp
          with_reducible rfl
        rotate_left
        · simp only [Act.put, List.setIfInBounds_toArray, List.set_cons_zero, List.set_cons_succ, i64_w, i32_w]
          rfl
        refine pure_ (i := 16) (N := some 89) (v := ?_) (a' := ?_) #[true, true, true, true, true, true, true, true, true, true, true, true, true, true, true, true, true, false, false, false, false, false, false, false, false, false, false] rfl rfl (any_of HT_.out (by kernel_rfl)) (fun _ _ _ h => h) (Or.inl ⟨by rfl, ?_⟩) ?_ ?_
        rotate_left
        · intro w'
          go_simp
          with_reducible rfl
        rotate_left
        · simp only [Act.put, List.setIfInBounds_toArray, List.set_cons_zero, List.set_cons_succ, i64_w, i32_w]
          rfl
        refine pure_ (i := 17) (N := some 90) (v := ?_) (a' := ?_) #[true, true, true, true, true, true, true, true, true, true, true, true, true, true, true, true, true, true, false, false, false, false, false, false, false, false, false] rfl rfl (any_of HT_.out (by kernel_rfl)) (fun _ _ _ h => h) (Or.inl ⟨by rfl, ?_⟩) ?_ ?_
        rotate_left
        · intro w'
          go_simp
          with_reducible rfl
        rotate_left
        · simp only [Act.put, List.setIfInBounds_toArray, List.set_cons_zero, List.set_cons_succ, i64_w, i32_w]
          rfl
        refine pure_ (i := 18) (N := some 91) (v := ?_) (a' := ?_) #[true, true, true, true, true, true, true, true, true, true, true, true, true, true, true, true, true, true, true, false, false, false, false, false, false, false, false] rfl rfl (any_of HT_.out (by kernel_rfl)) (fun _ _ _ h => h) (Or.inl ⟨by rfl, ?_⟩) ?_ ?_
        rotate_left
        · intro w'
          go_simp
          with_reducible rfl
        rotate_left
        · simp only [Act.put, List.setIfInBounds_toArray, List.set_cons_zero, List.set_cons_succ, i64_w, i32_w]
          rfl
        refine pure_ (i := 19) (N := some 92) (v := ?_) (a' := ?_) #[true, true, true, true, true, true, true, true, true, true, true, true, true, true, true, true, true, true, true, true, false, false, false, false, false, false, false] rfl rfl (any_of HT_.out (by kernel_rfl)) (fun _ _ _ h => h) (Or.inl ⟨by rfl, ?_⟩) ?_ ?_
        rotate_left
        · intro w'
          go_simp
          with_reducible rfl
        rotate_left
        · simp only [Act.put, List.setIfInBounds_toArray, List.set_cons_zero, List.set_cons_succ, i64_w, i32_w]
          rfl
        refine take_ (i := 20) (N := some 93) (v := u) (a' := ?_) #[true, true, true, true, true, true, true, true, true, true, true, true, true, true, true, true, true, true, true, true, true, false, false, false, false, false, false] rfl rfl (take_ofW HT_.out HW_.out (by kernel_rfl)) (fun _ _ _ h => h) (Or.inl ⟨by rfl, ?_⟩) hHeld ?_ ?_
        · intro w' hS
          exact hS.run_load (t := 28) rfl rfl (.tail _ <| List.mem_cons_self) (by kernel_rfl) Try.underlying28
        rotate_left
        · simp only [Act.put, List.setIfInBounds_toArray, List.set_cons_zero, List.set_cons_succ, i64_w, i32_w]
          rfl
        refine take_ (i := 22) (N := some 95) (v := s) (a' := ?_) #[true, true, true, true, true, true, true, true, true, true, true, true, true, true, true, true, true, true, true, true, true, false, true, false, false, false, false] rfl rfl (take_ofW HT_.out HW_.out (by kernel_rfl)) (fun _ _ _ h => h) (Or.inl ⟨by rfl, ?_⟩) hHeld ?_ ?_
        · intro w' hS
          exact hS.run_load (t := 46) rfl rfl (List.mem_cons_self) (by kernel_rfl) Try.underlying46
        rotate_left
        · simp only [Act.put, List.setIfInBounds_toArray, List.set_cons_zero, List.set_cons_succ, i64_w, i32_w]
          rfl
        refine one_ (i := 21) (N := some 94) #[true, true, true, true, true, true, true, true, true, true, true, true, true, true, true, true, true, true, true, true, true, true, true, false, false, false, false] rfl rfl (one_of HT_.out (by kernel_rfl)) (by decide) (fun K hK => ?_)
        refine goes_ Try.func15 (by kernel_rfl) rfl #[u] (by rfl) rfl rfl (by (try simp only [List.map_toArray, List.map_cons, List.map_nil]); first | done | rfl) ?_
        refine (ids_c F31 (UD2.mv M31) hids').mono ?_
        rintro e w32 ⟨y1, rfl, Y1, F32, M32⟩
        refine ⟨_, rfl, ?_⟩
        refine hK.out _ _ (Held.of F32 (M31.trans M32) (fun _ h => h)) (fun hHeld => ?_)
        clear hK K
        refine norm_ (a' := ?_) ?_ ?_
        rotate_left
        · show Act.put _ (some 94) _ = _
          simp only [Act.put, List.setIfInBounds_toArray, List.set_cons_zero, List.set_cons_succ, i64_w, i32_w]
          rfl
        refine one_ (i := 23) (N := some 96) #[true, true, true, true, true, true, true, true, true, true, true, true, true, true, true, true, true, true, true, true, true, true, true, true, false, false, false] rfl rfl (one_of HT_.out (by kernel_rfl)) (by decide) (fun K hK => ?_)
        refine goes_ Try.func23 (by kernel_rfl) rfl #[s] (by rfl) rfl rfl (by (try simp only [List.map_toArray, List.map_cons, List.map_nil]); first | done | rfl) ?_
        refine (ids_r (k := ki) F32 (RD2.mv (M31.trans M32)) hrid).mono ?_
        rintro e w33 ⟨y2, rfl, Y2, F33, M33⟩
        refine ⟨_, rfl, ?_⟩
        refine hK.out _ _ (Held.of F33 ((M31.trans M32).trans M33) (fun _ h => h)) (fun hHeld => ?_)
        clear hK K
        refine norm_ (a' := ?_) ?_ ?_
        rotate_left
        · show Act.put _ (some 96) _ = _
          simp only [Act.put, List.setIfInBounds_toArray, List.set_cons_zero, List.set_cons_succ, i64_w, i32_w]
          rfl
        refine one_ (i := 24) (N := some 97) #[true, true, true, true, true, true, true, true, true, true, true, true, true, true, true, true, true, true, true, true, true, true, true, true, true, false, false] rfl rfl (one_of HT_.out (by kernel_rfl)) (by decide) (fun K hK => ?_)
        refine goes_ Try.func22 (by kernel_rfl) rfl #[y1, y2] (by rfl) rfl rfl (by (try simp only [List.map_toArray, List.map_cons, List.map_nil]); first | done | rfl) ?_
        refine (ints_c F33 (Y1.mv M33) Y2 hint).mono ?_
        rintro e w34 ⟨rfl, F34, M34⟩
        refine ⟨_, rfl, ?_⟩
        refine hK.out _ _ (Held.of F34 (((M31.trans M32).trans M33).trans M34) (fun _ h => h)) (fun hHeld => ?_)
        clear hK K
        refine norm_ (a' := ?_) ?_ ?_
        rotate_left
        · show Act.put _ (some 97) _ = _
          simp only [Act.put, List.setIfInBounds_toArray, List.set_cons_zero, List.set_cons_succ, i64_w, i32_w]
          rfl
        refine pure_ (i := 25) (N := some 98) (v := ?_) (a' := ?_) #[true, true, true, true, true, true, true, true, true, true, true, true, true, true, true, true, true, true, true, true, true, true, true, true, true, true, false] rfl rfl (any_of HT_.out (by kernel_rfl)) (fun _ _ _ h => h) (Or.inl ⟨by rfl, ?_⟩) ?_ ?_
        rotate_left
        · intro w'
          go_simp
          with_reducible rfl
        rotate_left
        · simp only [Act.put, List.setIfInBounds_toArray, List.set_cons_zero, List.set_cons_succ, i64_w, i32_w]
          rfl
        refine pure_ (i := 26) (N := some 99) (v := ?_) (a' := ?_) #[true, true, true, true, true, true, true, true, true, true, true, true, true, true, true, true, true, true, true, true, true, true, true, true, true, true, true] rfl rfl (any_of HT_.out (by kernel_rfl)) (fun _ _ _ h => h) (Or.inl ⟨by rfl, ?_⟩) ?_ ?_
        rotate_left
        · intro w'
          go_simp
          with_reducible rfl
        rotate_left
        · simp only [Act.put, List.setIfInBounds_toArray, List.set_cons_zero, List.set_cons_succ, i64_w, i32_w]
          rfl
        refine done_ (done_of HT_.out (by kernel_rfl)) ?_
        go_wp2
        go_roundw
        case rel => exact ⟨⟨j + 1, u, s, ids', rows', room, last', by go_num, by omega, F34, UD2.mv (((M31.trans M32).trans M33).trans M34), RD2.mv (((M31.trans M32).trans M33).trans M34), hO', hrows'⟩⟩
        case measure => simp [intOf]; omega
      · have hi2 : ¬ ((j : Int) < (l.length : Int)) := by omega
        have hi3 := decide_eq_false hi2
        have hk : snaps_Keep.f [] [] 0 0 [] = some ([], [], 0, 0, 0, 10) := keep_none [] [] 0 0 [] (by simp)
        have hids0 : snaps_IDs.f [] [] 0 0 = some [] := ids_some _ _ _ _ (by simp)
        clear hOl hsh hlow hhigh hasc
        go_wp2_with (first | ((with_reducible refine gate_callee (f := 12) rfl ?_); refine goesL_ (some 102) rfl rfl Try.func12 (by kernel_rfl) rfl #[.agg #[.slice none 0 0, .slice none 0 0, .int .i64 0, .int .i64 0], .slice none 0 0] rfl (by (try simp only [List.map_toArray, List.map_cons, List.map_nil]); first | done | rfl) ?_; refine (keep_c F (Tb.zero _ _) (Vw.nil _ _ _) hk).mono ?_; rintro e wa ⟨v8, rfl, T8, Fa, Ma⟩; refine ⟨_, rfl, ?_⟩) | ((with_reducible refine gate_dst (N := 21) rfl ?_); refine fr_new (N := 21) (by assumption) rfl rfl (zero28) 28 zero_fits ?hr ?_; (case hr => first | (go_simp; done) | (go_simp; rfl)); intro gz wb Fb Mb) | ((with_reducible refine gate_store (t := 28) (p := 21) rfl ?_); refine fr_store (v := v8) (by assumption) rfl rfl rfl rfl rfl T8.fits (by repeat (first | exact Put.here | apply Put.there)) ?_; intro wc Fc Mc) | ((with_reducible refine gate_callee (f := 15) rfl ?_); (try (refine gate_guard (by rfl) ?_; dsimp only)); refine goesL_ (some 117) rfl rfl Try.func15 (by kernel_rfl) rfl #[.agg #[.slice none 0 0, .slice none 0 0, .int .i64 0, .int .i64 0]] rfl (by (try simp only [List.map_toArray, List.map_cons, List.map_nil]); first | done | rfl) ?_; refine (ids_c Fc (Tb.zero _ _) hids0).mono ?_; rintro e we ⟨y0, rfl, Y0, Fe, Me⟩; obtain ⟨Ay, cy, rfl, _, _⟩ := Y0.sl; refine ⟨_, rfl, ?_⟩))
        go_ret
        exact ⟨rfl, Fe.bel⟩
end Go.Proofs.Ytkabbahfaeeihaa.Q
