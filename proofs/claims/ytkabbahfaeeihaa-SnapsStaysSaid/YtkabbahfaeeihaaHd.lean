/- Oldest, done and awake, walked by hand in the words of Hw and Hc. -/
import Derived.Test.YtkabbahfaeeihaaHc
import Derived.Test.YtkabbahfaeeihaaPlain
import Derived.Test.YtkabbahfaeeihaaQ27
import Derived.Test.YtkabbahfaeeihaaQ28
namespace Go.Proofs.Ytkabbahfaeeihaa.Q
open Go.RowKit Go.Proofs.YtkabbahfaeeihaaW.PrintWords Go.Proofs.YtkabbahfaeeihaaW.PrintLast Go.Proofs.YtkabbahfaeeihaaW.PrintMore
set_option linter.unusedVariables false
set_option linter.unusedSimpArgs false
variable {w W : World} {L : List Box} {v u : Value} {ids : List Int} {rows : List (List S72)} {room last : Int} {l : List S72} {r1 : List Int} {r2 : List (List S72)} {r3 r4 r5 r6 : Int}
set_option maxHeartbeats 8000000 in
set_option maxRecDepth 100000 in
theorem oldest_c (hF : Fr w L W) (hT : Tb L W v ids rows room last) (h : snaps_Oldest.f ids rows room last = some (r1, r2, r3, r4, r5)) :
    Calls Try.prog 25 #[v] W fun e W' => ∃ v', e = .returned (.tuple #[v', .int .i64 r5]) ∧ Tb L W' v' r1 r2 r3 r4 ∧ Fr w L W' ∧ Mv L W L W' := by
  obtain ⟨A0, c0, A1, c1, rfl, h0, h1⟩ := hT.out
  have hu28 := Try.underlying28
  unfold snaps_Oldest.f at h
  by_cases c : (ids.length : Int) = 0
  · rw [if_pos c] at h
    simp only [Option.some.injEq, Prod.mk.injEq] at h
    obtain ⟨rfl, rfl, rfl, rfl, rfl⟩ := h
    have cb : ((ids.length : Int) == 0) = true := beq_iff_eq.mpr c
    clear c
    go_enter Try.func25, Try.ntmps25
    go_wp2_with (first | ((with_reducible refine gate_dst (N := 1) rfl ?_); refine fr_new (N := 1) (by assumption) rfl rfl ((.agg #[.slice A0 ids.length c0, .slice A1 rows.length c1, .int .i64 room, .int .i64 last])) 28 hT.fits ?hr ?_; (case hr => first | (go_simp; done) | (go_simp; rfl)); intro g1 w1 F1 M1) | ((with_reducible refine gate_dst (N := 2) rfl ?_); refine fr_new (N := 2) (by assumption) rfl rfl (zero28) 28 zero_fits ?hr ?_; (case hr => first | (go_simp; done) | (go_simp; rfl)); intro g2 w2 F2 M2) | ((with_reducible refine gate_dst (N := 6) rfl ?_); refine fr_cell (by assumption) rfl rfl rfl (by repeat (first | exact List.mem_cons_self | apply List.mem_cons_of_mem)) rfl (Try.isAgg24 _) ?_) | ((with_reducible refine gate_dst (N := 9) rfl ?_); refine fr_load (t := 28) (by assumption) rfl rfl rfl (by repeat (first | exact List.mem_cons_self | apply List.mem_cons_of_mem)) (by kernel_rfl) Try.underlying28 ?_) | ((with_reducible refine gate_store (t := 28) (p := 2) rfl ?_); refine fr_store (v := (.agg #[.slice A0 ids.length c0, .slice A1 rows.length c1, .int .i64 room, .int .i64 last])) (by assumption) rfl rfl rfl rfl rfl hT.fits (by repeat (first | exact Put.here | apply Put.there)) ?_; intro w3 F3 M3))
    refine bodyPost_ret (results_ct rfl _ _ g2 28 _ (0, 0) _ rfl (F3.at List.mem_cons_self) Try.underlying28 rfl (by kernel_rfl)) rfl ?_
    have M := ((M1.trans M2).trans M3).tail.tail
    exact ⟨_, rfl, hT.mv M, F3.tail.tail, M⟩
  · rw [if_neg c] at h
    obtain ⟨⟨x1, x2, x3, x4⟩, hw, h⟩ := Option.bind_eq_some_iff.1 h
    have h' : (if 0 < (ids.length : Int) then some (x1, x2, x3, x4, rd ids 0) else none) = some (r1, r2, r3, r4, r5) := h
    clear h
    have q : (0 : Int) < (ids.length : Int) := by omega
    rw [if_pos q] at h'
    simp only [Option.some.injEq, Prod.mk.injEq] at h'
    obtain ⟨rfl, rfl, rfl, rfl, rfl⟩ := h'
    have cb : ((ids.length : Int) == 0) = false := beq_eq_false_iff_ne.mpr c
    obtain ⟨ad, rfl, hx⟩ := h0.int_at 0 (by decide) q
    rw [show ((0 : Int)).toNat = 0 from rfl, Addr.add_zero'] at hx
    have p1 : ((0 : Int) ≤ 0) = True := eq_true (by decide)
    have q1 := eq_true q
    have qn : (0 < ids.length) = True := eq_true (by omega)
    clear c q
    go_enter Try.func25, Try.ntmps25
    go_wp2_with (first | ((with_reducible refine gate_dst (N := 1) rfl ?_); refine fr_new (N := 1) (by assumption) rfl rfl ((.agg #[.slice (some ad) ids.length c0, .slice A1 rows.length c1, .int .i64 room, .int .i64 last])) 28 hT.fits ?hr ?_; (case hr => first | (go_simp; done) | (go_simp; rfl)); intro g1 w1 F1 M1) | ((with_reducible refine gate_dst (N := 2) rfl ?_); refine fr_new (N := 2) (by assumption) rfl rfl (zero28) 28 zero_fits ?hr ?_; (case hr => first | (go_simp; done) | (go_simp; rfl)); intro g2 w2 F2 M2) | ((with_reducible refine gate_dst (N := 6) rfl ?_); refine fr_cell (by assumption) rfl rfl rfl (by repeat (first | exact List.mem_cons_self | apply List.mem_cons_of_mem)) rfl (Try.isAgg24 _) ?_))
    go_region_held3 (fun w' => w'.cell? ⟨g1, 0, none⟩ = some (.slice (some ad) ids.length c0) ∧ w'.cell? ⟨g1, 1, none⟩ = some (.slice A1 rows.length c1) ∧ w'.cell? ⟨g1, 2, none⟩ = some (.int .i64 room) ∧ w'.cell? ⟨g1, 3, none⟩ = some (.int .i64 last) ∧ w'.cell? ad = some (.int .i64 (rd ids 0)))
      (first | exact ⟨F2.drew.cell (.tail _ <| List.mem_cons_self) 0 rfl, F2.drew.cell (.tail _ <| List.mem_cons_self) 1 rfl, F2.drew.cell (.tail _ <| List.mem_cons_self) 2 rfl, F2.drew.cell (.tail _ <| List.mem_cons_self) 3 rfl, hx _ _ (M1.trans M2).drew⟩ | exact ⟨F3.cell (.tail _ <| List.mem_cons_self) 0 rfl, F3.cell (.tail _ <| List.mem_cons_self) 1 rfl, F3.cell (.tail _ <| List.mem_cons_self) 2 rfl, F3.cell (.tail _ <| List.mem_cons_self) 3 rfl, hx _ _ MM⟩ | exact ⟨F4.1.cell (.tail _ <| List.mem_cons_self) 0 rfl, F4.1.cell (.tail _ <| List.mem_cons_self) 1 rfl, F4.1.cell (.tail _ <| List.mem_cons_self) 2 rfl, F4.1.cell (.tail _ <| List.mem_cons_self) 3 rfl, hx _ _ MN⟩)
      (first | (go_at_call 31; refine (without_c F2.drew (hT.mv (M1.trans M2).drew) hw).mono ?_; rintro e w3 ⟨v', rfl, T3, F3, M3⟩; obtain ⟨B0, d0, B1, d1, rfl, _, _⟩ := T3.out; have MM := (M1.trans M2).drew.trans M3; have c3_0 := F3.cell (List.mem_cons_self) 0 rfl; have f3_0 := F3.frozen (List.mem_cons_self) 0; have c3_1 := F3.cell (List.mem_cons_self) 1 rfl; have f3_1 := F3.frozen (List.mem_cons_self) 1; have c3_2 := F3.cell (List.mem_cons_self) 2 rfl; have f3_2 := F3.frozen (List.mem_cons_self) 2; have c3_3 := F3.cell (List.mem_cons_self) 3 rfl; have f3_3 := F3.frozen (List.mem_cons_self) 3; have F4 := F3.put4 Put.here T3.fits; have MN := MM.trans F4.2))
    go_wp2
    refine bodyPost_ret (results_ct rfl _ _ g2 28 _ (0, 0) _ rfl (F4.1.at List.mem_cons_self) Try.underlying28 rfl (by kernel_rfl)) rfl ?_
    exact ⟨_, rfl, T3.mv F4.2.tail.tail, F4.1.tail.tail, MN.tail.tail⟩

theorem fits50 {what I : Int} {A : Option Addr} {n c : Nat} : Fits (.agg #[.int .i64 what, .int .i64 I, .slice A n c]) 50 := ⟨rfl, fun _ => by kernel_rfl, fun _ q hq => by
  simp only [Value.cells, List.mem_cons, List.not_mem_nil, or_false] at hq
  rcases hq with rfl | rfl | rfl <;> rfl⟩
set_option maxHeartbeats 8000000 in
set_option maxRecDepth 100000 in
theorem done_kept {k : Nat} {what I : Int} {A : Option Addr} {c : Nat} {t : List S72} (hF : Fr w L W) (hT : Tb L W v ids rows room last) (hl : Vw k72 L W (.slice A t.length c) t) (c0 : (Go.bits .and .i64 what 3) = 0) (hk : snaps_Keep.f ids rows room last t = some (r1, r2, r3, r4, r5, 0)) :
    Calls Try.prog 19 #[v, .agg #[.int .i64 what, .int .i64 I, .slice A t.length c]] W fun e W' => ∃ v', e = .returned (.tuple #[v', .int .i64 r5, .int .i64 0]) ∧ Tb L W' v' r1 r2 r3 r4 ∧ Fr w L W' ∧ Mv L W L W' := by
  have hu28 := Try.underlying28
  have hu50 := Try.underlying50
  have qa : ((Go.bits .and .i64 what 3) == 0) = true := beq_iff_eq.mpr c0
  have qan : ((Go.bits .and .i64 what 3) != 0) = false := bne_eq_false_iff_eq.mpr c0
  go_enter Try.func19, Try.ntmps19
  go_wp2_with (first | ((with_reducible refine gate_dst (N := 2) rfl ?_); refine fr_new (N := 2) (by assumption) rfl rfl (v) 28 hT.fits ?hr ?_; (case hr => first | (go_simp; done) | (go_simp; rfl)); intro g2 w1 F1 M1) | ((with_reducible refine gate_dst (N := 3) rfl ?_); refine fr_new (N := 3) (by assumption) rfl rfl ((.agg #[.int .i64 what, .int .i64 I, .slice A t.length c])) 50 fits50 ?hr ?_; (case hr => first | (go_simp; done) | (go_simp; rfl)); intro g3 w2 F2 M2) | ((with_reducible refine gate_dst (N := 4) rfl ?_); refine fr_new (N := 4) (by assumption) rfl rfl (zero28) 28 zero_fits ?hr ?_; (case hr => first | (go_simp; done) | (go_simp; rfl)); intro g4 w3 F3 M3) | ((with_reducible refine gate_dst (N := 15) rfl ?_); refine fr_cell (by assumption) rfl rfl rfl (by repeat (first | exact List.mem_cons_self | apply List.mem_cons_of_mem)) rfl (Try.isAgg3 _) ?_) | ((with_reducible refine gate_dst (N := 20) rfl ?_); refine fr_load (t := 28) (by assumption) rfl rfl rfl (by repeat (first | exact List.mem_cons_self | apply List.mem_cons_of_mem)) (by kernel_rfl) Try.underlying28 ?_) | ((with_reducible refine gate_dst (N := 22) rfl ?_); refine fr_cell (by assumption) rfl rfl rfl (by repeat (first | exact List.mem_cons_self | apply List.mem_cons_of_mem)) rfl (Try.isAgg31 _) ?_) | ((with_reducible refine gate_callee (f := 12) rfl ?_); refine goesL_ (some 23) rfl rfl Try.func12 (by kernel_rfl) rfl #[v, .slice A t.length c] rfl (by (try simp only [List.map_toArray, List.map_cons, List.map_nil]); first | done | rfl) ?_; refine (keep_c F3 (hT.mv ((M1.trans M2).trans M3)) (hl.mv ((M1.trans M2).trans M3)) hk).mono ?_; rintro e w4 ⟨v', rfl, T4, F4, M4⟩; refine ⟨_, rfl, ?_⟩) | ((with_reducible refine gate_dst (N := 7) rfl ?_); refine fr_new (N := 7) (by assumption) rfl rfl (zero28) 28 zero_fits ?hr ?_; (case hr => first | (go_simp; done) | (go_simp; rfl)); intro g7 w5 F5 M5) | ((with_reducible refine gate_store (t := 28) (p := 7) rfl ?_); refine fr_store (v := v') (by assumption) rfl rfl rfl rfl rfl T4.fits (by repeat (first | exact Put.here | apply Put.there)) ?_; intro w6 F6 M6) | ((with_reducible refine gate_dst (N := 32) rfl ?_); refine fr_load (t := 28) (by assumption) rfl rfl rfl (by repeat (first | exact List.mem_cons_self | apply List.mem_cons_of_mem)) (by kernel_rfl) Try.underlying28 ?_) | ((with_reducible refine gate_store (t := 28) (p := 4) rfl ?_); refine fr_store (v := v') (by assumption) rfl rfl rfl rfl rfl T4.fits (by repeat (first | exact Put.here | apply Put.there)) ?_; intro w7 F7 M7))
  refine bodyPost_ret (results_ctt rfl _ _ g4 28 _ (0, 0) _ rfl (F7.at (.tail _ <| List.mem_cons_self)) Try.underlying28 rfl ((F7.fits (.tail _ <| List.mem_cons_self)).size (by decide))) rfl ?_
  rw [(F7.fits (.tail _ <| List.mem_cons_self)).agg]
  exact ⟨_, rfl, T4.mv ((M5.trans M6).trans M7).tail.tail.tail.tail, F7.tail.tail.tail.tail, ((((((M1.trans M2).trans M3).trans M4).trans M5).trans M6).trans M7).tail.tail.tail.tail⟩

set_option maxHeartbeats 8000000 in
set_option maxRecDepth 100000 in
theorem done_full {k : Nat} {what I : Int} {A : Option Addr} {c : Nat} {t : List S72} (hF : Fr w L W) (hT : Tb L W v ids rows room last) (hl : Vw k72 L W (.slice A t.length c) t) (c0 : (Go.bits .and .i64 what 3) = 0) {x6 : Int} (ce : ¬ x6 = 0) {y1 : List Int} {y2 : List (List S72)} {y3 y4 : Int} (hk : snaps_Keep.f ids rows room last t = some (y1, y2, y3, y4, r5, x6)) :
    Calls Try.prog 19 #[v, .agg #[.int .i64 what, .int .i64 I, .slice A t.length c]] W fun e W' => ∃ v', e = .returned (.tuple #[v', .int .i64 r5, .int .i64 x6]) ∧ Tb L W' v' ids rows room last ∧ Fr w L W' ∧ Mv L W L W' := by
  have hu28 := Try.underlying28
  have hu50 := Try.underlying50
  have qa : ((Go.bits .and .i64 what 3) == 0) = true := beq_iff_eq.mpr c0
  have qan : ((Go.bits .and .i64 what 3) != 0) = false := bne_eq_false_iff_eq.mpr c0
  have qe : (x6 == 0) = false := beq_eq_false_iff_ne.mpr ce
  have qen : (x6 != 0) = true := bne_iff_ne.mpr ce
  go_enter Try.func19, Try.ntmps19
  go_wp2_with (first | ((with_reducible refine gate_dst (N := 2) rfl ?_); refine fr_new (N := 2) (by assumption) rfl rfl (v) 28 hT.fits ?hr ?_; (case hr => first | (go_simp; done) | (go_simp; rfl)); intro g2 w1 F1 M1) | ((with_reducible refine gate_dst (N := 3) rfl ?_); refine fr_new (N := 3) (by assumption) rfl rfl ((.agg #[.int .i64 what, .int .i64 I, .slice A t.length c])) 50 fits50 ?hr ?_; (case hr => first | (go_simp; done) | (go_simp; rfl)); intro g3 w2 F2 M2) | ((with_reducible refine gate_dst (N := 4) rfl ?_); refine fr_new (N := 4) (by assumption) rfl rfl (zero28) 28 zero_fits ?hr ?_; (case hr => first | (go_simp; done) | (go_simp; rfl)); intro g4 w3 F3 M3) | ((with_reducible refine gate_dst (N := 15) rfl ?_); refine fr_cell (by assumption) rfl rfl rfl (by repeat (first | exact List.mem_cons_self | apply List.mem_cons_of_mem)) rfl (Try.isAgg3 _) ?_) | ((with_reducible refine gate_dst (N := 20) rfl ?_); refine fr_load (t := 28) (by assumption) rfl rfl rfl (by repeat (first | exact List.mem_cons_self | apply List.mem_cons_of_mem)) (by kernel_rfl) Try.underlying28 ?_) | ((with_reducible refine gate_dst (N := 22) rfl ?_); refine fr_cell (by assumption) rfl rfl rfl (by repeat (first | exact List.mem_cons_self | apply List.mem_cons_of_mem)) rfl (Try.isAgg31 _) ?_) | ((with_reducible refine gate_callee (f := 12) rfl ?_); refine goesL_ (some 23) rfl rfl Try.func12 (by kernel_rfl) rfl #[v, .slice A t.length c] rfl (by (try simp only [List.map_toArray, List.map_cons, List.map_nil]); first | done | rfl) ?_; refine (keep_c F3 (hT.mv ((M1.trans M2).trans M3)) (hl.mv ((M1.trans M2).trans M3)) hk).mono ?_; rintro e w4 ⟨v', rfl, T4, F4, M4⟩; refine ⟨_, rfl, ?_⟩) | ((with_reducible refine gate_dst (N := 7) rfl ?_); refine fr_new (N := 7) (by assumption) rfl rfl (zero28) 28 zero_fits ?hr ?_; (case hr => first | (go_simp; done) | (go_simp; rfl)); intro g7 w5 F5 M5) | ((with_reducible refine gate_store (t := 28) (p := 7) rfl ?_); refine fr_store (v := v') (by assumption) rfl rfl rfl rfl rfl T4.fits (by repeat (first | exact Put.here | apply Put.there)) ?_; intro w6 F6 M6) | ((with_reducible refine gate_dst (N := 29) rfl ?_); refine fr_load (t := 28) (by assumption) rfl rfl rfl (by repeat (first | exact List.mem_cons_self | apply List.mem_cons_of_mem)) (by kernel_rfl) Try.underlying28 ?_) | ((with_reducible refine gate_store (t := 28) (p := 4) rfl ?_); refine fr_store (v := v) (by assumption) rfl rfl rfl rfl rfl hT.fits (by repeat (first | exact Put.here | apply Put.there)) ?_; intro w7 F7 M7))
  refine bodyPost_ret (results_ctt rfl _ _ g4 28 _ (0, 0) _ rfl (F7.at (.tail _ <| List.mem_cons_self)) Try.underlying28 rfl ((F7.fits (.tail _ <| List.mem_cons_self)).size (by decide))) rfl ?_
  rw [(F7.fits (.tail _ <| List.mem_cons_self)).agg]
  exact ⟨_, rfl, hT.mv ((((((M1.trans M2).trans M3).trans M4).trans M5).trans M6).trans M7).tail.tail.tail.tail, F7.tail.tail.tail.tail, ((((((M1.trans M2).trans M3).trans M4).trans M5).trans M6).trans M7).tail.tail.tail.tail⟩

set_option maxHeartbeats 8000000 in
set_option maxRecDepth 100000 in
theorem done_gone {k : Nat} {what I : Int} {A : Option Addr} {c : Nat} {t : List S72} (hF : Fr w L W) (hT : Tb L W v ids rows room last) (hl : Vw k72 L W (.slice A t.length c) t) (c0 : ¬ (Go.bits .and .i64 what 3) = 0) (c1 : (Go.bits .and .i64 what 3) = 1) (hk : snaps_Forget.f k ids rows room last I = some (r1, r2, r3, r4, 0)) :
    Calls Try.prog 19 #[v, .agg #[.int .i64 what, .int .i64 I, .slice A t.length c]] W fun e W' => ∃ v', e = .returned (.tuple #[v', .int .i64 0, .int .i64 0]) ∧ Tb L W' v' r1 r2 r3 r4 ∧ Fr w L W' ∧ Mv L W L W' := by
  have hu28 := Try.underlying28
  have hu50 := Try.underlying50
  have qa : ((Go.bits .and .i64 what 3) == 0) = false := beq_eq_false_iff_ne.mpr c0
  have qan : ((Go.bits .and .i64 what 3) != 0) = true := bne_iff_ne.mpr c0
  have qb : ((Go.bits .and .i64 what 3) == 1) = true := beq_iff_eq.mpr c1
  have qbn : ((Go.bits .and .i64 what 3) != 1) = false := bne_eq_false_iff_eq.mpr c1
  go_enter Try.func19, Try.ntmps19
  go_wp2_with (first | ((with_reducible refine gate_dst (N := 2) rfl ?_); refine fr_new (N := 2) (by assumption) rfl rfl (v) 28 hT.fits ?hr ?_; (case hr => first | (go_simp; done) | (go_simp; rfl)); intro g2 w1 F1 M1) | ((with_reducible refine gate_dst (N := 3) rfl ?_); refine fr_new (N := 3) (by assumption) rfl rfl ((.agg #[.int .i64 what, .int .i64 I, .slice A t.length c])) 50 fits50 ?hr ?_; (case hr => first | (go_simp; done) | (go_simp; rfl)); intro g3 w2 F2 M2) | ((with_reducible refine gate_dst (N := 4) rfl ?_); refine fr_new (N := 4) (by assumption) rfl rfl (zero28) 28 zero_fits ?hr ?_; (case hr => first | (go_simp; done) | (go_simp; rfl)); intro g4 w3 F3 M3) | ((with_reducible refine gate_dst (N := 15) rfl ?_); refine fr_cell (by assumption) rfl rfl rfl (by repeat (first | exact List.mem_cons_self | apply List.mem_cons_of_mem)) rfl (Try.isAgg3 _) ?_) | ((with_reducible refine gate_dst (N := 38) rfl ?_); refine fr_load (t := 28) (by assumption) rfl rfl rfl (by repeat (first | exact List.mem_cons_self | apply List.mem_cons_of_mem)) (by kernel_rfl) Try.underlying28 ?_) | ((with_reducible refine gate_dst (N := 40) rfl ?_); refine fr_cell (by assumption) rfl rfl rfl (by repeat (first | exact List.mem_cons_self | apply List.mem_cons_of_mem)) rfl (Try.isAgg3 _) ?_) | ((with_reducible refine gate_callee (f := 16) rfl ?_); refine goesL_ (some 41) rfl rfl Try.func16 (by kernel_rfl) rfl #[v, .int .i64 I] rfl (by (try simp only [List.map_toArray, List.map_cons, List.map_nil]); first | done | rfl) ?_; refine (forget_c F3 (hT.mv ((M1.trans M2).trans M3)) hk).mono ?_; rintro e w4 ⟨v', rfl, T4, F4, M4⟩; refine ⟨_, rfl, ?_⟩) | ((with_reducible refine gate_dst (N := 10) rfl ?_); refine fr_new (N := 10) (by assumption) rfl rfl (zero28) 28 zero_fits ?hr ?_; (case hr => first | (go_simp; done) | (go_simp; rfl)); intro g7 w5 F5 M5) | ((with_reducible refine gate_store (t := 28) (p := 10) rfl ?_); refine fr_store (v := v') (by assumption) rfl rfl rfl rfl rfl T4.fits (by repeat (first | exact Put.here | apply Put.there)) ?_; intro w6 F6 M6) | ((with_reducible refine gate_dst (N := 48) rfl ?_); refine fr_load (t := 28) (by assumption) rfl rfl rfl (by repeat (first | exact List.mem_cons_self | apply List.mem_cons_of_mem)) (by kernel_rfl) Try.underlying28 ?_) | ((with_reducible refine gate_store (t := 28) (p := 4) rfl ?_); refine fr_store (v := v') (by assumption) rfl rfl rfl rfl rfl T4.fits (by repeat (first | exact Put.here | apply Put.there)) ?_; intro w7 F7 M7))
  refine bodyPost_ret (results_ctt rfl _ _ g4 28 _ (0, 0) _ rfl (F7.at (.tail _ <| List.mem_cons_self)) Try.underlying28 rfl ((F7.fits (.tail _ <| List.mem_cons_self)).size (by decide))) rfl ?_
  rw [(F7.fits (.tail _ <| List.mem_cons_self)).agg]
  exact ⟨_, rfl, T4.mv ((M5.trans M6).trans M7).tail.tail.tail.tail, F7.tail.tail.tail.tail, ((((((M1.trans M2).trans M3).trans M4).trans M5).trans M6).trans M7).tail.tail.tail.tail⟩

set_option maxHeartbeats 8000000 in
set_option maxRecDepth 100000 in
theorem done_none {k : Nat} {what I : Int} {A : Option Addr} {c : Nat} {t : List S72} (hF : Fr w L W) (hT : Tb L W v ids rows room last) (hl : Vw k72 L W (.slice A t.length c) t) (c0 : ¬ (Go.bits .and .i64 what 3) = 0) (c1 : (Go.bits .and .i64 what 3) = 1) {x6 : Int} (ce : ¬ x6 = 0) {y1 : List Int} {y2 : List (List S72)} {y3 y4 : Int} (hk : snaps_Forget.f k ids rows room last I = some (y1, y2, y3, y4, x6)) :
    Calls Try.prog 19 #[v, .agg #[.int .i64 what, .int .i64 I, .slice A t.length c]] W fun e W' => ∃ v', e = .returned (.tuple #[v', .int .i64 0, .int .i64 x6]) ∧ Tb L W' v' ids rows room last ∧ Fr w L W' ∧ Mv L W L W' := by
  have hu28 := Try.underlying28
  have hu50 := Try.underlying50
  have qa : ((Go.bits .and .i64 what 3) == 0) = false := beq_eq_false_iff_ne.mpr c0
  have qan : ((Go.bits .and .i64 what 3) != 0) = true := bne_iff_ne.mpr c0
  have qb : ((Go.bits .and .i64 what 3) == 1) = true := beq_iff_eq.mpr c1
  have qbn : ((Go.bits .and .i64 what 3) != 1) = false := bne_eq_false_iff_eq.mpr c1
  have qe : (x6 == 0) = false := beq_eq_false_iff_ne.mpr ce
  have qen : (x6 != 0) = true := bne_iff_ne.mpr ce
  go_enter Try.func19, Try.ntmps19
  go_wp2_with (first | ((with_reducible refine gate_dst (N := 2) rfl ?_); refine fr_new (N := 2) (by assumption) rfl rfl (v) 28 hT.fits ?hr ?_; (case hr => first | (go_simp; done) | (go_simp; rfl)); intro g2 w1 F1 M1) | ((with_reducible refine gate_dst (N := 3) rfl ?_); refine fr_new (N := 3) (by assumption) rfl rfl ((.agg #[.int .i64 what, .int .i64 I, .slice A t.length c])) 50 fits50 ?hr ?_; (case hr => first | (go_simp; done) | (go_simp; rfl)); intro g3 w2 F2 M2) | ((with_reducible refine gate_dst (N := 4) rfl ?_); refine fr_new (N := 4) (by assumption) rfl rfl (zero28) 28 zero_fits ?hr ?_; (case hr => first | (go_simp; done) | (go_simp; rfl)); intro g4 w3 F3 M3) | ((with_reducible refine gate_dst (N := 15) rfl ?_); refine fr_cell (by assumption) rfl rfl rfl (by repeat (first | exact List.mem_cons_self | apply List.mem_cons_of_mem)) rfl (Try.isAgg3 _) ?_) | ((with_reducible refine gate_dst (N := 38) rfl ?_); refine fr_load (t := 28) (by assumption) rfl rfl rfl (by repeat (first | exact List.mem_cons_self | apply List.mem_cons_of_mem)) (by kernel_rfl) Try.underlying28 ?_) | ((with_reducible refine gate_dst (N := 40) rfl ?_); refine fr_cell (by assumption) rfl rfl rfl (by repeat (first | exact List.mem_cons_self | apply List.mem_cons_of_mem)) rfl (Try.isAgg3 _) ?_) | ((with_reducible refine gate_callee (f := 16) rfl ?_); refine goesL_ (some 41) rfl rfl Try.func16 (by kernel_rfl) rfl #[v, .int .i64 I] rfl (by (try simp only [List.map_toArray, List.map_cons, List.map_nil]); first | done | rfl) ?_; refine (forget_c F3 (hT.mv ((M1.trans M2).trans M3)) hk).mono ?_; rintro e w4 ⟨v', rfl, T4, F4, M4⟩; refine ⟨_, rfl, ?_⟩) | ((with_reducible refine gate_dst (N := 10) rfl ?_); refine fr_new (N := 10) (by assumption) rfl rfl (zero28) 28 zero_fits ?hr ?_; (case hr => first | (go_simp; done) | (go_simp; rfl)); intro g7 w5 F5 M5) | ((with_reducible refine gate_store (t := 28) (p := 10) rfl ?_); refine fr_store (v := v') (by assumption) rfl rfl rfl rfl rfl T4.fits (by repeat (first | exact Put.here | apply Put.there)) ?_; intro w6 F6 M6) | ((with_reducible refine gate_dst (N := 46) rfl ?_); refine fr_load (t := 28) (by assumption) rfl rfl rfl (by repeat (first | exact List.mem_cons_self | apply List.mem_cons_of_mem)) (by kernel_rfl) Try.underlying28 ?_) | ((with_reducible refine gate_store (t := 28) (p := 4) rfl ?_); refine fr_store (v := v) (by assumption) rfl rfl rfl rfl rfl hT.fits (by repeat (first | exact Put.here | apply Put.there)) ?_; intro w7 F7 M7))
  refine bodyPost_ret (results_ctt rfl _ _ g4 28 _ (0, 0) _ rfl (F7.at (.tail _ <| List.mem_cons_self)) Try.underlying28 rfl ((F7.fits (.tail _ <| List.mem_cons_self)).size (by decide))) rfl ?_
  rw [(F7.fits (.tail _ <| List.mem_cons_self)).agg]
  exact ⟨_, rfl, hT.mv ((((((M1.trans M2).trans M3).trans M4).trans M5).trans M6).trans M7).tail.tail.tail.tail, F7.tail.tail.tail.tail, ((((((M1.trans M2).trans M3).trans M4).trans M5).trans M6).trans M7).tail.tail.tail.tail⟩

set_option maxHeartbeats 8000000 in
set_option maxRecDepth 100000 in
theorem done_old {k : Nat} {what I : Int} {A : Option Addr} {c : Nat} {t : List S72} (hF : Fr w L W) (hT : Tb L W v ids rows room last) (hl : Vw k72 L W (.slice A t.length c) t) (c0 : ¬ (Go.bits .and .i64 what 3) = 0) (c1 : ¬ (Go.bits .and .i64 what 3) = 1) (hk : snaps_Oldest.f ids rows room last = some (r1, r2, r3, r4, r5)) :
    Calls Try.prog 19 #[v, .agg #[.int .i64 what, .int .i64 I, .slice A t.length c]] W fun e W' => ∃ v', e = .returned (.tuple #[v', .int .i64 r5, .int .i64 0]) ∧ Tb L W' v' r1 r2 r3 r4 ∧ Fr w L W' ∧ Mv L W L W' := by
  have hu28 := Try.underlying28
  have hu50 := Try.underlying50
  have qa : ((Go.bits .and .i64 what 3) == 0) = false := beq_eq_false_iff_ne.mpr c0
  have qan : ((Go.bits .and .i64 what 3) != 0) = true := bne_iff_ne.mpr c0
  have qb : ((Go.bits .and .i64 what 3) == 1) = false := beq_eq_false_iff_ne.mpr c1
  have qbn : ((Go.bits .and .i64 what 3) != 1) = true := bne_iff_ne.mpr c1
  go_enter Try.func19, Try.ntmps19
  go_wp2_with (first | ((with_reducible refine gate_dst (N := 2) rfl ?_); refine fr_new (N := 2) (by assumption) rfl rfl (v) 28 hT.fits ?hr ?_; (case hr => first | (go_simp; done) | (go_simp; rfl)); intro g2 w1 F1 M1) | ((with_reducible refine gate_dst (N := 3) rfl ?_); refine fr_new (N := 3) (by assumption) rfl rfl ((.agg #[.int .i64 what, .int .i64 I, .slice A t.length c])) 50 fits50 ?hr ?_; (case hr => first | (go_simp; done) | (go_simp; rfl)); intro g3 w2 F2 M2) | ((with_reducible refine gate_dst (N := 4) rfl ?_); refine fr_new (N := 4) (by assumption) rfl rfl (zero28) 28 zero_fits ?hr ?_; (case hr => first | (go_simp; done) | (go_simp; rfl)); intro g4 w3 F3 M3) | ((with_reducible refine gate_dst (N := 15) rfl ?_); refine fr_cell (by assumption) rfl rfl rfl (by repeat (first | exact List.mem_cons_self | apply List.mem_cons_of_mem)) rfl (Try.isAgg3 _) ?_) | ((with_reducible refine gate_dst (N := 51) rfl ?_); refine fr_load (t := 28) (by assumption) rfl rfl rfl (by repeat (first | exact List.mem_cons_self | apply List.mem_cons_of_mem)) (by kernel_rfl) Try.underlying28 ?_) | ((with_reducible refine gate_callee (f := 25) rfl ?_); refine goesL_ (some 52) rfl rfl Try.func25 (by kernel_rfl) rfl #[v] rfl (by (try simp only [List.map_toArray, List.map_cons, List.map_nil]); first | done | rfl) ?_; refine (oldest_c F3 (hT.mv ((M1.trans M2).trans M3)) hk).mono ?_; rintro e w4 ⟨v', rfl, T4, F4, M4⟩; refine ⟨_, rfl, ?_⟩) | ((with_reducible refine gate_dst (N := 12) rfl ?_); refine fr_new (N := 12) (by assumption) rfl rfl (zero28) 28 zero_fits ?hr ?_; (case hr => first | (go_simp; done) | (go_simp; rfl)); intro g7 w5 F5 M5) | ((with_reducible refine gate_store (t := 28) (p := 12) rfl ?_); refine fr_store (v := v') (by assumption) rfl rfl rfl rfl rfl T4.fits (by repeat (first | exact Put.here | apply Put.there)) ?_; intro w6 F6 M6) | ((with_reducible refine gate_dst (N := 55) rfl ?_); refine fr_load (t := 28) (by assumption) rfl rfl rfl (by repeat (first | exact List.mem_cons_self | apply List.mem_cons_of_mem)) (by kernel_rfl) Try.underlying28 ?_) | ((with_reducible refine gate_store (t := 28) (p := 4) rfl ?_); refine fr_store (v := v') (by assumption) rfl rfl rfl rfl rfl T4.fits (by repeat (first | exact Put.here | apply Put.there)) ?_; intro w7 F7 M7))
  refine bodyPost_ret (results_ctt rfl _ _ g4 28 _ (0, 0) _ rfl (F7.at (.tail _ <| List.mem_cons_self)) Try.underlying28 rfl ((F7.fits (.tail _ <| List.mem_cons_self)).size (by decide))) rfl ?_
  rw [(F7.fits (.tail _ <| List.mem_cons_self)).agg]
  exact ⟨_, rfl, T4.mv ((M5.trans M6).trans M7).tail.tail.tail.tail, F7.tail.tail.tail.tail, ((((((M1.trans M2).trans M3).trans M4).trans M5).trans M6).trans M7).tail.tail.tail.tail⟩

theorem done_c {k : Nat} {what I : Int} {A : Option Addr} {c : Nat} {t : List S72} (hF : Fr w L W) (hT : Tb L W v ids rows room last) (hl : Vw k72 L W (.slice A t.length c) t) (h : cordwoodlaw21_done.f k ids rows room last what I t = some (r1, r2, r3, r4, r5, r6)) :
    Calls Try.prog 19 #[v, .agg #[.int .i64 what, .int .i64 I, .slice A t.length c]] W fun e W' => ∃ v', e = .returned (.tuple #[v', .int .i64 r5, .int .i64 r6]) ∧ Tb L W' v' r1 r2 r3 r4 ∧ Fr w L W' ∧ Mv L W L W' := by
  unfold cordwoodlaw21_done.f at h
  by_cases c0 : (Go.bits .and .i64 what 3) = 0
  · rw [if_pos c0] at h
    obtain ⟨⟨y1, y2, y3, y4, y5, y6⟩, hk, h⟩ := Option.bind_eq_some_iff.1 h
    replace h : (if y6 = 0 then some (y1, y2, y3, y4, y5, y6) else some (ids, rows, room, last, y5, y6)) = some (r1, r2, r3, r4, r5, r6) := h
    by_cases ce : y6 = 0
    · rw [if_pos ce] at h
      simp only [Option.some.injEq, Prod.mk.injEq] at h
      obtain ⟨rfl, rfl, rfl, rfl, rfl, rfl⟩ := h
      subst ce
      exact done_kept (k := k) hF hT hl c0 hk
    · rw [if_neg ce] at h
      simp only [Option.some.injEq, Prod.mk.injEq] at h
      obtain ⟨rfl, rfl, rfl, rfl, rfl, rfl⟩ := h
      exact done_full (k := k) hF hT hl c0 ce hk
  · rw [if_neg c0] at h
    by_cases c1 : (Go.bits .and .i64 what 3) = 1
    · rw [if_pos c1] at h
      obtain ⟨⟨y1, y2, y3, y4, y6⟩, hk, h⟩ := Option.bind_eq_some_iff.1 h
      replace h : (if y6 = 0 then some (y1, y2, y3, y4, 0, y6) else some (ids, rows, room, last, 0, y6)) = some (r1, r2, r3, r4, r5, r6) := h
      by_cases ce : y6 = 0
      · rw [if_pos ce] at h
        simp only [Option.some.injEq, Prod.mk.injEq] at h
        obtain ⟨rfl, rfl, rfl, rfl, rfl, rfl⟩ := h
        subst ce
        exact done_gone hF hT hl c0 c1 hk
      · rw [if_neg ce] at h
        simp only [Option.some.injEq, Prod.mk.injEq] at h
        obtain ⟨rfl, rfl, rfl, rfl, rfl, rfl⟩ := h
        exact done_none hF hT hl c0 c1 ce hk
    · rw [if_neg c1] at h
      obtain ⟨⟨y1, y2, y3, y4, y5⟩, hk, h⟩ := Option.bind_eq_some_iff.1 h
      replace h : some (y1, y2, y3, y4, y5, (0 : Int)) = some (r1, r2, r3, r4, r5, r6) := h
      simp only [Option.some.injEq, Prod.mk.injEq] at h
      obtain ⟨rfl, rfl, rfl, rfl, rfl, rfl⟩ := h
      exact done_old (k := k) hF hT hl c0 c1 hk

set_option maxHeartbeats 8000000 in
set_option maxRecDepth 100000 in
theorem awake_c {k : Nat} {r : Bool} (hF : Fr w L W) (h : cordwoodlaw21_awake.f k = some r) : Calls Try.prog 9 #[] W fun e W' => e = .returned (.bool r) ∧ Fr w L W' ∧ Mv L W L W' := by
  have hu28 := Try.underlying28
  unfold cordwoodlaw21_awake.f at h
  rw [awake_new] at h
  simp only [Option.bind_some] at h
  have A2 : snaps_Keep.f [] [] 1 0 [] = some ([1], [[]], 1, 1, 1, 0) := by simpa [show wrap64 1 = (1 : Int) from wrap64_small (by decide) (by decide)] using keep_one 1 0 (by decide) []
  have A3 := keep_full []
  have A5 : snaps_Keep.f [] [] 1 1 [] = some ([2], [[]], 1, 2, 2, 0) := by simpa [show wrap64 2 = (2 : Int) from wrap64_small (by decide) (by decide)] using keep_one 1 1 (by decide) []
  rw [A2] at h
  simp only [Option.bind_some] at h
  rw [A3] at h
  simp only [Option.bind_some] at h
  obtain ⟨y, A4, h⟩ := Option.bind_eq_some_iff.1 h
  obtain rfl := forget_one k A4
  simp only at h
  rw [A5] at h
  simp only [Option.bind_some] at h
  obtain ⟨⟨y1, y2⟩, A6, h⟩ := Option.bind_eq_some_iff.1 h
  obtain rfl : y2 = 13 := get_none k A6
  obtain rfl := Option.some.inj h
  clear h
  go_enter Try.func9, Try.ntmps9
  go_wp2_with (first | ((with_reducible refine gate_callee (f := 10) rfl ?_); refine goesL_ (some 15) rfl rfl Try.func10 (by kernel_rfl) rfl #[.int .i64 1] rfl (by (try simp only [List.map_toArray, List.map_cons, List.map_nil]); first | done | rfl) ?_; refine (new_c 1 hF).mono ?_; rintro e w1 ⟨v1, rfl, T1, F1, M1⟩; refine ⟨_, rfl, ?_⟩) | ((with_reducible refine gate_callee (f := 12) rfl ?_); refine goesL_ (some 16) rfl rfl Try.func12 (by kernel_rfl) rfl #[v1, .slice none 0 0] rfl (by (try simp only [List.map_toArray, List.map_cons, List.map_nil]); first | done | rfl) ?_; refine (keep_c F1 T1 (Vw.nil _ _ _) A2).mono ?_; rintro e w2 ⟨v2, rfl, T2, F2, M2⟩; refine ⟨_, rfl, ?_⟩) | ((with_reducible refine gate_dst (N := 1) rfl ?_); refine fr_new (N := 1) (by assumption) rfl rfl (zero28) 28 zero_fits ?hr ?_; (case hr => first | (go_simp; done) | (go_simp; rfl)); intro g1 w3 F3 M3) | ((with_reducible refine gate_store (t := 28) (p := 1) rfl ?_); refine fr_store (v := v2) (by assumption) rfl rfl rfl rfl rfl T2.fits (by repeat (first | exact Put.here | apply Put.there)) ?_; intro w4 F4 M4) | ((with_reducible refine gate_dst (N := 21) rfl ?_); refine fr_load (t := 28) (by assumption) rfl rfl rfl (by repeat (first | exact List.mem_cons_self | apply List.mem_cons_of_mem)) (by kernel_rfl) Try.underlying28 ?_) | ((with_reducible refine gate_callee (f := 12) rfl ?_); refine goesL_ (some 22) rfl rfl Try.func12 (by kernel_rfl) rfl #[v2, .slice none 0 0] rfl (by (try simp only [List.map_toArray, List.map_cons, List.map_nil]); first | done | rfl) ?_; refine (keep_c F4 (T2.mv (M3.trans M4)) (Vw.nil _ _ _) A3).mono ?_; rintro e w5 ⟨v5, rfl, T5, F5, M5⟩; refine ⟨_, rfl, ?_⟩) | ((with_reducible refine gate_dst (N := 4) rfl ?_); refine fr_new (N := 4) (by assumption) rfl rfl (zero28) 28 zero_fits ?hr ?_; (case hr => first | (go_simp; done) | (go_simp; rfl)); intro g4 w6 F6 M6) | ((with_reducible refine gate_store (t := 28) (p := 4) rfl ?_); refine fr_store (v := v5) (by assumption) rfl rfl rfl rfl rfl T5.fits (by repeat (first | exact Put.here | apply Put.there)) ?_; intro w7 F7 M7) | ((with_reducible refine gate_dst (N := 27) rfl ?_); refine fr_load (t := 28) (by assumption) rfl rfl rfl (by repeat (first | exact List.mem_cons_self | apply List.mem_cons_of_mem)) (by kernel_rfl) Try.underlying28 ?_) | ((with_reducible refine gate_callee (f := 16) rfl ?_); refine goesL_ (some 28) rfl rfl Try.func16 (by kernel_rfl) rfl #[v2, .int .i64 1] rfl (by (try simp only [List.map_toArray, List.map_cons, List.map_nil]); first | done | rfl) ?_; refine (forget_c F7 (T2.mv ((((M3.trans M4).trans M5).trans M6).trans M7)) A4).mono ?_; rintro e w8 ⟨v8, rfl, T8, F8, M8⟩; refine ⟨_, rfl, ?_⟩) | ((with_reducible refine gate_dst (N := 7) rfl ?_); refine fr_new (N := 7) (by assumption) rfl rfl (zero28) 28 zero_fits ?hr ?_; (case hr => first | (go_simp; done) | (go_simp; rfl)); intro g7 w9 F9 M9) | ((with_reducible refine gate_store (t := 28) (p := 7) rfl ?_); refine fr_store (v := v8) (by assumption) rfl rfl rfl rfl rfl T8.fits (by repeat (first | exact Put.here | apply Put.there)) ?_; intro w10 F10 M10) | ((with_reducible refine gate_dst (N := 32) rfl ?_); refine fr_load (t := 28) (by assumption) rfl rfl rfl (by repeat (first | exact List.mem_cons_self | apply List.mem_cons_of_mem)) (by kernel_rfl) Try.underlying28 ?_) | ((with_reducible refine gate_callee (f := 12) rfl ?_); refine goesL_ (some 33) rfl rfl Try.func12 (by kernel_rfl) rfl #[v8, .slice none 0 0] rfl (by (try simp only [List.map_toArray, List.map_cons, List.map_nil]); first | done | rfl) ?_; refine (keep_c F10 (T8.mv (M9.trans M10)) (Vw.nil _ _ _) A5).mono ?_; rintro e w11 ⟨v11, rfl, T11, F11, M11⟩; refine ⟨_, rfl, ?_⟩) | ((with_reducible refine gate_dst (N := 9) rfl ?_); refine fr_new (N := 9) (by assumption) rfl rfl (zero28) 28 zero_fits ?hr ?_; (case hr => first | (go_simp; done) | (go_simp; rfl)); intro g9 w12 F12 M12) | ((with_reducible refine gate_store (t := 28) (p := 9) rfl ?_); refine fr_store (v := v11) (by assumption) rfl rfl rfl rfl rfl T11.fits (by repeat (first | exact Put.here | apply Put.there)) ?_; intro w13 F13 M13) | ((with_reducible refine gate_dst (N := 38) rfl ?_); refine fr_load (t := 28) (by assumption) rfl rfl rfl (by repeat (first | exact List.mem_cons_self | apply List.mem_cons_of_mem)) (by kernel_rfl) Try.underlying28 ?_) | ((with_reducible refine gate_callee (f := 13) rfl ?_); refine goesL_ (some 39) rfl rfl Try.func13 (by kernel_rfl) rfl #[v8, .int .i64 1] rfl (by (try simp only [List.map_toArray, List.map_cons, List.map_nil]); first | done | rfl) ?_; refine (get_c F13 (T8.mv ((((M9.trans M10).trans M11).trans M12).trans M13)) A6).mono ?_; rintro e w14 ⟨v14, rfl, _, F14, M14⟩; refine ⟨_, rfl, ?_⟩))
  go_ret
  exact ⟨rfl, F14.tail.tail.tail.tail, (((((((((((((M1.trans M2).trans M3).trans M4).trans M5).trans M6).trans M7).trans M8).trans M9).trans M10).trans M11).trans M12).trans M13).trans M14).tail.tail.tail.tail⟩
theorem cordwoodlaw21_awake.calls (k : Nat) (r : Bool) (w : World) (h : cordwoodlaw21_awake.f k = some r) : Calls Try.prog 9 #[] w fun e w' => e = .returned (.bool r) ∧ Below w.heap.size w w' :=
  (awake_c (Fr.start w) h).mono fun e W' ⟨h1, h2, _⟩ => ⟨h1, h2.bel⟩

end Go.Proofs.Ytkabbahfaeeihaa.Q
