/- The walk of a law of layer 6: it returns true, whatever the input. -/
import Derived.Test.YtgfplpkmcdpbeaaDoorK
import Derived.Test.YtgfplpkmcdpbeaaDoorWays
import Derived.Deep.RegionHeld3
namespace Go.Proofs.YtgfplpkmcdpbeaaDoor
open Go.RowKit

theorem K.head {W0 W : World} {vs : List (Value × List Int)} {v : Value} {l : List Int} (h : K W0 ((v, l) :: vs) W) : Rd W v l := h.rds _ (List.mem_cons_self ..)
theorem K.drew {W0 W : World} {vs : List (Value × List Int)} (h : K W0 vs W) : K W0 vs W.drew := h.dr (Dr.refl _).one
theorem K.drewN {W0 W : World} {vs : List (Value × List Int)} (h : K W0 vs W) (n : Nat) : K W0 vs (W.drewN n) := h.dr ((Dr.refl _).step n)

def LenAt (x w : Int) : Prop := ((way x w).tail.length : Int) = lvl (root w) - lvl x ∧ (0 < (way x w).tail.length → (way x w).tail[(way x w).tail.length - 1]? = some (root w)) ∧ -1 ≤ lvl (root w) ∧ lvl (root w) ≤ 6 ∧ 0 ≤ lvl x ∧ lvl x ≤ 6
instance (x w : Int) : Decidable (LenAt x w) := by unfold LenAt; infer_instance
theorem len_at {x w : Int} (h : isN x w = true) : LenAt x w := fin_node (P := LenAt) (by decide +kernel) h

theorem way_drop {w : Int} : ∀ x, isN x w = true → ∀ (k : Nat) (h : k < (way x w).length), way ((way x w)[k]) w = (way x w).drop k := by
  refine node_ind fun x hx ih k hk => ?_
  have hc := way_cons hx
  cases k with
  | zero =>
    have : (way x w)[0] = x := by simp [hc]
    rw [this]
    simp
  | succ k =>
    have hk2 : k < (way (Parent x w) w).length := by rw [hc] at hk; simpa using hk
    have hp : isN (Parent x w) w = true := by
      cases hp : isN (Parent x w) w
      · rw [way_out hp] at hk2; cases hk2
      · rfl
    have e : (way x w)[k + 1] = (way (Parent x w) w)[k] := by simp [hc]
    rw [e, ih hp k hk2, hc]
    simp
theorem tail_drop {x w : Int} (hx : isN x w = true) (k : Nat) (h : k < (way x w).tail.length) : (way ((way x w).tail[k]) w).tail = (way x w).tail.drop (k + 1) := by
  have h1 : k + 1 < (way x w).length := by simp at h; omega
  have e : (way x w).tail[k] = (way x w)[k + 1] := by simp
  rw [e, way_drop x hx (k + 1) h1]
  simp [Nat.add_comm]

theorem Rd.drop {W : World} {b o n c : Nat} {l : List Int} (h : Rd W (.slice (some ⟨b, o, none⟩) n c) l) (k : Nat) (hk : k ≤ l.length) (hkc : k < c) : Rd W (.slice (some ⟨b, o + k, none⟩) (n - k) (c - k)) (l.drop k) := by
  obtain ⟨A, c', e, hc, hm, hr⟩ := h
  simp only [Value.slice.injEq] at e
  obtain ⟨rfl, rfl, rfl⟩ := e
  refine ⟨some ⟨b, o + k, none⟩, c - k, by simp, by simp; omega, by omega, fun hp => ?_⟩
  have hp2 : 0 < l.length := by simp at hp; omega
  obtain ⟨b', o', e', hcell⟩ := hr hp2
  simp only [Option.some.injEq, Addr.mk.injEq, and_true] at e'
  obtain ⟨rfl, rfl⟩ := e'
  refine ⟨b, o + k, rfl, fun i hi => ?_⟩
  have hi2 : k + i < l.length := by simp at hi; omega
  have := hcell (k + i) hi2
  rw [show o + k + i = o + (k + i) by omega, this]
  simp
theorem Rd.drop_all {W : World} {l : List Int} (k : Nat) (hk : k = l.length) (B : Option Addr) : Rd W (.slice B 0 0) (l.drop k) := by
  subst hk
  exact ⟨B, 0, by simp, by simp, by omega, fun hp => by simp at hp⟩

theorem K.cell2 {W0 W : World} {vs : List (Value × List Int)} {p : Value × List Int} {b o n c : Nat} {L : List Int} (h : K W0 (p :: (.slice (some ⟨b, o, none⟩) n c, L) :: vs) W) (k : Nat) (hk : k < L.length) : W.cell? ⟨b, o + k, none⟩ = some (.int .i64 (L[k]'hk)) := by
  obtain ⟨b', o', e, hc⟩ := (show Rd W (.slice (some ⟨b, o, none⟩) n c) L from h.rds (.slice (some ⟨b, o, none⟩) n c, L) (by simp)).cell k hk
  simp only [Option.some.injEq, Addr.mk.injEq, and_true] at e
  obtain ⟨rfl, rfl⟩ := e
  exact hc
theorem K.rd2 {W0 W : World} {vs : List (Value × List Int)} {p : Value × List Int} {v : Value} {L : List Int} (h : K W0 (p :: (v, L) :: vs) W) : Rd W v L := h.rds (v, L) (by simp)
theorem ints_same (va vb : Value) (l : List Int) {W0 : World} {vs : List (Value × List Int)} (W : World) (h : K W0 vs W) (ha : Rd W va l) (hb : Rd W vb l) : Calls Tryd.prog 35 #[va, vb] W fun e W' => e = .returned (.bool true) ∧ K W0 vs W' :=
  (ints_k va vb l l W h ha hb).mono fun _ _ ⟨a, b⟩ => ⟨by rw [a]; simp, b⟩

structure LenLoop (W0 : World) (vs : List (Value × List Int)) (n : Nat) (i : Value) (wr : World) : Prop where
  at_ : ∃ k : Nat, k ≤ n ∧ i = .int .i64 k ∧ K W0 vs wr

set_option maxHeartbeats 4000000 in
theorem length_in (x w : Int) (hx : isN x w = true) (W0 : World) (h : K W0 [] W0) :
    Calls Tryd.prog 11 #[.int .i64 x, .int .i64 w] W0 fun e W' => e = .returned (.bool true) ∧ ∃ vs, K W0 vs W' := by
  obtain ⟨l1, l2, l3, l4, l5, l6⟩ := len_at hx
  have hdrop := tail_drop hx
  have hwl := way_len x w
  obtain ⟨L, hL⟩ : ∃ L, (way x w).tail = L := ⟨_, rfl⟩
  have hLl : L.length ≤ 8 := by rw [← hL]; simp; omega
  rw [hL] at l1 l2
  have HDR : Hid (∀ k (h : k < L.length), (way (L[k]'h) w).tail = L.drop (k + 1)) := Lib.hid (by subst hL; exact hdrop)
  have HL := Lib.hid hL
  have L2 := Lib.hid l2
  clear hdrop l2 hwl hL
  have hq1 : ((L.length : Int) != lvl (root w) - lvl x) = false := by simp [l1]
  have HLEN := Lib.hid l1
  clear l1
  go_enter Tryd.func11, Tryd.ntmps11
  go_wp2_with (first
    | (go_at_call 32; refine (awake6_h _ (by assumption)).mono ?_; rintro e w1 ⟨rfl, hk1⟩)
    | (go_at_call 36; refine (direct_k _ _ _ (by assumption)).mono ?_; rw [HL.out]; rintro e w2 ⟨v, rfl, hk2⟩; obtain ⟨A, c, rfl, hc1, hc2, -⟩ := hk2.head)
    | (go_at_call 18; refine (is_k _ _ _ (by assumption)).mono ?_; rintro e w3 ⟨rfl, hk3⟩))
  by_cases hn : 0 < L.length
  · obtain ⟨b, o, rfl, hcell⟩ := hk3.head.cell (L.length - 1) (by omega)
    have hlast : L[L.length - 1] = root w := by
      have := L2.out hn
      rw [List.getElem?_eq_getElem (by omega)] at this
      exact Option.some.inj this
    rw [hlast] at hcell
    clear hlast
    have hn1 : (0 : Int) < (L.length : Int) := by omega
    have hi1 : (0 : Int) ≤ (L.length : Int) - 1 := by omega
    have hi2 : (L.length : Int) - 1 < (L.length : Int) := by omega
    have hi3 : ((L.length : Int) - 1).toNat = L.length - 1 := by omega
    have hT3 : ∀ n, Tab (w3.drewN n) := fun n => hk3.tab.dr ((Dr.refl _).step n)
    have HT3 := Lib.hid hT3
    clear hT3
    go_quiet ((first
      | (go_at_call 22; exact Calls.quiet_of_same ((root_any _ _).mono fun _ _ ⟨a, b⟩ => ⟨a, b.symm⟩))
      | (go_at_call 20; exact Calls.quiet_of_same ((level_any _ _ (HT3.out _)).mono fun _ _ ⟨a, b⟩ => ⟨a, b.symm⟩))))
    clear hcell hi1 hi2 hi3 HT3 hn1
    have hk4 := hk3.drewN nq
    generalize w3.drewN nq = w4 at hk4 ⊢
    go_wp2
    go_loopw [7] (fun i wr => LenLoop W0 [(.slice (some ⟨b, o, none⟩) L.length c, L)] L.length i wr) (fun i _ => L.length - (intOf i).toNat)
    case atStart => exact ⟨0, Nat.zero_le _, rfl, hk4⟩
    case round =>
      obtain ⟨k, hkl, rfl, hkr⟩ := hrel
      clear h hk1 hk2 hk3 hk4
      by_cases hlt : k < L.length
      · obtain ⟨b', o', e, hcell⟩ := hkr.head.cell k hlt
        obtain ⟨rfl, rfl⟩ : b' = b ∧ o' = o := by simp only [Option.some.injEq, Addr.mk.injEq] at e; exact ⟨e.1.symm, e.2.1.symm⟩
        obtain ⟨z, hz⟩ : ∃ z, L[k] = z := ⟨_, rfl⟩
        rw [hz] at hcell
        have hd := HDR.out k hlt
        rw [hz] at hd
        have HD := Lib.hid hd
        have HZ := Lib.hid hz
        clear hd hz e
        have hlt1 : (k : Int) < (L.length : Int) := by omega
        have hk0 : (0 : Int) ≤ (k : Int) := by omega
        have hcl : L.length ≤ c := hc1
        have hsum : IntKind.i64.wrap ((k : Int) + 1) = (k : Int) + 1 := by rw [IntKind.wrap_i64]; omega
        have hsum0 : (0 : Int) ≤ (k : Int) + 1 := by omega
        have hsumN : ((k : Int) + 1).toNat = k + 1 := by omega
        have hsum1 : (k : Int) + 1 ≤ (L.length : Int) := by omega
        by_cases hkc : k + 1 = c
        · have hfull : k + 1 = L.length := by omega
          have HF := Lib.hid hfull
          subst hkc
          clear hfull
          go_wp2_with fail
          go_region_held3 (fun w' => w'.cell? ⟨b', o' + k, none⟩ = some (.int .i64 z))
            (first | go_keep)
            (first
              | (go_at_call 36; refine (direct_k _ _ _ (by first | exact hkr | exact hkr.drew)).mono ?_; rw [HD.out]; rintro e w5 ⟨v5, rfl, hk5⟩; have hc5 := hk5.cell2 k hlt; rw [HZ.out] at hc5)
              | (go_at_call 35; refine (ints_same _ _ (L.drop (k + 1)) _ (by first | exact hk5 | exact hk5.drew) (by first | exact hk5.head | exact hk5.drew.head) (Rd.drop_all (k + 1) HF.out _)).mono ?_; rintro e w6 ⟨rfl, hk6⟩; have hc6 := hk6.cell2 k hlt; rw [HZ.out] at hc6))
          go_wp2
          go_roundw
          case rel => exact ⟨k + 1, by omega, by go_num, by first | exact hk6.drop (us := [(v5, L.drop (k + 1))]) | exact hk6.drew.drop (us := [(v5, L.drop (k + 1))])⟩
          case measure => simp [intOf]; omega
        · have hkc2 : k + 1 < c := by omega
          clear hkc
          go_wp2_with fail
          go_region_held3 (fun w' => w'.cell? ⟨b', o' + k, none⟩ = some (.int .i64 z))
            (first | go_keep)
            (first
              | (go_at_call 36; refine (direct_k _ _ _ (by first | exact hkr | exact hkr.drew)).mono ?_; rw [HD.out]; rintro e w5 ⟨v5, rfl, hk5⟩; have hc5 := hk5.cell2 k hlt; rw [HZ.out] at hc5)
              | (go_at_call 35; refine (ints_same _ _ (L.drop (k + 1)) _ (by first | exact hk5 | exact hk5.drew) (by first | exact hk5.head | exact hk5.drew.head) (by first | exact hk5.rd2.drop (k + 1) hlt hkc2 | exact hk5.drew.rd2.drop (k + 1) hlt hkc2)).mono ?_; rintro e w6 ⟨rfl, hk6⟩; have hc6 := hk6.cell2 k hlt; rw [HZ.out] at hc6))
          go_wp2
          go_roundw
          case rel => exact ⟨k + 1, by omega, by go_num, by first | exact hk6.drop (us := [(v5, L.drop (k + 1))]) | exact hk6.drew.drop (us := [(v5, L.drop (k + 1))])⟩
          case measure => simp [intOf]; omega
      · have hke : k = L.length := by omega
        have HKE := Lib.hid hke
        clear hke
        go_wp2
        go_ret
        exact ⟨rfl, _, hkr⟩
  · have hz : L.length = 0 := by omega
    have hLn : L = [] := List.eq_nil_of_length_eq_zero hz
    subst hLn
    have hT3 : ∀ n, Tab (w3.drewN n) := fun n => hk3.tab.dr ((Dr.refl _).step n)
    have HT3 := Lib.hid hT3
    have hle : lvl (root w) - lvl x = 0 := by have := HLEN.out; simp at this; omega
    clear hT3 hn hz hq1
    go_quiet ((first
      | (go_at_call 22; exact Calls.quiet_of_same ((root_any _ _).mono fun _ _ ⟨a, b⟩ => ⟨a, b.symm⟩))
      | (go_at_call 20; exact Calls.quiet_of_same ((level_any _ _ (HT3.out _)).mono fun _ _ ⟨a, b⟩ => ⟨a, b.symm⟩))))
    have hk4 := hk3.drewN nq
    generalize w3.drewN nq = w4 at hk4 ⊢
    clear HT3 hk3
    go_wp2
    go_loopw [7] (fun i wr => LenLoop W0 [(.slice A ([] : List Int).length c, [])] 0 i wr) (fun i _ => 1 - (intOf i).toNat)
    case atStart => exact ⟨0, Nat.zero_le _, rfl, hk4⟩
    case round =>
      obtain ⟨k, hkl, rfl, hkr⟩ := hrel
      obtain rfl : k = 0 := by omega
      clear h hk1 hk2 hk4
      go_wp2
      go_ret
      exact ⟨rfl, _, hkr⟩

set_option maxHeartbeats 2000000 in
theorem length_walk (x w : Int) (W0 : World) (h : K W0 [] W0) :
    Calls Tryd.prog 11 #[.int .i64 x, .int .i64 w] W0 fun e W' => e = .returned (.bool true) ∧ ∃ vs, K W0 vs W' := by
  cases hx : isN x w
  · have hL : (way x w).tail = [] := by rw [way_out hx]; rfl
    have HL := Lib.hid hL
    clear hL
    go_enter Tryd.func11, Tryd.ntmps11
    go_wp2_with (first
      | (go_at_call 32; refine (awake6_h _ (by assumption)).mono ?_; rintro e w1 ⟨rfl, hk1⟩)
      | (go_at_call 36; refine (direct_k _ _ _ (by assumption)).mono ?_; rw [HL.out]; rintro e w2 ⟨v, rfl, hk2⟩; obtain ⟨A, c, rfl, hc1, hc2, -⟩ := hk2.head)
      | (go_at_call 18; refine (is_k _ _ _ (by assumption)).mono ?_; rintro e w3 ⟨rfl, hk3⟩))
    go_ret
    exact ⟨rfl, _, hk3⟩
  · exact length_in x w hx W0 h

theorem length_w (x w : Int) (W : World) (hT : Tab W) : Calls Tryd.prog 11 #[.int .i64 x, .int .i64 w] W fun e W' => e = .returned (.bool true) ∧ Below W.heap.size W W' :=
  (length_walk x w W (K.refl hT)).mono fun _ _ ⟨a, _, b⟩ => ⟨a, b.below⟩

end Go.Proofs.YtgfplpkmcdpbeaaDoor
