/-
  The walk of WatermarkOrder. Conditions: none but what each theorem names.
-/
import Derived.Test.YtmomcelnfljnmaaM
namespace Go.Proofs.Ytmomcelnfljnmaa
open Go.RowKit
set_option linter.unusedVariables false

theorem alw_mk {l : List Int} {a b c x : Int} {n : Nat} (h5 : ok5 l = true) (hf : 0 ≤ flr a b c x) (hn : n ≤ 4) (h0 : flr a b c x ≤ abv l 0 - 2 ^ n) (hne : abv l n ≠ 0) (hk : ∀ k, k < n → flr a b c x / 2 ^ (k + 1) ≤ abv l (k + 1) - 2 ^ n) :
    alw l a b c n x = true := by
  simp only [alw, alwd, Bool.and_eq_true, Bool.not_eq_true', Bool.or_eq_false_iff, decide_eq_false_iff_not, Bool.not_eq_false', beq_eq_false_iff_ne, List.all_eq_true, List.mem_range, decide_eq_true_eq]
  refine ⟨⟨⟨⟨by omega, h5⟩, by omega⟩, by omega⟩, ⟨by simp; omega, by simpa using hne⟩, fun k hkn => ?_⟩
  exact hk k (by simpa using hkn)
theorem alw_ctx {l : List Int} {a b c x x' : Int} {n : Nat} (h : alw l a b c n x = true) (hx : x ≤ x') (hx' : x' ≤ 2) : alw l a b c n x' = true := by
  obtain ⟨h5, hf, m, hm, hm4, h0, hne, hk⟩ := alw_true h
  obtain rfl : n = m := by omega
  obtain ⟨hc, ha0, ha1⟩ := flr_ctx hf
  have hz : chk a b c = 0 := by
    by_cases hz : chk a b c = 0
    · exact hz
    · simp [flr, hz] at hf
  have key : 0 ≤ flr a b c x' ∧ flr a b c x' ≤ flr a b c x := by
    have e : ∀ y, flr a b c y = if y = 0 then a else if y = 1 then a / 2 else if y = 2 then 0 else -1 := fun y => by simp [flr, hz]
    have hx0 : x = 0 ∨ x = 1 ∨ x = 2 := by rcases hc with ⟨h, _⟩ | ⟨h, _⟩ | ⟨h, _⟩ <;> omega
    have hx1 : x' = 0 ∨ x' = 1 ∨ x' = 2 := by omega
    rw [e, e]
    rcases hx0 with rfl | rfl | rfl <;> rcases hx1 with rfl | rfl | rfl <;> simp <;> omega
  refine alw_mk h5 key.1 hm4 (by omega) hne fun k hkn => ?_
  have := hk k hkn
  have := Int.ediv_le_ediv (c := 2 ^ (k + 1)) (Int.pow_pos (by omega)) key.2
  omega
/-- The list of five, one number raised. -/
def more (l : List Int) (o : Nat) : List Int := [g5 l 0, g5 l 1, g5 l 2, g5 l 3, g5 l 4].set o (if g5 l o < 4096 then g5 l o + 1 else g5 l o)
theorem g5_more (l : List Int) {o : Nat} (ho : o < 5) {k : Nat} (hk : k < 5) : g5 (more l o) k = if k = o then (if g5 l o < 4096 then g5 l o + 1 else g5 l o) else g5 l k := by
  have ho' : o = 0 ∨ o = 1 ∨ o = 2 ∨ o = 3 ∨ o = 4 := by omega
  have hk' : k = 0 ∨ k = 1 ∨ k = 2 ∨ k = 3 ∨ k = 4 := by omega
  rcases ho' with rfl | rfl | rfl | rfl | rfl <;> rcases hk' with rfl | rfl | rfl | rfl | rfl <;> rfl
theorem more_le {l : List Int} (h5 : ok5 l = true) {o : Nat} (ho : o < 5) {k : Nat} (hk : k < 5) : g5 l k ≤ g5 (more l o) k ∧ inB (g5 (more l o) k) = true := by
  have b := g5_bd h5 hk
  have b' := g5_bd h5 ho
  rw [g5_more l ho hk]
  by_cases e : k = o
  · subst e
    rw [if_pos rfl]
    split
    · refine ⟨by omega, ?_⟩
      simp [inB]; omega
    · exact ⟨by omega, by simp [inB]; omega⟩
  · rw [if_neg e]
    exact ⟨by omega, by simp [inB]; omega⟩
theorem more_ok {l : List Int} (h5 : ok5 l = true) {o : Nat} (ho : o < 5) : ok5 (more l o) = true := by
  unfold ok5
  rw [(more_le h5 ho (show 0 < 5 by omega)).2, (more_le h5 ho (show 1 < 5 by omega)).2, (more_le h5 ho (show 2 < 5 by omega)).2, (more_le h5 ho (show 3 < 5 by omega)).2, (more_le h5 ho (show 4 < 5 by omega)).2]
  rfl
theorem more_abv {l : List Int} (h5 : ok5 l = true) {o : Nat} (ho : o < 5) : ∀ d k, k + d = 5 → abv l k ≤ abv (more l o) k
  | 0, k, hk => by rw [abv5 l (by omega), abv5 _ (by omega)]; omega
  | d + 1, k, hk => by
    have i := more_abv h5 ho d (k + 1) (by omega)
    have s := abv_step l (show k < 5 by omega)
    have s' := abv_step (more l o) (show k < 5 by omega)
    have g := (more_le h5 ho (show k < 5 by omega)).1
    have p : g5 l k * 2 ^ k ≤ g5 (more l o) k * 2 ^ k := Int.mul_le_mul_of_nonneg_right g (Int.pow_nonneg (by omega))
    omega
theorem alw_more {l : List Int} {a b c x : Int} {n : Nat} (h : alw l a b c n x = true) {o : Nat} (ho : o < 5) : alw (more l o) a b c n x = true := by
  obtain ⟨h5, hf, m, hm, hm4, h0, hne, hk⟩ := alw_true h
  obtain rfl : n = m := by omega
  have le : ∀ k, k ≤ 5 → abv l k ≤ abv (more l o) k := fun k hk => more_abv h5 ho (5 - k) k (by omega)
  have b := abv_bd h5 n
  refine alw_mk (more_ok h5 ho) hf hm4 ?_ ?_ fun k hkn => ?_
  · have := le 0 (by omega); omega
  · have := le n (by omega); omega
  · have := hk k hkn; have := le (k + 1) (by omega); omega

/-- The blocks of the statement: the watermarks, the three bytes, the slice. -/
structure LO (w : World) (p q : Nat) (a b c x y z : Int) (A : Option Addr) (l : List Int) (W : World) : Prop where
  below : Below w.heap.size w W
  m : C3 W p a b c
  n : W.heap[q]? = some (.cells #[.int .u8 x, .int .u8 y, .int .u8 z] 38 (0, 0))
  l : IntsAt W A l
theorem LO.next {w W W' : World} {p q : Nat} {a b c x y z : Int} {A : Option Addr} {l : List Int} (h : LO w p q a b c x y z A l W) (hb : Below W.heap.size W W') : LO w p q a b c x y z A l W' :=
  ⟨h.below.trans (hb.mono h.below.size), h.m.next hb, by rw [hb.block _ (lt_of_block h.n)]; exact h.n, h.l.below hb⟩
theorem LO.s {w W : World} {p q : Nat} {a b c x y z : Int} {A : Option Addr} {l : List Int} (h : LO w p q a b c x y z A l W) : W.cell? ⟨p, 0, none⟩ = some (.int .i64 a) ∧ W.cell? ⟨p, 1, none⟩ = some (.int .i64 b) ∧ W.cell? ⟨p, 2, none⟩ = some (.int .i64 c) ∧
    W.cell? ⟨q, 0, none⟩ = some (.int .u8 x) ∧ W.cell? ⟨q, 1, none⟩ = some (.int .u8 y) ∧ W.cell? ⟨q, 2, none⟩ = some (.int .u8 z) ∧ p < W.heap.size ∧ q < W.heap.size := by
  refine ⟨h.m.c.1, h.m.c.2.1, h.m.c.2.2, ?_, ?_, ?_, lt_of_block h.m, lt_of_block h.n⟩ <;> simp [World.cell?, h.n]
theorem LO.start {w : World} {a b c x y z : Int} {A : Option Addr} {l : List Int} (hl : IntsAt w A l) : LO w w.heap.size (w.heap.size + 1) a b c x y z A l ((w.alloc (.cells #[.int .i64 a, .int .i64 b, .int .i64 c] 23)).alloc (.cells #[.int .u8 x, .int .u8 y, .int .u8 z] 38)) :=
  ⟨((Below.refl _ _).alloc (Nat.le_refl _) _).alloc (by simp) _, heap_keep (heap_at rfl _) _, heap_at (by simp) _, (hl.below ((Below.refl _ _).alloc (Nat.le_refl _) _)).below ((Below.refl _ _).alloc (Nat.le_refl _) _)⟩

theorem make5 (w : World) : (Instr.makeSlice 33 (.int .i64 5) (.int .i64 5)).run Try.prog w = .ok (.slice (some ⟨w.heap.size, 0, none⟩) 5 5) (w.alloc (.cells #[.int .i64 0, .int .i64 0, .int .i64 0, .int .i64 0, .int .i64 0] 3)) := by kernel_rfl
set_option maxRecDepth 100000 in
set_option maxHeartbeats 8000000 in
theorem law7 (A : Option Addr) (l : List Int) (cap : Nat) (a b c x y z : Int) (w : World) (hl : IntsAt w A l) (hcap : l.length ≤ cap) (hn : l.length ≤ 4611686018427387904) (x0 : 0 ≤ x) (x1 : x ≤ 255) (y0 : 0 ≤ y) (y1 : y ≤ 255) (z0 : 0 ≤ z) (z1 : z ≤ 255) :
    Calls Try.prog 7 #[.slice A l.length cap, .agg #[.int .i64 a, .int .i64 b, .int .i64 c], .agg #[.int .u8 x, .int .u8 y, .int .u8 z]] w fun e w' => e = .returned (.bool true) ∧ Below w.heap.size w w' := by
  have I0 := Kp.mk (LO.start (a := a) (b := b) (c := c) (x := x) (y := y) (z := z) hl)
  clear hl
  by_cases h20 : 20 < l.length
  · go_enter Try.func7, Try.ntmps7
    go_wp2_with fail
    refine (awake12 _).mono ?_
    rintro e w1 ⟨rfl, hb⟩
    have I := Kp.mk (I0.out.next hb)
    clear hb I0
    go_wp2_with fail
    refine (awake12 _).mono ?_
    rintro e w2 ⟨rfl, hb⟩
    have I := Kp.mk (I.out.next hb)
    go_wp2
    go_ret
    exact ⟨rfl, I.out.below⟩
  · have hl20 : l.length ≤ 20 := by omega
    obtain ⟨t, ht⟩ : ∃ t, t = (if ok5 l then abv l 0 else 0) := ⟨_, rfl⟩
    have HV := Kp.mk (show validV l = .tuple #[.int .i64 t, .bool (ok5 l)] by rw [ht]; rfl)
    clear ht
    go_enter Try.func7, Try.ntmps7
    go_wp2_with fail
    refine (awake12 _).mono ?_
    rintro e w1 ⟨rfl, hb⟩
    have I1 := Kp.mk (I0.out.next hb)
    clear hb I0
    obtain ⟨m0, m1, m2, n0, n1, n2, g0, g1⟩ := I1.out.s
    go_wp2_with fail
    refine (valid23 A l cap _ I1.out.l hl20).mono ?_
    rintro e w3 ⟨rfl, rfl⟩
    rw [HV.out]
    cases h5 : ok5 l
    · go_wp2
      go_ret
      exact ⟨rfl, I1.out.below⟩
    · go_wp2_with fail
      go_quiet (fail)
      have I2 := Kp.mk (I1.out.next (below_drewN (Below.refl _ _) nq))
      clear I1 m0 m1 m2 n0 n1 n2 g0 g1
      obtain ⟨m0, m1, m2, n0, n1, n2, g0, g1⟩ := I2.out.s
      go_wp2_with fail
      obtain ⟨n, hnx⟩ := Int.eq_ofNat_of_zero_le (show 0 ≤ x % 5 by omega)
      have hn4 : n ≤ 4 := by omega
      obtain ⟨v, hvy⟩ : ∃ v, v = y % 3 := ⟨_, rfl⟩
      have hv0 : 0 ≤ v := by omega
      have hv2 : v ≤ 2 := by omega
      rw [hnx, ← hvy]
      clear hnx hvy
      cases hal : alw l a b c n v
      · refine (allowedR l false hal rfl hcap I2.out.l).mono ?_
        rintro e w3 ⟨rfl, hb⟩
        have I3 := Kp.mk (I2.out.next hb)
        go_wp2
        go_ret
        exact ⟨rfl, I3.out.below⟩
      · refine (allowedR l true hal rfl hcap I2.out.l).mono ?_
        rintro e w3 ⟨rfl, hb⟩
        have I3 := Kp.mk (I2.out.next hb)
        clear hb I2 m0 m1 m2 n0 n1 n2 g0 g1
        have HA := Kp.mk hal
        clear hal
        go_wp2_with fail
        go_loopw [11] (fun i wr => ∃ k : Int, v ≤ k ∧ k ≤ 3 ∧ i = .int .i64 k ∧ Kp (LO w w.heap.size (w.heap.size + 1) a b c x y z A l wr)) (fun i _ => (3 - intOf i).toNat)
        case atStart => exact ⟨v, by omega, by omega, rfl, I3⟩
        case round =>
          clear I3
          obtain ⟨k, hvk, hk3, rfl, I⟩ := hrel
          obtain ⟨m0, m1, m2, n0, n1, n2, g0, g1⟩ := I.out.s
          by_cases hlt : k ≤ 2
          · go_wp2_with fail
            refine (allowedR l true (alw_ctx HA.out hvk hlt) rfl hcap I.out.l).mono ?_
            rintro e w4 ⟨rfl, hb⟩
            have I4 := Kp.mk (I.out.next hb)
            clear hb I m0 m1 m2 n0 n1 n2 g0 g1
            go_wp2
            go_roundw
            case rel => exact ⟨k + 1, by omega, by omega, by go_num, I4⟩
            case measure => simp [intOf]; omega
          · obtain ⟨o, ho⟩ := Int.eq_ofNat_of_zero_le (show 0 ≤ z % 5 by omega)
            have ho5 : o < 5 := by omega
            have hmk := make5
            have HS := Kp.mk (take5_src I.out.l ((Below.refl _ _).alloc (Nat.le_refl _) (.cells #[.int .i64 0, .int .i64 0, .int .i64 0, .int .i64 0, .int .i64 0] 3)))
            have HM := Kp.mk (alw_more HA.out ho5)
            have bo := g5_bd h5 ho5
            have hoc : o = 0 ∨ o = 1 ∨ o = 2 ∨ o = 3 ∨ o = 4 := by omega
            rcases hoc with rfl | rfl | rfl | rfl | rfl
            · by_cases hlt : g5 l 0 < 4096
              · have HE := Kp.mk (show more l 0 = [g5 l 0 + 1, g5 l 1, g5 l 2, g5 l 3, g5 l 4] by simp [more, hlt])
                go_wp2_with ((with_reducible refine gate_dst (N := 57) rfl ?_); go_must (refine wpList_copy_new rfl (.tmp 55) (.tmp 56) 33 33 rfl 3 Try.underlying33 (by kernel_rfl) _ rfl A 5 5 l.length cap rfl rfl z5 3 ((l.take 5).map (Value.int .i64)) (take5_len l) HS.out (by rw [take5_len]; exact Nat.min_le_right _ _) (take5_one l) ?_; rw [splice5]))
                refine (allowedR (more l 0) true HM.out (by rw [HE.out]; rfl) (by rw [HE.out]; simp) (by rw [HE.out]; exact ints_of_row (t := 3) (heap_at rfl _) (by simp))).mono ?_
                rintro e w4 ⟨rfl, hb⟩
                have I4 := Kp.mk ((I.out.next ((Below.refl _ _).alloc (Nat.le_refl _) _)).next hb)
                go_wp2
                go_ret
                exact ⟨rfl, I4.out.below⟩
              · have HE := Kp.mk (show more l 0 = [g5 l 0, g5 l 1, g5 l 2, g5 l 3, g5 l 4] by simp [more, hlt])
                go_wp2_with ((with_reducible refine gate_dst (N := 57) rfl ?_); go_must (refine wpList_copy_new rfl (.tmp 55) (.tmp 56) 33 33 rfl 3 Try.underlying33 (by kernel_rfl) _ rfl A 5 5 l.length cap rfl rfl z5 3 ((l.take 5).map (Value.int .i64)) (take5_len l) HS.out (by rw [take5_len]; exact Nat.min_le_right _ _) (take5_one l) ?_; rw [splice5]))
                refine (allowedR (more l 0) true HM.out (by rw [HE.out]; rfl) (by rw [HE.out]; simp) (by rw [HE.out]; exact ints_of_row (t := 3) (heap_at rfl _) (by simp))).mono ?_
                rintro e w4 ⟨rfl, hb⟩
                have I4 := Kp.mk ((I.out.next ((Below.refl _ _).alloc (Nat.le_refl _) _)).next hb)
                go_wp2
                go_ret
                exact ⟨rfl, I4.out.below⟩
            · by_cases hlt : g5 l 1 < 4096
              · have HE := Kp.mk (show more l 1 = [g5 l 0, g5 l 1 + 1, g5 l 2, g5 l 3, g5 l 4] by simp [more, hlt])
                go_wp2_with ((with_reducible refine gate_dst (N := 57) rfl ?_); go_must (refine wpList_copy_new rfl (.tmp 55) (.tmp 56) 33 33 rfl 3 Try.underlying33 (by kernel_rfl) _ rfl A 5 5 l.length cap rfl rfl z5 3 ((l.take 5).map (Value.int .i64)) (take5_len l) HS.out (by rw [take5_len]; exact Nat.min_le_right _ _) (take5_one l) ?_; rw [splice5]))
                refine (allowedR (more l 1) true HM.out (by rw [HE.out]; rfl) (by rw [HE.out]; simp) (by rw [HE.out]; exact ints_of_row (t := 3) (heap_at rfl _) (by simp))).mono ?_
                rintro e w4 ⟨rfl, hb⟩
                have I4 := Kp.mk ((I.out.next ((Below.refl _ _).alloc (Nat.le_refl _) _)).next hb)
                go_wp2
                go_ret
                exact ⟨rfl, I4.out.below⟩
              · have HE := Kp.mk (show more l 1 = [g5 l 0, g5 l 1, g5 l 2, g5 l 3, g5 l 4] by simp [more, hlt])
                go_wp2_with ((with_reducible refine gate_dst (N := 57) rfl ?_); go_must (refine wpList_copy_new rfl (.tmp 55) (.tmp 56) 33 33 rfl 3 Try.underlying33 (by kernel_rfl) _ rfl A 5 5 l.length cap rfl rfl z5 3 ((l.take 5).map (Value.int .i64)) (take5_len l) HS.out (by rw [take5_len]; exact Nat.min_le_right _ _) (take5_one l) ?_; rw [splice5]))
                refine (allowedR (more l 1) true HM.out (by rw [HE.out]; rfl) (by rw [HE.out]; simp) (by rw [HE.out]; exact ints_of_row (t := 3) (heap_at rfl _) (by simp))).mono ?_
                rintro e w4 ⟨rfl, hb⟩
                have I4 := Kp.mk ((I.out.next ((Below.refl _ _).alloc (Nat.le_refl _) _)).next hb)
                go_wp2
                go_ret
                exact ⟨rfl, I4.out.below⟩
            · by_cases hlt : g5 l 2 < 4096
              · have HE := Kp.mk (show more l 2 = [g5 l 0, g5 l 1, g5 l 2 + 1, g5 l 3, g5 l 4] by simp [more, hlt])
                go_wp2_with ((with_reducible refine gate_dst (N := 57) rfl ?_); go_must (refine wpList_copy_new rfl (.tmp 55) (.tmp 56) 33 33 rfl 3 Try.underlying33 (by kernel_rfl) _ rfl A 5 5 l.length cap rfl rfl z5 3 ((l.take 5).map (Value.int .i64)) (take5_len l) HS.out (by rw [take5_len]; exact Nat.min_le_right _ _) (take5_one l) ?_; rw [splice5]))
                refine (allowedR (more l 2) true HM.out (by rw [HE.out]; rfl) (by rw [HE.out]; simp) (by rw [HE.out]; exact ints_of_row (t := 3) (heap_at rfl _) (by simp))).mono ?_
                rintro e w4 ⟨rfl, hb⟩
                have I4 := Kp.mk ((I.out.next ((Below.refl _ _).alloc (Nat.le_refl _) _)).next hb)
                go_wp2
                go_ret
                exact ⟨rfl, I4.out.below⟩
              · have HE := Kp.mk (show more l 2 = [g5 l 0, g5 l 1, g5 l 2, g5 l 3, g5 l 4] by simp [more, hlt])
                go_wp2_with ((with_reducible refine gate_dst (N := 57) rfl ?_); go_must (refine wpList_copy_new rfl (.tmp 55) (.tmp 56) 33 33 rfl 3 Try.underlying33 (by kernel_rfl) _ rfl A 5 5 l.length cap rfl rfl z5 3 ((l.take 5).map (Value.int .i64)) (take5_len l) HS.out (by rw [take5_len]; exact Nat.min_le_right _ _) (take5_one l) ?_; rw [splice5]))
                refine (allowedR (more l 2) true HM.out (by rw [HE.out]; rfl) (by rw [HE.out]; simp) (by rw [HE.out]; exact ints_of_row (t := 3) (heap_at rfl _) (by simp))).mono ?_
                rintro e w4 ⟨rfl, hb⟩
                have I4 := Kp.mk ((I.out.next ((Below.refl _ _).alloc (Nat.le_refl _) _)).next hb)
                go_wp2
                go_ret
                exact ⟨rfl, I4.out.below⟩
            · by_cases hlt : g5 l 3 < 4096
              · have HE := Kp.mk (show more l 3 = [g5 l 0, g5 l 1, g5 l 2, g5 l 3 + 1, g5 l 4] by simp [more, hlt])
                go_wp2_with ((with_reducible refine gate_dst (N := 57) rfl ?_); go_must (refine wpList_copy_new rfl (.tmp 55) (.tmp 56) 33 33 rfl 3 Try.underlying33 (by kernel_rfl) _ rfl A 5 5 l.length cap rfl rfl z5 3 ((l.take 5).map (Value.int .i64)) (take5_len l) HS.out (by rw [take5_len]; exact Nat.min_le_right _ _) (take5_one l) ?_; rw [splice5]))
                refine (allowedR (more l 3) true HM.out (by rw [HE.out]; rfl) (by rw [HE.out]; simp) (by rw [HE.out]; exact ints_of_row (t := 3) (heap_at rfl _) (by simp))).mono ?_
                rintro e w4 ⟨rfl, hb⟩
                have I4 := Kp.mk ((I.out.next ((Below.refl _ _).alloc (Nat.le_refl _) _)).next hb)
                go_wp2
                go_ret
                exact ⟨rfl, I4.out.below⟩
              · have HE := Kp.mk (show more l 3 = [g5 l 0, g5 l 1, g5 l 2, g5 l 3, g5 l 4] by simp [more, hlt])
                go_wp2_with ((with_reducible refine gate_dst (N := 57) rfl ?_); go_must (refine wpList_copy_new rfl (.tmp 55) (.tmp 56) 33 33 rfl 3 Try.underlying33 (by kernel_rfl) _ rfl A 5 5 l.length cap rfl rfl z5 3 ((l.take 5).map (Value.int .i64)) (take5_len l) HS.out (by rw [take5_len]; exact Nat.min_le_right _ _) (take5_one l) ?_; rw [splice5]))
                refine (allowedR (more l 3) true HM.out (by rw [HE.out]; rfl) (by rw [HE.out]; simp) (by rw [HE.out]; exact ints_of_row (t := 3) (heap_at rfl _) (by simp))).mono ?_
                rintro e w4 ⟨rfl, hb⟩
                have I4 := Kp.mk ((I.out.next ((Below.refl _ _).alloc (Nat.le_refl _) _)).next hb)
                go_wp2
                go_ret
                exact ⟨rfl, I4.out.below⟩
            · by_cases hlt : g5 l 4 < 4096
              · have HE := Kp.mk (show more l 4 = [g5 l 0, g5 l 1, g5 l 2, g5 l 3, g5 l 4 + 1] by simp [more, hlt])
                go_wp2_with ((with_reducible refine gate_dst (N := 57) rfl ?_); go_must (refine wpList_copy_new rfl (.tmp 55) (.tmp 56) 33 33 rfl 3 Try.underlying33 (by kernel_rfl) _ rfl A 5 5 l.length cap rfl rfl z5 3 ((l.take 5).map (Value.int .i64)) (take5_len l) HS.out (by rw [take5_len]; exact Nat.min_le_right _ _) (take5_one l) ?_; rw [splice5]))
                refine (allowedR (more l 4) true HM.out (by rw [HE.out]; rfl) (by rw [HE.out]; simp) (by rw [HE.out]; exact ints_of_row (t := 3) (heap_at rfl _) (by simp))).mono ?_
                rintro e w4 ⟨rfl, hb⟩
                have I4 := Kp.mk ((I.out.next ((Below.refl _ _).alloc (Nat.le_refl _) _)).next hb)
                go_wp2
                go_ret
                exact ⟨rfl, I4.out.below⟩
              · have HE := Kp.mk (show more l 4 = [g5 l 0, g5 l 1, g5 l 2, g5 l 3, g5 l 4] by simp [more, hlt])
                go_wp2_with ((with_reducible refine gate_dst (N := 57) rfl ?_); go_must (refine wpList_copy_new rfl (.tmp 55) (.tmp 56) 33 33 rfl 3 Try.underlying33 (by kernel_rfl) _ rfl A 5 5 l.length cap rfl rfl z5 3 ((l.take 5).map (Value.int .i64)) (take5_len l) HS.out (by rw [take5_len]; exact Nat.min_le_right _ _) (take5_one l) ?_; rw [splice5]))
                refine (allowedR (more l 4) true HM.out (by rw [HE.out]; rfl) (by rw [HE.out]; simp) (by rw [HE.out]; exact ints_of_row (t := 3) (heap_at rfl _) (by simp))).mono ?_
                rintro e w4 ⟨rfl, hb⟩
                have I4 := Kp.mk ((I.out.next ((Below.refl _ _).alloc (Nat.le_refl _) _)).next hb)
                go_wp2
                go_ret
                exact ⟨rfl, I4.out.below⟩
end Go.Proofs.Ytmomcelnfljnmaa
