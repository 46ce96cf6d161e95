/-
  The walk of WatermarkKeeps. Conditions: none but what each theorem names.
-/
import Derived.Test.YtmomcelnfljnmaaJ
import Derived.Test.YtmomcelnfljnmaaL
namespace Go.Proofs.Ytmomcelnfljnmaa
open Go.RowKit
set_option linter.unusedVariables false

/-- Is there a free block of the orders from n up to k? -/
def bl (l : List Int) (n k : Nat) : Bool := !(abv l n == abv l k)
theorem bl_self (l : List Int) (n : Nat) : bl l n n = false := by simp [bl]
theorem abv_anti {l : List Int} (h : ok5 l = true) (n : Nat) : ∀ d, n + d ≤ 5 → abv l (n + d) ≤ abv l n
  | 0, _ => Int.le_refl _
  | d + 1, hd => by
    have i := abv_anti h n d (by omega)
    have s := abv_step l (show n + d < 5 by omega)
    have b := sh_bd h (show n + d < 5 by omega)
    rw [← Nat.add_assoc]
    omega
theorem bl_succ {l : List Int} (h : ok5 l = true) {n k : Nat} (hn : n ≤ k) (hk : k < 5) : bl l n (k + 1) = (bl l n k || decide (0 < g5 l k)) := by
  have s := abv_step l hk
  have g := g5_bd h hk
  have sb := sh_bd h hk
  have a := abv_anti h n (k - n) (by omega)
  rw [show n + (k - n) = k by omega] at a
  have z : (0 < g5 l k) ↔ 0 < g5 l k * 2 ^ k := by
    have : k = 0 ∨ k = 1 ∨ k = 2 ∨ k = 3 ∨ k = 4 := by omega
    rcases this with rfl | rfl | rfl | rfl | rfl <;> simp only [Int.reducePow] <;> omega
  rw [Bool.eq_iff_iff]
  simp only [bl, Bool.or_eq_true, decide_eq_true_eq, Bool.not_eq_true', beq_eq_false_iff_ne]
  rw [z]
  omega
theorem abv_out {l : List Int} {k : Nat} (h : l.length ≤ k) : abv l k = 0 := by
  unfold abv
  have : ((List.range (5 - k)).map fun i => g5 l (k + i) * 2 ^ (k + i)) = (List.range (5 - k)).map fun _ => 0 := by
    apply List.map_congr_left
    intro i _
    rw [g5_out l (by omega)]
    simp
  rw [this]
  induction (5 - k) with
  | zero => rfl
  | succ m ih => rw [List.range_succ, List.map_append, List.sum_append, ih]; rfl
theorem alw_true {l : List Int} {a b c o x : Int} (h : alw l a b c o x = true) : ok5 l = true ∧ 0 ≤ flr a b c x ∧ ∃ n : Nat, o = n ∧ n ≤ 4 ∧ flr a b c x ≤ abv l 0 - 2 ^ n ∧ abv l n ≠ 0 ∧ ∀ k, k < n → flr a b c x / 2 ^ (k + 1) ≤ abv l (k + 1) - 2 ^ n := by
  simp only [alw, alwd, Bool.and_eq_true, Bool.not_eq_true', Bool.or_eq_false_iff, decide_eq_false_iff_not, Bool.not_eq_false', beq_eq_false_iff_ne, List.all_eq_true, List.mem_range, decide_eq_true_eq] at h
  obtain ⟨⟨⟨⟨h1, h2⟩, h3⟩, h4⟩, ⟨h5, h6⟩, h7⟩ := h
  refine ⟨h2, by omega, o.toNat, by omega, by omega, by omega, h6, h7⟩
theorem flr_ctx {a b c x : Int} (h : 0 ≤ flr a b c x) : (x = 0 ∧ flr a b c x = a ∨ x = 1 ∧ flr a b c x = a / 2 ∨ x = 2 ∧ flr a b c x = 0) ∧ 0 ≤ a ∧ a ≤ 4096 := by
  unfold flr at h ⊢
  by_cases hk : chk a b c = 0
  · have z := chk_zero hk
    refine ⟨?_, z.1⟩
    simp only [hk, ne_eq, not_true_eq_false, if_false] at h ⊢
    by_cases h0 : x = 0
    · exact .inl ⟨h0, by rw [if_pos h0]⟩
    · by_cases h1 : x = 1
      · exact .inr (.inl ⟨h1, by rw [if_neg h0, if_pos h1]⟩)
      · by_cases h2 : x = 2
        · exact .inr (.inr ⟨h2, by rw [if_neg h0, if_neg h1, if_pos h2]⟩)
        · rw [if_neg h0, if_neg h1, if_neg h2] at h; omega
  · simp only [ne_eq, hk, not_false_eq_true, if_true] at h; omega

set_option maxRecDepth 100000 in
set_option maxHeartbeats 8000000 in
theorem law6 (A : Option Addr) (l : List Int) (cap : Nat) (a b c x y : Int) (w : World) (hl : IntsAt w A l) (hcap : l.length ≤ cap) (hn : l.length ≤ 4611686018427387904) :
    Calls Try.prog 6 #[.slice A l.length cap, .agg #[.int .i64 a, .int .i64 b, .int .i64 c], .agg #[.int .i64 x, .int .i64 y]] w fun e w' => e = .returned (.bool true) ∧ Below w.heap.size w w' := by
  have I0 := Kp.mk (LI.start (a := a) (b := b) (c := c) (x := x) (y := y) hl)
  clear hl
  by_cases h20 : 20 < l.length
  · go_enter Try.func6, Try.ntmps6
    go_wp2_with fail
    refine (awake12 _).mono ?_
    rintro e w1 ⟨rfl, hb⟩
    have I := Kp.mk (I0.out.next hb)
    clear hb I0
    go_wp2_with fail
    refine (awake12 _).mono ?_
    rintro e w2 ⟨rfl, hb⟩
    have I := Kp.mk (I.out.next hb)
    go_wp2
    go_ret
    exact ⟨rfl, I.out.below⟩
  · have hl20 : l.length ≤ 20 := by omega
    go_enter Try.func6, Try.ntmps6
    go_wp2_with fail
    refine (awake12 _).mono ?_
    rintro e w1 ⟨rfl, hb⟩
    have I1 := Kp.mk (I0.out.next hb)
    clear hb I0
    obtain ⟨m0, m1, m2, n0, n1, _⟩ := I1.out.s
    go_wp2_with fail
    go_quiet (fail)
    have I2 := Kp.mk (I1.out.next (below_drewN (Below.refl _ _) nq))
    clear I1 m0 m1 m2 n0 n1
    obtain ⟨m0, m1, m2, n0, n1, _⟩ := I2.out.s
    go_wp2_with fail
    obtain ⟨t, ht⟩ : ∃ t, t = (if ok5 l then abv l 0 else 0) := ⟨_, rfl⟩
    obtain ⟨v5, h5⟩ : ∃ v5, v5 = ok5 l := ⟨_, rfl⟩
    have HV := Kp.mk (show validV l = .tuple #[.int .i64 t, .bool v5] by rw [ht, h5]; rfl)
    have HT := Kp.mk ht
    have H5 := Kp.mk h5
    clear ht h5
    refine (valid23 A l cap _ I2.out.l hl20).mono ?_
    rintro e w3 ⟨rfl, rfl⟩
    rw [HV.out]
    go_wp2_with fail
    cases hal : alw l a b c x y
    · refine (allowedR l false hal rfl hcap I2.out.l).mono ?_
      rintro e w3 ⟨rfl, hb⟩
      have I3 := Kp.mk (I2.out.next hb)
      go_wp2
      go_ret
      exact ⟨rfl, I3.out.below⟩
    · refine (allowedR l true hal rfl hcap I2.out.l).mono ?_
      rintro e w3 ⟨rfl, hb⟩
      have I3 := Kp.mk (I2.out.next hb)
      clear hb I2 m0 m1 m2 n0 n1
      obtain ⟨m0, m1, m2, n0, n1, _⟩ := I3.out.s
      obtain ⟨hok, hf, n, rfl, hn4, hle, hne, _⟩ := alw_true hal
      obtain ⟨hctx, ha0, ha1⟩ := flr_ctx hf
      have H5' := H5.out
      have HT' := HT.out
      rw [hok] at H5' HT'
      rw [if_pos rfl] at HT'
      subst H5'
      subst HT'
      clear hal H5 HT HV
      have p0 : (1 : Int) ≤ 2 ^ n ∧ (2 : Int) ^ n ≤ 16 := by
        have : n = 0 ∨ n = 1 ∨ n = 2 ∨ n = 3 ∨ n = 4 := by omega
        rcases this with rfl | rfl | rfl | rfl | rfl <;> simp
      have b0 := abv_bd hok 0
      have hnl : n < l.length := by
        rcases Nat.lt_or_ge n l.length with h | h
        · exact h
        · exact absurd (abv_out h) hne
      have HN := Kp.mk hne
      clear hne
      obtain ⟨f, hf1⟩ : ∃ f, f = flr a b c y := ⟨_, rfl⟩
      rw [← hf1] at hle hctx hf
      clear hf1
      rcases hctx with ⟨rfl, hfe⟩ | ⟨rfl, hfe⟩ | ⟨rfl, hfe⟩
      all_goals
        have HFE := Kp.mk hfe
        clear hfe
        go_wp2
        go_loop [12, 13] (fun s i => ∃ k : Nat, n ≤ k ∧ k ≤ 5 ∧ k ≤ l.length ∧ i = .int .i64 k ∧ s = .bool (bl l n k)) (fun _ i => 5 - (intOf i).toNat)
        case atStart => exact ⟨n, by omega, by omega, by omega, rfl, by rw [bl_self]⟩
        case round =>
          obtain ⟨k, hnk, hk5, hkl, rfl, rfl⟩ := hrel
          by_cases h1 : k < l.length
          · have d1 : decide (k < l.length) = true := by simpa using h1
            by_cases h2 : k < 5
            · obtain ⟨bb, off, rfl, hc⟩ := I3.out.l.cell h1
              have HS := Kp.mk (bl_succ hok hnk h2)
              cases hb : bl l n k
              · by_cases hg : 0 < g5 l k
                · have HS' := Kp.mk (show bl l n (k + 1) = true by rw [HS.out]; simp [hg])
                  clear HS
                  go_wp2
                  go_round
                  case rel => exact ⟨k + 1, by omega, by omega, by omega, by go_num, by rw [HS'.out]⟩
                  case measure => simp [intOf]; omega
                · have HS' := Kp.mk (show bl l n (k + 1) = false by rw [HS.out, hb]; simp [hg])
                  clear HS
                  go_wp2
                  go_round
                  case rel => exact ⟨k + 1, by omega, by omega, by omega, by go_num, by rw [HS'.out]⟩
                  case measure => simp [intOf]; omega
              · have HS' := Kp.mk (show bl l n (k + 1) = true by rw [HS.out, hb]; rfl)
                clear HS
                go_wp2
                go_round
                case rel => exact ⟨k + 1, by omega, by omega, by omega, by go_num, by rw [HS'.out]⟩
                case measure => simp [intOf]; omega
            · have HB := Kp.mk (show bl l n k = true by rw [bl, show abv l k = 0 from abv5 l (by omega)]; simpa using HN.out)
              rw [HB.out]
              have hfe := HFE.out
              clear HFE
              go_wp2
              go_ret
              exact ⟨by first | rfl | (simp; done) | (simp; omega), I3.out.below⟩
          · have d1 : decide (k < l.length) = false := by simpa using h1
            have HB := Kp.mk (show bl l n k = true by rw [bl, show abv l k = 0 from abv_out (by omega)]; simpa using HN.out)
            rw [HB.out]
            have hfe := HFE.out
            clear HFE
            go_wp2
            go_ret
            exact ⟨by first | rfl | (simp; done) | (simp; omega), I3.out.below⟩
end Go.Proofs.Ytmomcelnfljnmaa
