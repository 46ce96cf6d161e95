/-
  Contracts of the reference's blocks, Valid and above. Conditions: none but what each theorem names.
-/
import Derived.Test.YtmomcelnfljnmaaC
namespace Go.Proofs.Ytmomcelnfljnmaa
open Go.RowKit
set_option linter.unusedVariables false

theorem IntsAt.drewN {w : World} {A : Option Addr} {l : List Int} (h : IntsAt w A l) (n : Nat) : IntsAt (w.drewN n) A l := h.below (below_drewN (Below.refl _ _) n)
theorem IntsAt.cell {w : World} {A : Option Addr} {l : List Int} (h : IntsAt w A l) {o : Nat} (ho : o < l.length) : ∃ b off, A = some ⟨b, off, none⟩ ∧ w.cell? ⟨b, off + o, none⟩ = some (.int .i64 (g5 l o)) := by
  obtain ⟨ad, rfl, _, hc⟩ := h.2 (by rintro rfl; simp at ho)
  obtain ⟨b, off, spot⟩ := ad
  have e0 := hc o l[o] (by simp [ho])
  have h0 := hc 0 l[0] (by simp)
  have hspot : spot = none := by simpa [Addr.add] using World.cell?_spot h0
  subst hspot
  refine ⟨b, off, rfl, ?_⟩
  rw [← Go.WideShapes.add_plain, e0]
  simp [g5, ho]

set_option maxHeartbeats 400000 in
theorem blocks69 (A : Option Addr) (l : List Int) (cap : Nat) (o : Nat) (w : World) (hl : IntsAt w A l) :
    Calls Try.prog 69 #[.slice A l.length cap, .int .i64 o] w fun e w' => e = .returned (.int .i64 (g5 l o)) ∧ w = w' := by
  by_cases h : o < l.length
  · obtain ⟨b, off, rfl, hc⟩ := hl.cell h
    clear hl
    go_enter Try.func69, Try.ntmps69
    go_wp2
    go_ret
    exact ⟨rfl, rfl⟩
  · have e0 := Kp.mk (show g5 l o = 0 by simp [g5, List.getElem?_eq_none (show l.length ≤ o by omega)])
    have h' : l.length ≤ o := by omega
    go_enter Try.func69, Try.ntmps69
    go_wp2
    go_ret
    exact ⟨by rw [e0.out]; rfl, rfl⟩

/-- The frames in blocks of orders from o on. -/
def abv (l : List Int) (o : Nat) : Int := ((List.range (5 - o)).map fun i => g5 l (o + i) * 2 ^ (o + i)).sum
theorem abv5 (l : List Int) {o : Nat} (h : 5 ≤ o) : abv l o = 0 := by simp [abv, Nat.sub_eq_zero_of_le h]
theorem abv_step (l : List Int) {o : Nat} (h : o < 5) : abv l o = g5 l o * 2 ^ o + abv l (o + 1) := by
  unfold abv
  obtain ⟨d, hd⟩ : ∃ d, 5 - o = d + 1 := ⟨4 - o, by omega⟩
  have hd' : 5 - (o + 1) = d := by omega
  rw [hd, hd', List.range_succ_eq_map]
  simp [Function.comp_def, Nat.add_assoc, Nat.add_comm 1]

theorem valid42 (A : Option Addr) (l : List Int) (cap : Nat) (w : World) (hl : IntsAt w A l) :
    Calls Try.prog 42 #[.slice A l.length cap] w fun e w' => e = .returned (.bool (ok5 l)) ∧ w = w' := by
  have HL := Kp.mk hl
  clear hl
  go_enter Try.func42, Try.ntmps42
  go_wp2
  go_loop [3] (fun i => ∃ k : Nat, k ≤ 5 ∧ i = .int .i64 k ∧ Kp (ok5 l = ((List.range (5 - k)).map fun i => inB (g5 l (k + i))).all id)) (fun i => 5 - (intOf i).toNat)
  case atStart => exact ⟨0, by omega, rfl, ⟨by simp [ok5, List.range_succ_eq_map, Bool.and_assoc]⟩⟩
  case round =>
    obtain ⟨k, hk, rfl, HE⟩ := hrel
    by_cases hlt : k < 5
    · have hE : ok5 l = (inB (g5 l k) && ((List.range (5 - (k + 1))).map fun i => inB (g5 l (k + 1 + i))).all id) := by
        rw [HE.out]
        obtain ⟨d, hd⟩ : ∃ d, 5 - k = d + 1 := ⟨4 - k, by omega⟩
        have hd' : 5 - (k + 1) = d := by omega
        rw [hd, hd', List.range_succ_eq_map]
        simp [Function.comp_def, Nat.add_assoc, Nat.add_comm 1]
      cases hb : inB (g5 l k)
      · rw [hb] at hE
        have HE' := Kp.mk (show ok5 l = false by simpa using hE)
        clear HE hE
        go_wp2_with (first | (go_at_call 69; refine (blocks69 _ _ _ _ _ HL.out).mono ?_; rintro e w' ⟨rfl, rfl⟩) | (go_at_call 40; refine (in40 _ _).mono ?_; rintro e w' ⟨rfl, rfl⟩))
        go_ret
        exact ⟨by rw [HE'.out]; rfl, rfl⟩
      · rw [hb] at hE
        have HE' := Kp.mk (show ok5 l = ((List.range (5 - (k + 1))).map fun i => inB (g5 l (k + 1 + i))).all id by simpa using hE)
        clear HE hE
        go_wp2_with (first | (go_at_call 69; refine (blocks69 _ _ _ _ _ HL.out).mono ?_; rintro e w' ⟨rfl, rfl⟩) | (go_at_call 40; refine (in40 _ _).mono ?_; rintro e w' ⟨rfl, rfl⟩))
        go_round
        case rel => exact ⟨k + 1, by omega, by go_num, HE'⟩
        case measure => simp [intOf]; omega
    · have HE' := Kp.mk (show ok5 l = true by rw [HE.out, Nat.sub_eq_zero_of_le (by omega)]; rfl)
      clear HE
      go_wp2
      go_ret
      exact ⟨by rw [HE'.out]; rfl, rfl⟩

theorem g5_bd {l : List Int} (h : ok5 l = true) {k : Nat} (hk : k < 5) : 0 ≤ g5 l k ∧ g5 l k ≤ 4096 := by
  simp only [ok5, Bool.and_eq_true] at h
  obtain ⟨⟨⟨⟨h0, h1⟩, h2⟩, h3⟩, h4⟩ := h
  have : k = 0 ∨ k = 1 ∨ k = 2 ∨ k = 3 ∨ k = 4 := by omega
  rcases this with rfl | rfl | rfl | rfl | rfl <;> exact inB_true (by assumption)
theorem sh_bd {l : List Int} (h : ok5 l = true) {k : Nat} (hk : k < 5) : 0 ≤ g5 l k * 2 ^ k ∧ g5 l k * 2 ^ k ≤ 65536 := by
  have := g5_bd h hk
  have : k = 0 ∨ k = 1 ∨ k = 2 ∨ k = 3 ∨ k = 4 := by omega
  rcases this with rfl | rfl | rfl | rfl | rfl <;> simp only [Int.reducePow] <;> omega
theorem abv_bd {l : List Int} (h : ok5 l = true) (o : Nat) : 0 ≤ abv l o ∧ abv l o ≤ 327680 := by
  by_cases ho : 5 ≤ o
  · rw [abv5 l ho]; omega
  · have a0 := sh_bd h (show 0 < 5 by omega)
    have a1 := sh_bd h (show 1 < 5 by omega)
    have a2 := sh_bd h (show 2 < 5 by omega)
    have a3 := sh_bd h (show 3 < 5 by omega)
    have a4 := sh_bd h (show 4 < 5 by omega)
    have s0 := abv_step l (show 0 < 5 by omega)
    have s1 := abv_step l (show 1 < 5 by omega)
    have s2 := abv_step l (show 2 < 5 by omega)
    have s3 := abv_step l (show 3 < 5 by omega)
    have s4 := abv_step l (show 4 < 5 by omega)
    have s5 := abv5 l (show 5 ≤ 4 + 1 by omega)
    have : o = 0 ∨ o = 1 ∨ o = 2 ∨ o = 3 ∨ o = 4 := by omega
    rcases this with rfl | rfl | rfl | rfl | rfl <;> simp only [Nat.zero_add, Nat.reduceAdd] at * <;> omega
theorem wrap_id {x : Int} (h0 : -9223372036854775808 ≤ x) (h1 : x ≤ 9223372036854775807) : wrap64 x = x := by unfold wrap64; omega
theorem abv_wrap {l : List Int} (h : ok5 l = true) {k : Nat} (hk : k < 5) (o : Nat) (ho : o ≤ k) : wrap64 (abv l o - abv l k + wrap64 (g5 l k * 2 ^ k)) = abv l o - abv l (k + 1) := by
  have a := sh_bd h hk
  have b := abv_bd h o
  have c := abv_bd h k
  have d := abv_step l hk
  rw [wrap_id (x := g5 l k * 2 ^ k) (by omega) (by omega), wrap_id (by omega) (by omega)]
  omega

theorem above43 (A : Option Addr) (l : List Int) (cap : Nat) (o : Nat) (w : World) (hl : IntsAt w A l) (h5 : ok5 l = true) (_ho : o ≤ 5) :
    Calls Try.prog 43 #[.slice A l.length cap, .int .i64 o] w fun e w' => e = .returned (.int .i64 (abv l o)) ∧ w = w' := by
  have HL := Kp.mk hl
  clear hl
  go_enter Try.func43, Try.ntmps43
  go_wp2
  go_loop [5, 6] (fun n i => ∃ k : Nat, o ≤ k ∧ k ≤ 5 ∧ i = .int .i64 k ∧ n = .int .i64 (abv l o - abv l k)) (fun _ i => 5 - (intOf i).toNat)
  case atStart => exact ⟨o, by omega, by omega, rfl, by simp⟩
  case round =>
    obtain ⟨k, hk0, hk, rfl, rfl⟩ := hrel
    by_cases hlt : k < 5
    · go_wp2_with (first | (go_at_call 69; refine (blocks69 _ _ _ _ _ HL.out).mono ?_; rintro e w' ⟨rfl, rfl⟩))
      go_round
      case rel => exact ⟨k + 1, by omega, by omega, by go_num, by rw [abv_wrap h5 hlt o hk0]⟩
      case measure => simp [intOf]; omega
    · have e5 := Kp.mk (abv5 l (show 5 ≤ k by omega))
      go_wp2
      go_ret
      exact ⟨by rw [e5.out, Int.sub_zero]; rfl, rfl⟩

/-- What Allowed answers, as the reference goes. -/
def alwd (l : List Int) (f : Int) (o : Nat) : Bool :=
  !(decide (abv l 0 - 2 ^ o < f) || abv l o == 0) && (List.range o).all fun k => decide (f / 2 ^ (k + 1) ≤ abv l (k + 1) - 2 ^ o)
def alw (l : List Int) (a b c o x : Int) : Bool := !(decide (flr a b c x < 0) || !(ok5 l) || decide (o < 0) || decide (4 < o)) && alwd l (flr a b c x) o.toNat
theorem flr_bd (a b c x : Int) : -1 ≤ flr a b c x ∧ flr a b c x ≤ 4096 := by
  unfold flr
  by_cases h : chk a b c = 0
  · have := chk_zero h
    simp only [h, ne_eq, not_true_eq_false, if_false]
    (repeat' split) <;> omega
  · simp only [ne_eq, h, not_false_eq_true, if_true]; omega


end Go.Proofs.Ytmomcelnfljnmaa
