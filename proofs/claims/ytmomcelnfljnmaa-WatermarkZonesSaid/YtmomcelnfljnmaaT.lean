/-
  Walk of slices.BinarySearch at ints. Conditions: none but what each theorem names.
-/
import Derived.Test.YtmomcelnfljnmaaQ
namespace Go.Proofs.Ytmomcelnfljnmaa
open Go.RowKit
set_option linter.unusedVariables false

theorem nan78 (x : Int) (w : World) : Calls Try.prog 78 #[.int .i64 x] w fun e w' => e = .returned (.bool false) ∧ w = w' := by
  go_enter Try.func78, Try.ntmps78
  go_wp2
  go_ret
  exact ⟨by simp, rfl⟩
theorem nan105 (x : Int) (w : World) : Calls Try.prog 105 #[.int .i64 x] w fun e w' => e = .returned (.bool false) ∧ w = w' := by
  go_enter Try.func105, Try.ntmps105
  go_wp2
  go_ret
  exact ⟨by simp, rfl⟩
theorem less104 (x y : Int) (w : World) : Calls Try.prog 104 #[.int .i64 x, .int .i64 y] w fun e w' => e = .returned (.bool (decide (x < y))) ∧ w = w' := by
  go_enter Try.func104, Try.ntmps104
  go_wp2_with (go_at_call 78; refine (nan78 _ _).mono ?_; rintro e w' ⟨rfl, rfl⟩)
  go_ret
  exact ⟨rfl, rfl⟩

/-- A strictly rising list. -/
def Rising (l : List Int) : Prop := ∀ i j, i < j → j < l.length → g5 l i < g5 l j
theorem found_of {l : List Int} {t : Int} {i : Nat} (hr : Rising l) (hi : i ≤ l.length) (h1 : ∀ m, m < i → g5 l m < t) (h2 : ∀ m, i ≤ m → m < l.length → t ≤ g5 l m) : decide (t ∈ l) = (decide (i < l.length) && decide (g5 l i = t)) := by
  rw [Bool.eq_iff_iff]
  simp only [decide_eq_true_eq, Bool.and_eq_true]
  constructor
  · intro h
    obtain ⟨m, hm, rfl⟩ := g5_mem h
    have : ¬ m < i := fun c => by have := h1 m c; omega
    have e : m = i := by
      rcases Nat.lt_or_eq_of_le (show i ≤ m by omega) with c | c
      · have := hr i m c hm
        have := h2 i (Nat.le_refl _) (by omega)
        omega
      · exact c.symm
    subst e
    exact ⟨hm, rfl⟩
  · rintro ⟨h, rfl⟩
    exact mem_g5 h

set_option maxHeartbeats 1000000 in
theorem search83 (A : Option Addr) (l : List Int) (cap : Nat) (t : Int) (w : World) (hl : IntsAt w A l) (hr : Rising l) :
    Calls Try.prog 83 #[.slice A l.length cap, .int .i64 t] w fun e w' => (∃ p : Int, e = .returned (.tuple #[.int .i64 p, .bool (decide (t ∈ l))])) ∧ w = w' := by
  have HL := Kp.mk hl
  have hn := hl.1
  clear hl
  have HR := Kp.mk hr
  clear hr
  obtain ⟨d, hd⟩ : ∃ d, d = decide (t ∈ l) := ⟨_, rfl⟩
  rw [← hd]
  have HD := Kp.mk hd
  clear hd
  go_enter Try.func83, Try.ntmps83
  go_wp2
  go_loop [7, 8] (fun x y => ∃ i j : Nat, i ≤ j ∧ j ≤ l.length ∧ x = .int .i64 i ∧ y = .int .i64 j ∧ Kp (∀ m, m < i → g5 l m < t) ∧ Kp (∀ m, j ≤ m → m < l.length → t ≤ g5 l m)) (fun x y => (intOf y).toNat - (intOf x).toNat)
  case atStart => exact ⟨0, l.length, by omega, by omega, rfl, rfl, ⟨by omega⟩, ⟨by omega⟩⟩
  case round =>
    obtain ⟨i, j, hij, hj, rfl, rfl, H1, H2⟩ := hrel
    by_cases hlt : i < j
    · have hh : (i + j) / 2 < l.length := by omega
      obtain ⟨b, off, rfl, hc⟩ := HL.out.cell hh
      have HM : Kp (∀ m, m < (i + j) / 2 → g5 l m < g5 l ((i + j) / 2)) := ⟨fun m hm => HR.out m _ hm hh⟩
      have HN : Kp (∀ m, (i + j) / 2 ≤ m → m < l.length → g5 l ((i + j) / 2) ≤ g5 l m) := ⟨fun m hm hl => by
        rcases Nat.lt_or_eq_of_le hm with c | c
        · exact Int.le_of_lt (HR.out _ m c hl)
        · rw [c]; omega⟩
      go_wp2_with (go_at_call 104; refine (less104 _ _ _).mono ?_; rintro e w' ⟨rfl, rfl⟩)
      · rename_i hlt2
        refine ⟨⟨(i + j) / 2 + 1, j, by omega, hj, by congr 1, rfl, ⟨fun m hm => ?_⟩, H2⟩, by simp only [intOf]; omega⟩
        rcases Nat.lt_or_eq_of_le (show m ≤ (i + j) / 2 by omega) with c | c
        · have := HM.out m c; omega
        · rw [c]; exact hlt2
      · rename_i hlt2
        refine ⟨⟨i, (i + j) / 2, by omega, by omega, rfl, by congr 1, H1, ⟨fun m hm hml => ?_⟩⟩, by simp only [intOf]; omega⟩
        have := HN.out m hm hml; omega
    · obtain rfl : i = j := by omega
      have HF := Kp.mk (found_of HR.out hj H1.out H2.out)
      by_cases hi : i < l.length
      · obtain ⟨b, off, rfl, hc⟩ := HL.out.cell hi
        go_wp2_with (go_at_call 105; refine (nan105 _ _).mono ?_; rintro e w' ⟨rfl, rfl⟩)
        all_goals go_returns
        all_goals exact ⟨⟨i, by rw [HD.out, HF.out]; simp [*]⟩, rfl⟩
      · go_wp2_with (go_at_call 105; refine (nan105 _ _).mono ?_; rintro e w' ⟨rfl, rfl⟩)
        all_goals go_returns
        all_goals exact ⟨⟨i, by rw [HD.out, HF.out]; simp [*]⟩, rfl⟩
end Go.Proofs.Ytmomcelnfljnmaa
