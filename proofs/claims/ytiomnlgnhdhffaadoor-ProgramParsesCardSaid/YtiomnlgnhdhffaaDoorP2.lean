/-
  The words of a line that is read: contract of number. Conditions: none but what each theorem names.
-/
import Derived.Test.YtiomnlgnhdhffaaDoorP1
namespace Go.Proofs.YtiomnlgnhdhffaaDoor
open Go.RowKit
set_option linter.unusedVariables false

theorem digV_bd : ∀ (l : List UInt8) (n m : Int), 0 ≤ n → digV l n = some m → 0 ≤ m ∧ m ≤ (n + 1) * 10 ^ l.length - 1
  | [], n, m, h0, h => by
    simp only [digV, Option.some.injEq] at h
    subst h
    simp
    omega
  | b :: l, n, m, h0, h => by
    unfold digV at h
    split at h
    · cases h
    · have hb : 48 ≤ b.toNat ∧ b.toNat ≤ 57 := by omega
      obtain ⟨h1, h2⟩ := digV_bd l _ m (by omega) h
      refine ⟨h1, Int.le_trans h2 ?_⟩
      have hp : (0 : Int) ≤ 10 ^ l.length := Int.pow_nonneg (by omega)
      have : (10 * n + ((b.toNat : Int) - 48) + 1) * 10 ^ l.length ≤ ((n + 1) * 10) * 10 ^ l.length := Int.mul_le_mul_of_nonneg_right (by omega) hp
      rw [List.length_cons, Int.pow_succ, Int.mul_comm (10 ^ l.length) 10, ← Int.mul_assoc]
      omega

theorem index_at (l : List UInt8) {i : Nat} {b : UInt8} (h : l[i]? = some b) (w : World) : (Instr.index 9 (.string (bstr l)) (.int .i64 (i : Int))).run Tryd.prog w = .ok (.int .u8 (b.toNat : Int)) w := by
  obtain ⟨hi, e⟩ := List.getElem?_eq_some_iff.1 h
  rw [run_index_string w 9 (bstr l) .i64 (i : Int) Tryd.underlying9, dif_pos ⟨by omega, by rw [bstr_size]; omega⟩]
  have : (bstr l)[(i : Int).toNat]'(by rw [bstr_size]; omega) = b := by
    rw [← e]
    rfl
  rw [this]
theorem pow10 {i : Nat} (h : i < 3) : (10 : Int) ^ (i + 1) = 10 * 10 ^ i ∧ (10 : Int) ^ i ≤ 100 ∧ (1 : Int) ≤ 10 ^ i := by
  have : i = 0 ∨ i = 1 ∨ i = 2 := by omega
  rcases this with rfl | rfl | rfl <;> decide
theorem digV_step {l : List UInt8} {i : Nat} {b : UInt8} (h : l[i]? = some b) (n : Int) : digV (l.drop i) n = if b.toNat < 48 ∨ 57 < b.toNat then none else digV (l.drop (i + 1)) (10 * n + ((b.toNat : Int) - 48)) := by
  obtain ⟨hi, e⟩ := List.getElem?_eq_some_iff.1 h
  rw [List.drop_eq_getElem_cons hi, e, digV]
set_option maxHeartbeats 1000000 in
theorem number38 {B p : Nat} {s : St} (W : World) (h : LnAt B p s W) : Calls Tryd.prog 38 #[.pointer (some ⟨p, 0, none⟩)] W fun e W' => e = .returned (.int .i64 (numS s).1) ∧ LnAt B p (numS s).2 W' ∧ W.grownBy W' (some p) := by
  have H0 := Kp.mk h
  clear h
  obtain ⟨w, hw⟩ : ∃ w, w = (nextS s).1 := ⟨_, rfl⟩
  have HW := Kp.mk hw
  have HBad := Kp.mk (fun (h : numW w = none) => show numS s = (0, ((nextS s).2.1, false)) by unfold numS; rw [← hw, h])
  have HOk := Kp.mk (fun n (h : numW w = some n) => show numS s = (n, (nextS s).2) by unfold numS; rw [← hw, h])
  clear hw
  have hs := bstr_size w
  by_cases hlen : w.length < 1 ∨ 3 < w.length
  · have HE := Kp.mk (HBad.out (by rw [numW, if_pos (by omega)]))
    have hnot : (decide ((w.length : Int) < 1) || decide (3 < (w.length : Int))) = true := by simpa using (by omega : (w.length : Int) < 1 ∨ 3 < (w.length : Int))
    clear HBad HOk
    go_enter Tryd.func38, Tryd.ntmps38
    go_wp2_with (go_at_call 36; refine (next36 _ H0.out).mono ?_; rintro e W' ⟨rfl, hL, hg⟩; have HL' := Kp.mk hL; have HG := Kp.mk hg; clear hL hg; rw [← HW.out]; obtain ⟨A, cap, c0, c1, c2, c3⟩ := HL'.out.fine)
    all_goals go_ret
    all_goals exact ⟨by rw [HE.out]; rfl, by rw [HE.out]; exact HL'.out.setFine false, HG.out.trans (setCell_grown _ _ _ _)⟩
  · obtain ⟨a, ha⟩ : ∃ a, w[0]? = some a := ⟨w[0]'(by omega), by simp⟩
    have hx0 : ∀ W, (Instr.index 9 (.string (bstr w)) (.int .i64 0)).run Tryd.prog W = .ok (.int .u8 (a.toNat : Int)) W := fun W => index_at w (i := 0) ha W
    by_cases h48 : a = 48 ∧ 1 < w.length
    · have HE := Kp.mk (HBad.out (by rw [numW, if_pos (by right; right; cases w with | nil => simp at ha | cons x t => simp at ha; subst ha; exact ⟨h48.1, h48.2⟩)]))
      obtain ⟨h48, hl1⟩ := h48
      subst h48
      clear HBad HOk
      go_enter Tryd.func38, Tryd.ntmps38
      go_wp2_with (go_at_call 36; refine (next36 _ H0.out).mono ?_; rintro e W' ⟨rfl, hL, hg⟩; have HL' := Kp.mk hL; have HG := Kp.mk hg; clear hL hg; rw [← HW.out]; obtain ⟨A, cap, c0, c1, c2, c3⟩ := HL'.out.fine)
      all_goals go_ret
      all_goals exact ⟨by rw [HE.out]; rfl, by rw [HE.out]; exact HL'.out.setFine false, HG.out.trans (setCell_grown _ _ _ _)⟩
    · have HV := Kp.mk (show numW w = digV w 0 by
        rw [numW, if_neg]
        rintro (h | h | h)
        · exact hlen (.inl h)
        · exact hlen (.inr h)
        · refine h48 ⟨?_, h.2⟩
          cases w with | nil => simp at ha | cons x t => simp at ha; subst ha; exact h.1)
      have hn48 : (a.toNat : Int) ≠ 48 ∨ w.length = 1 := by
        by_cases h : a = 48
        · right
          have : ¬ 1 < w.length := fun c => h48 ⟨h, c⟩
          omega
        · left
          intro e
          apply h
          apply UInt8.toNat_inj.1
          have : a.toNat = 48 := by omega
          rw [this]
          rfl
      clear h48
      go_enter Tryd.func38, Tryd.ntmps38
      go_wp2_with (go_at_call 36; refine (next36 _ H0.out).mono ?_; rintro e W' ⟨rfl, hL, hg⟩; have HL' := Kp.mk hL; have HG := Kp.mk hg; clear hL hg; rw [← HW.out]; obtain ⟨A, cap, c0, c1, c2, c3⟩ := HL'.out.fine)
      all_goals clear hx0 hn48
      all_goals
        go_loop [4, 31] (fun n x => ∃ (i : Nat) (m : Int), i ≤ w.length ∧ x = .int .i64 i ∧ n = .int .i64 m ∧ 0 ≤ m ∧ m ≤ 10 ^ i - 1 ∧ Kp (numW w = digV (w.drop i) m)) (fun n x => w.length - (intOf x).toNat)
        case atStart => exact ⟨0, 0, by omega, rfl, rfl, by omega, by omega, HV⟩
        case round =>
          clear HV
          obtain ⟨i, m, hil, rfl, rfl, m0, m1, HV⟩ := hrel
          by_cases hi : i < w.length
          · obtain ⟨b, hb⟩ : ∃ b, w[i]? = some b := ⟨w[i], by simp [hi]⟩
            have hx := index_at w hb
            have hst := digV_step hb m
            have hp := pow10 (show i < 3 by omega)
            by_cases hd : b.toNat < 48 ∨ 57 < b.toNat
            · have HE := Kp.mk (HBad.out (by rw [HV.out, hst, if_pos hd]))
              have hd' : (b.toNat : Int) < 48 ∨ 57 < (b.toNat : Int) := by omega
              clear HBad HOk hst
              go_wp2
              all_goals go_ret
              all_goals exact ⟨by rw [HE.out]; rfl, by rw [HE.out]; exact HL'.out.setFine false, HG.out.trans (setCell_grown _ _ _ _)⟩
            · have HV' := Kp.mk (show numW w = digV (w.drop (i + 1)) (10 * m + ((b.toNat : Int) - 48)) by rw [HV.out, hst, if_neg hd])
              have hd1 : 48 ≤ (b.toNat : Int) := by omega
              have hd2 : (b.toNat : Int) ≤ 57 := by omega
              clear hst hd
              go_wp2
              all_goals exact ⟨⟨i + 1, 10 * m + ((b.toNat : Int) - 48), by omega, by congr 1, rfl, by omega, by rw [hp.1]; omega, HV'⟩, by simp only [intOf]; omega⟩
          · have HE := Kp.mk (HOk.out m (by rw [HV.out, List.drop_of_length_le (by omega)]; rfl))
            go_wp2
            go_ret
            exact ⟨by rw [HE.out]; rfl, by rw [HE.out]; exact HL'.out, HG.out⟩
end Go.Proofs.YtiomnlgnhdhffaaDoor
