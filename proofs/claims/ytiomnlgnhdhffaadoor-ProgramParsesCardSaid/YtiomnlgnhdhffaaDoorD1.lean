/-
  The program's check and the reference's agree at every instruction and every program. Conditions: none.
-/
import Derived.Test.YtiomnlgnhdhffaaDoorC4
namespace Go.Proofs.YtiomnlgnhdhffaaDoor
set_option linter.unusedVariables false
set_option linter.unusedSimpArgs false

theorem scan_bad (n l h : Int) (f lo hi : List Int) (e : Int) (c : n < l ∨ h < n) (z : h = 0) : scan (n :: f) (l :: lo) (h :: hi) e = none := by simp only [scan, if_pos c, if_pos z]
theorem scan_out (n l h : Int) (f lo hi : List Int) (e : Int) (c : n < l ∨ h < n) (z : ¬ h = 0) : scan (n :: f) (l :: lo) (h :: hi) e = scan f lo hi 2 := by simp only [scan, if_pos c, if_neg z]
theorem scan_in (n l h : Int) (f lo hi : List Int) (e : Int) (c : ¬ (n < l ∨ h < n)) : scan (n :: f) (l :: lo) (h :: hi) e = scan f lo hi e := by simp only [scan, if_neg c]
theorem scan_nil (lo hi : List Int) (e : Int) : scan [] lo hi e = some e := by simp [scan]
/-- One field that is not used. -/
theorem scan_zero (n : Int) (f lo hi : List Int) (e : Int) : scan (n :: f) (0 :: lo) (0 :: hi) e = if n = 0 then scan f lo hi e else none := by
  by_cases h : n = 0
  · rw [if_pos h, scan_in _ _ _ _ _ _ _ (by omega)]
  · rw [if_neg h, scan_bad _ _ _ _ _ _ _ (by omega) rfl]
/-- One field that is used. -/
theorem scan_used (n l h : Int) (f lo hi : List Int) (e : Int) (z : ¬ h = 0) : scan (n :: f) (l :: lo) (h :: hi) e = scan f lo hi (if inR n l h then e else 2) := by
  by_cases c : n < l ∨ h < n
  · rw [scan_out _ _ _ _ _ _ _ c z, if_neg (by simp [inR]; omega)]
  · rw [scan_in _ _ _ _ _ _ _ c, if_pos (by simp [inR]; omega)]
theorem chk_1 (x1 x2 x3 x4 x5 x6 x7 : Int) : chkI ⟨1, x1, x2, x3, x4, x5, x6, x7⟩ = refI ⟨1, x1, x2, x3, x4, x5, x6, x7⟩ := by
  have e1 : chkI ⟨1, x1, x2, x3, x4, x5, x6, x7⟩ = ckA [x1, x2, x3, x4, x5, x6, x7] [-1, 1, 0, 0, -1, 0, 0] [511, 512, 15, 0, 3, 3, 15] (ckT 3 1 x3 x5 x6) := rfl
  have e2 : refI ⟨1, x1, x2, x3, x4, x5, x6, x7⟩ = if (⟨1, x1, x2, x3, 0, x5, x6, x7⟩ : Ins) ≠ ⟨1, x1, x2, x3, x4, x5, x6, x7⟩ then 1 else if !(inR x1 (-1) 511 && (inR x2 1 512 && ((x6 == 1 || x6 == 3) && (inR x7 0 15 && (inR x5 (-1) 3 && (inR x3 0 15 && (decide (0 ≤ x5) || x3 == 0))))))) then 2 else 0 := rfl
  rw [e1, e2, ckA, scan_used _ _ _ _ _ _ _ (by decide), scan_used _ _ _ _ _ _ _ (by decide), scan_used _ _ _ _ _ _ _ (by decide), scan_zero, scan_used _ _ _ _ _ _ _ (by decide), scan_used _ _ _ _ _ _ _ (by decide), scan_used _ _ _ _ _ _ _ (by decide), scan_nil]
  simp only [ckT, Ins.mk.injEq]
  clear e1 e2
  by_cases h4 : x4 = 0
  rotate_left 1
  · simp [h4, eq_comm]
  simp only [h4, ↓reduceIte, ne_eq, not_true_eq_false]
  have hne : (x3 != 0) = !(x3 == 0) := rfl
  have hf : inR x5 (-1) 3 = true → (decide (0 ≤ x5)) = !(x5 == -1) := by intro h; simp [inR] at h; rw [Bool.eq_iff_iff]; simp; omega
  have hp : (x6 == 1 || x6 == 3) = true → inR x6 0 3 = true := by intro h; simp at h; simp [inR]; omega
  rcases Bool.eq_false_or_eq_true (inR x5 (-1) 3) with hB5 | hB5
  · have hf' := hf hB5
    rcases Bool.eq_false_or_eq_true (x6 == 1 || x6 == 3) with hP | hP
    · have hB6 := hp hP
      rcases Bool.eq_false_or_eq_true (x5 == -1) with hE5 | hE5 <;> rcases Bool.eq_false_or_eq_true (x3 == 0) with hE3 | hE3 <;> rw [hE5] at hf' <;> clear hf hp <;> simp only [hne, hB5, hP, hB6, hE5, hE3, hf', beq_self_eq_true, Bool.not_true, Bool.not_false, Bool.and_true, Bool.true_and, Bool.and_false, Bool.false_and, Bool.or_true, Bool.or_false, Bool.false_or, Bool.true_or, Bool.false_eq_true, ↓reduceIte] <;>
      cases inR x1 (-1) 511 <;> cases inR x2 1 512 <;> cases inR x3 0 15 <;> cases inR x7 0 15 <;> rfl
    · clear hf hp
      simp only [hB5, hP, beq_self_eq_true, Bool.not_true, Bool.not_false, Bool.and_true, Bool.true_and, Bool.and_false, Bool.false_and, Bool.or_true, Bool.or_false, Bool.false_or, Bool.true_or, Bool.false_eq_true, ↓reduceIte]
  · clear hf hp
    simp only [hB5, Bool.not_true, Bool.not_false, Bool.and_true, Bool.true_and, Bool.and_false, Bool.false_and, Bool.or_true, Bool.or_false, Bool.false_or, Bool.true_or, Bool.false_eq_true, ↓reduceIte]
    (repeat' split) <;> rfl
theorem chk_2 (x1 x2 x3 x4 x5 x6 x7 : Int) : chkI ⟨2, x1, x2, x3, x4, x5, x6, x7⟩ = refI ⟨2, x1, x2, x3, x4, x5, x6, x7⟩ := by
  have e1 : chkI ⟨2, x1, x2, x3, x4, x5, x6, x7⟩ = ckA [x1, x2, x3, x4, x5, x6, x7] [0, 1, 0, 0, 0, 0, 0] [511, 512, 0, 0, 0, 0, 0] (ckT 0 2 x3 x5 x6) := rfl
  have e2 : refI ⟨2, x1, x2, x3, x4, x5, x6, x7⟩ = if (⟨2, x1, x2, 0, 0, 0, 0, 0⟩ : Ins) ≠ ⟨2, x1, x2, x3, x4, x5, x6, x7⟩ then 1 else if !(inR x1 0 511 && inR x2 1 512) then 2 else 0 := rfl
  rw [e1, e2, ckA, scan_used _ _ _ _ _ _ _ (by decide), scan_used _ _ _ _ _ _ _ (by decide), scan_zero, scan_zero, scan_zero, scan_zero, scan_zero, scan_nil]
  simp only [ckT, Ins.mk.injEq]
  by_cases h3 : x3 = 0 <;> by_cases h4 : x4 = 0 <;> by_cases h5 : x5 = 0 <;> by_cases h6 : x6 = 0 <;> by_cases h7 : x7 = 0 <;> cases b1 : inR x1 0 511 <;> cases b2 : inR x2 1 512 <;> simp [h3, h4, h5, h6, h7, b1, b2, eq_comm]
theorem chk_3 (x1 x2 x3 x4 x5 x6 x7 : Int) : chkI ⟨3, x1, x2, x3, x4, x5, x6, x7⟩ = refI ⟨3, x1, x2, x3, x4, x5, x6, x7⟩ := by
  have e1 : chkI ⟨3, x1, x2, x3, x4, x5, x6, x7⟩ = ckA [x1, x2, x3, x4, x5, x6, x7] [0, 1, 0, 0, 0, 0, 0] [511, 512, 0, 0, 0, 3, 0] (ckT 3 3 x3 x5 x6) := rfl
  have e2 : refI ⟨3, x1, x2, x3, x4, x5, x6, x7⟩ = if (⟨3, x1, x2, 0, 0, 0, x6, 0⟩ : Ins) ≠ ⟨3, x1, x2, x3, x4, x5, x6, x7⟩ then 1 else if !(inR x1 0 511 && (inR x2 1 512 && (x6 == 1 || x6 == 3))) then 2 else 0 := rfl
  rw [e1, e2, ckA, scan_used _ _ _ _ _ _ _ (by decide), scan_used _ _ _ _ _ _ _ (by decide), scan_zero, scan_zero, scan_zero, scan_used _ _ _ _ _ _ _ (by decide), scan_zero, scan_nil]
  simp only [ckT, Ins.mk.injEq]
  clear e1 e2
  by_cases h3 : x3 = 0
  rotate_left 1
  · by_cases h4 : x4 = 0 <;> by_cases h5 : x5 = 0 <;> by_cases h7 : x7 = 0 <;> simp only [h3, h4, h5, h7, ↓reduceIte, ne_eq] <;> simp [Ne.symm h3]
  by_cases h4 : x4 = 0
  rotate_left 1
  · by_cases h5 : x5 = 0 <;> by_cases h7 : x7 = 0 <;> simp only [h3, h4, h5, h7, ↓reduceIte, ne_eq] <;> simp [Ne.symm h4]
  by_cases h5 : x5 = 0
  rotate_left 1
  · by_cases h7 : x7 = 0 <;> simp only [h3, h4, h5, h7, ↓reduceIte, ne_eq] <;> simp [Ne.symm h5]
  by_cases h7 : x7 = 0
  rotate_left 1
  · simp only [h3, h4, h5, h7, ↓reduceIte, ne_eq]; simp [Ne.symm h7]
  simp only [h3, h4, h5, h7, ↓reduceIte, ne_eq, not_true_eq_false]
  have hp : (x6 == 1 || x6 == 3) = true → inR x6 0 3 = true := by intro h; simp at h; simp [inR]; omega
  have h31 : ((3 : Int) == 1) = false := rfl
  rcases Bool.eq_false_or_eq_true (x6 == 1 || x6 == 3) with hP | hP
  · have hB6 := hp hP
    clear hp
    simp only [hP, hB6, h31, beq_self_eq_true, Bool.not_true, Bool.not_false, Bool.and_true, Bool.true_and, Bool.and_false, Bool.false_and, Bool.or_true, Bool.or_false, Bool.false_or, Bool.true_or, Bool.false_eq_true, ↓reduceIte]
    cases inR x1 0 511 <;> cases inR x2 1 512 <;> rfl
  · clear hp
    simp only [hP, beq_self_eq_true, Bool.not_true, Bool.not_false, Bool.and_true, Bool.true_and, Bool.and_false, Bool.false_and, Bool.or_true, Bool.or_false, Bool.false_or, Bool.true_or, Bool.false_eq_true, ↓reduceIte]
theorem chk_4 (x1 x2 x3 x4 x5 x6 x7 : Int) : chkI ⟨4, x1, x2, x3, x4, x5, x6, x7⟩ = refI ⟨4, x1, x2, x3, x4, x5, x6, x7⟩ := by
  have e1 : chkI ⟨4, x1, x2, x3, x4, x5, x6, x7⟩ = ckA [x1, x2, x3, x4, x5, x6, x7] [0, 1, 0, 0, 0, 0, 0] [511, 512, 0, 1, 0, 0, 0] (ckT 0 4 x3 x5 x6) := rfl
  have e2 : refI ⟨4, x1, x2, x3, x4, x5, x6, x7⟩ = if (⟨4, x1, x2, 0, x4, 0, 0, 0⟩ : Ins) ≠ ⟨4, x1, x2, x3, x4, x5, x6, x7⟩ then 1 else if !(inR x1 0 511 && (inR x2 1 512 && inR x4 0 1)) then 2 else 0 := rfl
  rw [e1, e2, ckA, scan_used _ _ _ _ _ _ _ (by decide), scan_used _ _ _ _ _ _ _ (by decide), scan_zero, scan_used _ _ _ _ _ _ _ (by decide), scan_zero, scan_zero, scan_zero, scan_nil]
  simp only [ckT, Ins.mk.injEq]
  by_cases h3 : x3 = 0 <;> by_cases h5 : x5 = 0 <;> by_cases h6 : x6 = 0 <;> by_cases h7 : x7 = 0 <;> cases b1 : inR x1 0 511 <;> cases b2 : inR x2 1 512 <;> cases b4 : inR x4 0 1 <;> simp [h3, h5, h6, h7, b1, b2, b4, eq_comm]
theorem chk_5 (x1 x2 x3 x4 x5 x6 x7 : Int) : chkI ⟨5, x1, x2, x3, x4, x5, x6, x7⟩ = refI ⟨5, x1, x2, x3, x4, x5, x6, x7⟩ := by
  have e1 : chkI ⟨5, x1, x2, x3, x4, x5, x6, x7⟩ = ckA [x1, x2, x3, x4, x5, x6, x7] [0, 0, 0, 0, 0, 0, 0] [511, 0, 31, 0, 0, 0, 0] (ckT 0 5 x3 x5 x6) := rfl
  have e2 : refI ⟨5, x1, x2, x3, x4, x5, x6, x7⟩ = if (⟨5, x1, 0, x3, 0, 0, 0, 0⟩ : Ins) ≠ ⟨5, x1, x2, x3, x4, x5, x6, x7⟩ then 1 else if !(inR x1 0 511 && inR x3 0 31) then 2 else 0 := rfl
  rw [e1, e2, ckA, scan_used _ _ _ _ _ _ _ (by decide), scan_zero, scan_used _ _ _ _ _ _ _ (by decide), scan_zero, scan_zero, scan_zero, scan_zero, scan_nil]
  simp only [ckT, Ins.mk.injEq]
  by_cases h2 : x2 = 0 <;> by_cases h4 : x4 = 0 <;> by_cases h5 : x5 = 0 <;> by_cases h6 : x6 = 0 <;> by_cases h7 : x7 = 0 <;> cases b1 : inR x1 0 511 <;> cases b3 : inR x3 0 31 <;> simp [h2, h4, h5, h6, h7, b1, b3, eq_comm]
theorem chk_6 (x1 x2 x3 x4 x5 x6 x7 : Int) : chkI ⟨6, x1, x2, x3, x4, x5, x6, x7⟩ = refI ⟨6, x1, x2, x3, x4, x5, x6, x7⟩ := by
  have e1 : chkI ⟨6, x1, x2, x3, x4, x5, x6, x7⟩ = ckA [x1, x2, x3, x4, x5, x6, x7] [0, 0, 0, 0, 0, 0, 0] [511, 0, 31, 255, 0, 0, 0] (ckT 0 6 x3 x5 x6) := rfl
  have e2 : refI ⟨6, x1, x2, x3, x4, x5, x6, x7⟩ = if (⟨6, x1, 0, x3, x4, 0, 0, 0⟩ : Ins) ≠ ⟨6, x1, x2, x3, x4, x5, x6, x7⟩ then 1 else if !(inR x1 0 511 && (inR x3 0 31 && inR x4 0 255)) then 2 else 0 := rfl
  rw [e1, e2, ckA, scan_used _ _ _ _ _ _ _ (by decide), scan_zero, scan_used _ _ _ _ _ _ _ (by decide), scan_used _ _ _ _ _ _ _ (by decide), scan_zero, scan_zero, scan_zero, scan_nil]
  simp only [ckT, Ins.mk.injEq]
  by_cases h2 : x2 = 0 <;> by_cases h5 : x5 = 0 <;> by_cases h6 : x6 = 0 <;> by_cases h7 : x7 = 0 <;> cases b1 : inR x1 0 511 <;> cases b3 : inR x3 0 31 <;> cases b4 : inR x4 0 255 <;> simp [h2, h5, h6, h7, b1, b3, b4, eq_comm]
theorem chk_7 (x1 x2 x3 x4 x5 x6 x7 : Int) : chkI ⟨7, x1, x2, x3, x4, x5, x6, x7⟩ = refI ⟨7, x1, x2, x3, x4, x5, x6, x7⟩ := by
  have e1 : chkI ⟨7, x1, x2, x3, x4, x5, x6, x7⟩ = ckA [x1, x2, x3, x4, x5, x6, x7] [0, 0, 0, 0, 0, 0, 0] [15, 0, 31, 0, 3, 0, 0] (ckT 0 7 x3 x5 x6) := rfl
  have e2 : refI ⟨7, x1, x2, x3, x4, x5, x6, x7⟩ = if (⟨7, x1, 0, x3, 0, x5, 0, 0⟩ : Ins) ≠ ⟨7, x1, x2, x3, x4, x5, x6, x7⟩ then 1 else if !(inR x5 0 3 && (inR x1 0 15 && inR x3 0 31)) then 2 else 0 := rfl
  rw [e1, e2, ckA, scan_used _ _ _ _ _ _ _ (by decide), scan_zero, scan_used _ _ _ _ _ _ _ (by decide), scan_zero, scan_used _ _ _ _ _ _ _ (by decide), scan_zero, scan_zero, scan_nil]
  simp only [ckT, Ins.mk.injEq]
  by_cases h2 : x2 = 0 <;> by_cases h4 : x4 = 0 <;> by_cases h6 : x6 = 0 <;> by_cases h7 : x7 = 0 <;> cases b1 : inR x1 0 15 <;> cases b3 : inR x3 0 31 <;> cases b5 : inR x5 0 3 <;> simp [h2, h4, h6, h7, b1, b3, b5, eq_comm]
theorem chk_8 (x1 x2 x3 x4 x5 x6 x7 : Int) : chkI ⟨8, x1, x2, x3, x4, x5, x6, x7⟩ = refI ⟨8, x1, x2, x3, x4, x5, x6, x7⟩ := by
  have e1 : chkI ⟨8, x1, x2, x3, x4, x5, x6, x7⟩ = ckA [x1, x2, x3, x4, x5, x6, x7] [0, 0, 0, 0, 0, 0, 0] [15, 0, 31, 255, 3, 0, 0] (ckT 0 8 x3 x5 x6) := rfl
  have e2 : refI ⟨8, x1, x2, x3, x4, x5, x6, x7⟩ = if (⟨8, x1, 0, x3, x4, x5, 0, 0⟩ : Ins) ≠ ⟨8, x1, x2, x3, x4, x5, x6, x7⟩ then 1 else if !((inR x5 0 3 && (inR x1 0 15 && inR x3 0 31)) && inR x4 0 255) then 2 else 0 := rfl
  rw [e1, e2, ckA, scan_used _ _ _ _ _ _ _ (by decide), scan_zero, scan_used _ _ _ _ _ _ _ (by decide), scan_used _ _ _ _ _ _ _ (by decide), scan_used _ _ _ _ _ _ _ (by decide), scan_zero, scan_zero, scan_nil]
  simp only [ckT, Ins.mk.injEq]
  by_cases h2 : x2 = 0 <;> by_cases h6 : x6 = 0 <;> by_cases h7 : x7 = 0 <;> cases b1 : inR x1 0 15 <;> cases b3 : inR x3 0 31 <;> cases b4 : inR x4 0 255 <;> cases b5 : inR x5 0 3 <;> simp [h2, h6, h7, b1, b3, b4, b5, eq_comm]
theorem chk_9 (x1 x2 x3 x4 x5 x6 x7 : Int) : chkI ⟨9, x1, x2, x3, x4, x5, x6, x7⟩ = refI ⟨9, x1, x2, x3, x4, x5, x6, x7⟩ := by
  have e1 : chkI ⟨9, x1, x2, x3, x4, x5, x6, x7⟩ = ckA [x1, x2, x3, x4, x5, x6, x7] [0, 0, 0, 0, 0, 0, 0] [0, 16, 0, 0, 3, 0, 0] (ckT 0 9 x3 x5 x6) := rfl
  have e2 : refI ⟨9, x1, x2, x3, x4, x5, x6, x7⟩ = if (⟨9, 0, x2, 0, 0, x5, 0, 0⟩ : Ins) ≠ ⟨9, x1, x2, x3, x4, x5, x6, x7⟩ then 1 else if !(inR x5 0 3 && inR x2 0 16) then 2 else 0 := rfl
  rw [e1, e2, ckA, scan_zero, scan_used _ _ _ _ _ _ _ (by decide), scan_zero, scan_zero, scan_used _ _ _ _ _ _ _ (by decide), scan_zero, scan_zero, scan_nil]
  simp only [ckT, Ins.mk.injEq]
  by_cases h1 : x1 = 0 <;> by_cases h3 : x3 = 0 <;> by_cases h4 : x4 = 0 <;> by_cases h6 : x6 = 0 <;> by_cases h7 : x7 = 0 <;> cases b2 : inR x2 0 16 <;> cases b5 : inR x5 0 3 <;> simp [h1, h3, h4, h6, h7, b2, b5, eq_comm]
theorem chk_10 (x1 x2 x3 x4 x5 x6 x7 : Int) : chkI ⟨10, x1, x2, x3, x4, x5, x6, x7⟩ = refI ⟨10, x1, x2, x3, x4, x5, x6, x7⟩ := by
  have e1 : chkI ⟨10, x1, x2, x3, x4, x5, x6, x7⟩ = ckA [x1, x2, x3, x4, x5, x6, x7] [0, 0, 0, 0, 0, 0, 0] [0, 0, 0, 0, 3, 0, 0] (ckT 0 10 x3 x5 x6) := rfl
  have e2 : refI ⟨10, x1, x2, x3, x4, x5, x6, x7⟩ = if (⟨10, 0, 0, 0, 0, x5, 0, 0⟩ : Ins) ≠ ⟨10, x1, x2, x3, x4, x5, x6, x7⟩ then 1 else if !(inR x5 0 3) then 2 else 0 := rfl
  rw [e1, e2, ckA, scan_zero, scan_zero, scan_zero, scan_zero, scan_used _ _ _ _ _ _ _ (by decide), scan_zero, scan_zero, scan_nil]
  simp only [ckT, Ins.mk.injEq]
  by_cases h1 : x1 = 0 <;> by_cases h2 : x2 = 0 <;> by_cases h3 : x3 = 0 <;> by_cases h4 : x4 = 0 <;> by_cases h6 : x6 = 0 <;> by_cases h7 : x7 = 0 <;> cases b5 : inR x5 0 3 <;> simp [h1, h2, h3, h4, h6, h7, b5, eq_comm]
theorem chk_11 (x1 x2 x3 x4 x5 x6 x7 : Int) : chkI ⟨11, x1, x2, x3, x4, x5, x6, x7⟩ = refI ⟨11, x1, x2, x3, x4, x5, x6, x7⟩ := by
  have e1 : chkI ⟨11, x1, x2, x3, x4, x5, x6, x7⟩ = ckA [x1, x2, x3, x4, x5, x6, x7] [0, 0, 0, 0, 0, 0, 0] [0, 0, 0, 48, 0, 0, 0] (ckT 0 11 x3 x5 x6) := rfl
  have e2 : refI ⟨11, x1, x2, x3, x4, x5, x6, x7⟩ = if (⟨11, 0, 0, 0, x4, 0, 0, 0⟩ : Ins) ≠ ⟨11, x1, x2, x3, x4, x5, x6, x7⟩ then 1 else if !(inR x4 0 48) then 2 else 0 := rfl
  rw [e1, e2, ckA, scan_zero, scan_zero, scan_zero, scan_used _ _ _ _ _ _ _ (by decide), scan_zero, scan_zero, scan_zero, scan_nil]
  simp only [ckT, Ins.mk.injEq]
  by_cases h1 : x1 = 0 <;> by_cases h2 : x2 = 0 <;> by_cases h3 : x3 = 0 <;> by_cases h5 : x5 = 0 <;> by_cases h6 : x6 = 0 <;> by_cases h7 : x7 = 0 <;> cases b4 : inR x4 0 48 <;> simp [h1, h2, h3, h5, h6, h7, b4, eq_comm]
theorem chk_12 (x1 x2 x3 x4 x5 x6 x7 : Int) : chkI ⟨12, x1, x2, x3, x4, x5, x6, x7⟩ = refI ⟨12, x1, x2, x3, x4, x5, x6, x7⟩ := by
  have e1 : chkI ⟨12, x1, x2, x3, x4, x5, x6, x7⟩ = ckA [x1, x2, x3, x4, x5, x6, x7] [0, 0, 0, 0, 0, 0, 0] [0, 0, 0, 0, 0, 0, 0] (ckT 0 12 x3 x5 x6) := rfl
  have e2 : refI ⟨12, x1, x2, x3, x4, x5, x6, x7⟩ = if (⟨12, 0, 0, 0, 0, 0, 0, 0⟩ : Ins) ≠ ⟨12, x1, x2, x3, x4, x5, x6, x7⟩ then 1 else if !(true) then 2 else 0 := rfl
  rw [e1, e2, ckA, scan_zero, scan_zero, scan_zero, scan_zero, scan_zero, scan_zero, scan_zero, scan_nil]
  simp only [ckT, Ins.mk.injEq]
  by_cases h1 : x1 = 0 <;> by_cases h2 : x2 = 0 <;> by_cases h3 : x3 = 0 <;> by_cases h4 : x4 = 0 <;> by_cases h5 : x5 = 0 <;> by_cases h6 : x6 = 0 <;> by_cases h7 : x7 = 0 <;> simp [h1, h2, h3, h4, h5, h6, h7, eq_comm]
theorem chk_ref (x : Ins) : chkI x = refI x := by
  obtain ⟨x0, x1, x2, x3, x4, x5, x6, x7⟩ := x
  by_cases h : 1 ≤ x0 ∧ x0 ≤ 12
  · have h : x0 = 1 ∨ x0 = 2 ∨ x0 = 3 ∨ x0 = 4 ∨ x0 = 5 ∨ x0 = 6 ∨ x0 = 7 ∨ x0 = 8 ∨ x0 = 9 ∨ x0 = 10 ∨ x0 = 11 ∨ x0 = 12 := by omega
    rcases h with rfl | rfl | rfl | rfl | rfl | rfl | rfl | rfl | rfl | rfl | rfl | rfl
    · exact chk_1 x1 x2 x3 x4 x5 x6 x7
    · exact chk_2 x1 x2 x3 x4 x5 x6 x7
    · exact chk_3 x1 x2 x3 x4 x5 x6 x7
    · exact chk_4 x1 x2 x3 x4 x5 x6 x7
    · exact chk_5 x1 x2 x3 x4 x5 x6 x7
    · exact chk_6 x1 x2 x3 x4 x5 x6 x7
    · exact chk_7 x1 x2 x3 x4 x5 x6 x7
    · exact chk_8 x1 x2 x3 x4 x5 x6 x7
    · exact chk_9 x1 x2 x3 x4 x5 x6 x7
    · exact chk_10 x1 x2 x3 x4 x5 x6 x7
    · exact chk_11 x1 x2 x3 x4 x5 x6 x7
    · exact chk_12 x1 x2 x3 x4 x5 x6 x7
  · have h1 : opOk x0 = false := by simp [opOk]; omega
    have h2 : inR x0 1 12 = false := by simp [inR]; omega
    simp [chkI, refI, h1, h2]
theorem chkL_ref : ∀ xs : List Ins, chkL xs = refL xs
  | [] => rfl
  | x :: r => by simp only [chkL, refL, chk_ref, chkL_ref r]
theorem chkP_ref (xs : List Ins) : chkP xs = refP xs := by simp only [chkP, refP, chkL_ref]
end Go.Proofs.YtiomnlgnhdhffaaDoor
