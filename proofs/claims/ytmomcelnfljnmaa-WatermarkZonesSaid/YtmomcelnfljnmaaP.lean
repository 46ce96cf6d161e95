/-
  The plain law of zones: what the two Checks of a zone answer, and that they answer alike. Conditions: none but what each theorem names.
-/
import Derived.Test.YtmomcelnfljnmaaD
import Derived.Handy
namespace Go.Proofs.Ytmomcelnfljnmaa
open Go.RowKit
set_option linter.unusedVariables false

structure Zn where
  nd : Int
  kd : Int
  st : Int
  ct : Int
  mn : Int
  l : Nat → List Int
structure Pl where
  A : Nat → Option Addr
  c : Nat → Nat
def slV (z : Zn) (P : Pl) (k : Nat) : Value := .slice (P.A k) (z.l k).length (P.c k)
def cellsZ (z : Zn) (P : Pl) : Array Value := #[.int .i64 z.nd, .int .i64 z.kd, .int .i64 z.st, .int .i64 z.ct, .int .i64 z.mn, slV z P 0, slV z P 1, slV z P 2, slV z P 3, slV z P 4]
def ZV (z : Zn) (P : Pl) : Value := .agg (cellsZ z P)
def rngZ (z : Zn) : Bool := decide (0 ≤ z.nd) && decide (z.nd < 4) && (decide (z.kd = 0) || decide (z.kd = 1)) && decide (0 ≤ z.st) && decide (z.st < 256) && decide (1 ≤ z.ct) && decide (z.ct ≤ 256 - z.st) && decide (0 ≤ z.mn) && decide (z.mn ≤ z.ct)
def insZ (z : Zn) (f : Int) (k : Nat) : Bool := decide (z.st ≤ f) && decide (f % 2 ^ k = 0) && decide (f + 2 ^ k ≤ z.st + z.ct)
theorem rng_bd {z : Zn} (h : rngZ z = true) : 0 ≤ z.st ∧ z.st < 256 ∧ 1 ≤ z.ct ∧ z.ct ≤ 256 - z.st := by
  simp only [rngZ, Bool.and_eq_true, decide_eq_true_eq] at h
  omega

/-- The first error of the list of order k from its i-th element on. -/
def scL (z : Zn) (k i : Nat) : Int :=
  if i < (z.l k).length then (if insZ z (g5 (z.l k) i) k then (if 0 < i ∧ g5 (z.l k) i ≤ g5 (z.l k) (i - 1) then 10 else scL z k (i + 1)) else 3) else 0
termination_by (z.l k).length - i
/-- The first error of the lists from order k on. -/
def scZ (z : Zn) (k : Nat) : Int := if k < 5 then (if scL z k 0 = 0 then scZ z (k + 1) else scL z k 0) else 0
termination_by 5 - k

theorem scL_end {z : Zn} {k i : Nat} (h : (z.l k).length ≤ i) : scL z k i = 0 := by rw [scL, if_neg (by omega)]
theorem scL_out {z : Zn} {k i : Nat} (h : i < (z.l k).length) (h2 : insZ z (g5 (z.l k) i) k = false) : scL z k i = 3 := by rw [scL, if_pos h, h2]; rfl
theorem scL_ord {z : Zn} {k i : Nat} (h : i < (z.l k).length) (h2 : insZ z (g5 (z.l k) i) k = true) (h3 : 0 < i) (h4 : g5 (z.l k) i ≤ g5 (z.l k) (i - 1)) : scL z k i = 10 := by rw [scL, if_pos h, h2]; simp [h3, h4]
theorem scL_next {z : Zn} {k i : Nat} (h : i < (z.l k).length) (h2 : insZ z (g5 (z.l k) i) k = true) (h3 : 0 < i → g5 (z.l k) (i - 1) < g5 (z.l k) i) : scL z k i = scL z k (i + 1) := by
  rw [scL, if_pos h, h2]
  simp only [if_true]
  rw [if_neg]
  rintro ⟨a, b⟩
  have := h3 a
  omega
theorem scZ_end (z : Zn) : scZ z 5 = 0 := by rw [scZ, if_neg (by omega)]
theorem scZ_next {z : Zn} {k : Nat} (h : k < 5) (h2 : scL z k 0 = 0) : scZ z k = scZ z (k + 1) := by rw [scZ, if_pos h, if_pos h2]
theorem scZ_err {z : Zn} {k : Nat} (h : k < 5) (h2 : scL z k 0 ≠ 0) : scZ z k = scL z k 0 := by rw [scZ, if_pos h, if_neg h2]

/-- A list without an error: all inside, and rising. -/
def GoodL (z : Zn) (k : Nat) : Prop := ∀ i, i < (z.l k).length → insZ z (g5 (z.l k) i) k = true ∧ (0 < i → g5 (z.l k) (i - 1) < g5 (z.l k) i)
theorem scL_zero {z : Zn} {k : Nat} (i : Nat) (h : scL z k i = 0) : ∀ j, i ≤ j → j < (z.l k).length → insZ z (g5 (z.l k) j) k = true ∧ (0 < j → g5 (z.l k) (j - 1) < g5 (z.l k) j) := by
  intro j hij hj
  have hi : i < (z.l k).length := by omega
  cases h2 : insZ z (g5 (z.l k) i) k
  · rw [scL_out hi h2] at h; omega
  · by_cases h3 : 0 < i ∧ g5 (z.l k) i ≤ g5 (z.l k) (i - 1)
    · rw [scL_ord hi h2 h3.1 h3.2] at h; omega
    · have h4 : 0 < i → g5 (z.l k) (i - 1) < g5 (z.l k) i := by intro a; omega
      rw [scL_next hi h2 h4] at h
      by_cases e : i = j
      · subst e; exact ⟨h2, h4⟩
      · exact scL_zero (i + 1) h j (by omega) hj
termination_by (z.l k).length - i
theorem scZ_zero {z : Zn} (k : Nat) (h : scZ z k = 0) : ∀ j, k ≤ j → j < 5 → GoodL z j := by
  intro j hkj hj
  have hk : k < 5 := by omega
  by_cases h2 : scL z k 0 = 0
  · rw [scZ_next hk h2] at h
    by_cases e : k = j
    · subst e
      intro i hi
      exact scL_zero 0 h2 i (Nat.zero_le _) hi
    · exact scZ_zero (k + 1) h j (by omega) hj
  · rw [scZ_err hk h2] at h; exact absurd h h2
termination_by 5 - k

/-- The frames of the blocks, in the order of the lists. -/
def blkF (e : Int) (n : Nat) : List Int := (List.range n).map fun (j : Nat) => e + (j : Int)
def lisF (k : Nat) (l : List Int) : List Int := l.flatMap fun e => blkF e (2 ^ k)
def pK (z : Zn) (k : Nat) : List Int := (List.range k).flatMap fun k => lisF k (z.l k)
def pI (z : Zn) (k i : Nat) : List Int := pK z k ++ lisF k ((z.l k).take i)
def pJ (z : Zn) (k i j : Nat) : List Int := pI z k i ++ blkF (g5 (z.l k) i) j
theorem pK_zero (z : Zn) : pK z 0 = [] := rfl
theorem pI_zero (z : Zn) (k : Nat) : pI z k 0 = pK z k := by simp [pI, lisF]
theorem pJ_zero (z : Zn) (k i : Nat) : pJ z k i 0 = pI z k i := by simp [pJ, blkF]
theorem pJ_succ (z : Zn) (k i j : Nat) : pJ z k i (j + 1) = pJ z k i j ++ [g5 (z.l k) i + (j : Int)] := by simp [pJ, blkF, List.range_succ]
theorem take_g5 (l : List Int) {i : Nat} (h : i < l.length) : l.take (i + 1) = l.take i ++ [g5 l i] := by
  rw [List.take_add_one, List.getElem?_eq_getElem h]
  simp [g5, h]
theorem pJ_full (z : Zn) (k : Nat) {i : Nat} (h : i < (z.l k).length) : pJ z k i (2 ^ k) = pI z k (i + 1) := by
  simp [pJ, pI, lisF, take_g5 _ h]
theorem pI_full (z : Zn) (k : Nat) : pI z k (z.l k).length = pK z (k + 1) := by
  simp [pI, pK, List.range_succ]
theorem pI_full' (z : Zn) (k : Nat) {i : Nat} (h : (z.l k).length ≤ i) : pI z k i = pK z (k + 1) := by
  simp [pI, pK, List.range_succ, List.take_of_length_le h]
theorem pK_pre (z : Zn) {k m : Nat} (h : k ≤ m) : pK z k <+: pK z m := by
  obtain ⟨d, rfl⟩ := Nat.exists_eq_add_of_le h
  refine ⟨((List.range d).map (k + ·)).flatMap fun k => lisF k (z.l k), ?_⟩
  simp only [pK, List.range_add, List.flatMap_append]
theorem pI_pre (z : Zn) {k i : Nat} (hk : k < 5) : pI z k i <+: pK z 5 := by
  refine List.IsPrefix.trans ?_ (pK_pre z (show k + 1 ≤ 5 by omega))
  rw [← pI_full]
  refine ⟨lisF k ((z.l k).drop i), ?_⟩
  simp only [pI, lisF, List.append_assoc, List.take_length]
  rw [← List.flatMap_append, List.take_append_drop]
theorem blkF_pre (e : Int) {j n : Nat} (h : j ≤ n) : blkF e j <+: blkF e n := by
  obtain ⟨d, rfl⟩ := Nat.exists_eq_add_of_le h
  exact ⟨((List.range d).map (j + ·)).map fun (j : Nat) => e + (j : Int), by simp only [blkF, List.range_add, List.map_append]⟩
theorem pJ_pre (z : Zn) {k i j : Nat} (hk : k < 5) (hi : i < (z.l k).length) (hj : j ≤ 2 ^ k) : pJ z k i j <+: pK z 5 := by
  refine List.IsPrefix.trans ?_ (pI_pre z (i := i + 1) hk)
  rw [← pJ_full z k hi]
  exact (List.prefix_append_right_inj _).2 (blkF_pre _ hj)

/-- The first twin of the lists from order k on, as the reference looks. -/
def adjB (z : Zn) (k i : Nat) : Bool := (g5 (z.l k) i == g5 (z.l k) (i - 1) + 2 ^ k) && insZ z (g5 (z.l k) (i - 1)) (k + 1)
def xorI (f : Int) (k : Nat) : Int := if f / 2 ^ k % 2 = 0 then f + 2 ^ k else f - 2 ^ k
def twB (z : Zn) (k i : Nat) : Bool := decide (xorI (g5 (z.l k) i) k ∈ z.l k) && insZ z (min (g5 (z.l k) i) (xorI (g5 (z.l k) i) k)) (k + 1)
def adjP (z : Zn) : Prop := ∃ k i, k < 4 ∧ 0 < i ∧ i < (z.l k).length ∧ adjB z k i = true
def twP (z : Zn) : Prop := ∃ k i, k < 4 ∧ i < (z.l k).length ∧ twB z k i = true

theorem g5_mem {l : List Int} {x : Int} (h : x ∈ l) : ∃ i, i < l.length ∧ g5 l i = x := by
  obtain ⟨i, hi, e⟩ := List.getElem_of_mem h
  exact ⟨i, hi, by simp [g5, hi, e]⟩
theorem mem_g5 {l : List Int} {i : Nat} (h : i < l.length) : g5 l i ∈ l := by simp [g5, h]
theorem good_lt {z : Zn} {k : Nat} (h : GoodL z k) {i : Nat} : ∀ j, i < j → j < (z.l k).length → g5 (z.l k) i < g5 (z.l k) j := by
  intro j
  induction j with
  | zero => omega
  | succ j ih =>
    intro hij hj
    have := (h (j + 1) hj).2 (by omega)
    simp only [Nat.add_sub_cancel] at this
    by_cases e : i = j
    · subst e; exact this
    · have := ih (by omega) (by omega); omega
theorem ins_mod {z : Zn} {f : Int} {k : Nat} (h : insZ z f k = true) : z.st ≤ f ∧ f % 2 ^ k = 0 ∧ f + 2 ^ k ≤ z.st + z.ct := by
  simpa [insZ, Bool.and_eq_true, and_assoc] using h
theorem mod_down {k : Nat} {f : Int} (hk : k < 4) (h : f % 2 ^ (k + 1) = 0) : f % 2 ^ k = 0 ∧ f / 2 ^ k % 2 = 0 := by
  have : k = 0 ∨ k = 1 ∨ k = 2 ∨ k = 3 := by omega
  rcases this with rfl | rfl | rfl | rfl <;> simp only [Int.reducePow, Nat.reduceAdd] at * <;> omega
theorem xor_min {k : Nat} {f : Int} (hk : k < 4) : xorI (min f (xorI f k)) k = max f (xorI f k) ∨ (f % 2 ^ k ≠ 0) := by
  have : k = 0 ∨ k = 1 ∨ k = 2 ∨ k = 3 := by omega
  rcases this with rfl | rfl | rfl | rfl <;> simp only [xorI, Int.reducePow] at * <;> (repeat' split) <;> omega
theorem twin_iff {z : Zn} (hg : ∀ k, k < 5 → GoodL z k) : twP z ↔ adjP z := by
  constructor
  · rintro ⟨k, i, hk, hi, hb⟩
    have G := hg k (by omega)
    simp only [twB, Bool.and_eq_true, decide_eq_true_eq] at hb
    obtain ⟨hm, hin⟩ := hb
    obtain ⟨i2, hi2, e2⟩ := g5_mem hm
    -- the lower and the upper of the two
    have key : ∃ a b, a < (z.l k).length ∧ b < (z.l k).length ∧ g5 (z.l k) b = g5 (z.l k) a + 2 ^ k ∧ insZ z (g5 (z.l k) a) (k + 1) = true := by
      have hm1 := (ins_mod hin).2.1
      obtain ⟨hm2, hm3⟩ := mod_down hk hm1
      by_cases c : g5 (z.l k) i / 2 ^ k % 2 = 0
      · have ex : xorI (g5 (z.l k) i) k = g5 (z.l k) i + 2 ^ k := by simp [xorI, c]
        have hp : (0 : Int) < 2 ^ k := Int.pow_pos (by omega)
        refine ⟨i, i2, hi, hi2, by rw [e2, ex], ?_⟩
        rw [ex, Int.min_eq_left (by omega)] at hin
        exact hin
      · have ex : xorI (g5 (z.l k) i) k = g5 (z.l k) i - 2 ^ k := by simp [xorI, c]
        have hp : (0 : Int) < 2 ^ k := Int.pow_pos (by omega)
        refine ⟨i2, i, hi2, hi, by rw [e2, ex]; omega, ?_⟩
        rw [ex, Int.min_eq_right (by omega)] at hin
        rw [e2, ex]
        exact hin
    obtain ⟨a, b, ha, hb, hab, hai⟩ := key
    have hp : (0 : Int) < 2 ^ k := Int.pow_pos (by omega)
    have hlt : a < b := by
      rcases Nat.lt_trichotomy a b with h | h | h
      · exact h
      · subst h; omega
      · have := good_lt G a h ha; omega
    have hb1 : b = a + 1 := by
      rcases Nat.lt_or_ge (a + 1) b with h | h
      · have h1 := good_lt G (i := a) (a + 1) (by omega) (by omega)
        have h2 := good_lt G (i := a + 1) b h hb
        have m0 := (ins_mod (G a ha).1).2.1
        have m1 := (ins_mod (G (a + 1) (by omega)).1).2.1
        exfalso
        have : k = 0 ∨ k = 1 ∨ k = 2 ∨ k = 3 := by omega
        rcases this with rfl | rfl | rfl | rfl <;> simp only [Int.reducePow] at * <;> omega
      · omega
    subst hb1
    refine ⟨k, a + 1, hk, by omega, hb, ?_⟩
    simp only [adjB, Nat.add_sub_cancel, Bool.and_eq_true, beq_iff_eq]
    exact ⟨hab, hai⟩
  · rintro ⟨k, i, hk, h0, hi, hb⟩
    simp only [adjB, Bool.and_eq_true, beq_iff_eq] at hb
    obtain ⟨he, hin⟩ := hb
    have hi' : i - 1 < (z.l k).length := by omega
    obtain ⟨hm2, hm3⟩ := mod_down hk (ins_mod hin).2.1
    have ex : xorI (g5 (z.l k) (i - 1)) k = g5 (z.l k) (i - 1) + 2 ^ k := by simp [xorI, hm3]
    have hp : (0 : Int) < 2 ^ k := Int.pow_pos (by omega)
    refine ⟨k, i - 1, hk, hi', ?_⟩
    simp only [twB, ex, Int.min_eq_left (show g5 (z.l k) (i - 1) ≤ g5 (z.l k) (i - 1) + 2 ^ k by omega), hin, Bool.and_true, decide_eq_true_eq]
    rw [← he]
    exact mem_g5 hi

/-- The answer of the two Checks. -/
noncomputable def chkZ (z : Zn) : Int := by
  classical exact if rngZ z = false then 2 else if scZ z 0 ≠ 0 then scZ z 0 else if ¬ (pK z 5).Nodup then 7 else if adjP z then 11 else 0
theorem chkZ_rng {z : Zn} (h : rngZ z = false) : chkZ z = 2 := by simp [chkZ, h]
theorem chkZ_sc {z : Zn} (h : rngZ z = true) (h2 : scZ z 0 ≠ 0) : chkZ z = scZ z 0 := by simp [chkZ, h, h2]
theorem chkZ_two {z : Zn} (h : rngZ z = true) (h2 : scZ z 0 = 0) (h3 : ¬ (pK z 5).Nodup) : chkZ z = 7 := by simp [chkZ, h, h2, h3]
theorem chkZ_adj {z : Zn} (h : rngZ z = true) (h2 : scZ z 0 = 0) (h3 : (pK z 5).Nodup) (h4 : adjP z) : chkZ z = 11 := by simp [chkZ, h, h2, h3, h4]
theorem chkZ_ok {z : Zn} (h : rngZ z = true) (h2 : scZ z 0 = 0) (h3 : (pK z 5).Nodup) (h4 : ¬ adjP z) : chkZ z = 0 := by simp [chkZ, h, h2, h3, h4]
theorem scL_vals (z : Zn) (k i : Nat) : scL z k i = 0 ∨ scL z k i = 3 ∨ scL z k i = 10 := by
  by_cases hi : i < (z.l k).length
  · cases h2 : insZ z (g5 (z.l k) i) k
    · rw [scL_out hi h2]; omega
    · by_cases h3 : 0 < i ∧ g5 (z.l k) i ≤ g5 (z.l k) (i - 1)
      · rw [scL_ord hi h2 h3.1 h3.2]; omega
      · rw [scL_next hi h2 (by intro a; omega)]; exact scL_vals z k (i + 1)
  · rw [scL_end (by omega)]; omega
termination_by (z.l k).length - i
/-- Every frame of a block inside a zone lies from 0 to 255. -/
theorem ins_bd {z : Zn} (hr : rngZ z = true) {f : Int} {k : Nat} (h : insZ z f k = true) : 0 ≤ f ∧ f + 2 ^ k ≤ 256 := by
  have := rng_bd hr
  have := ins_mod h
  omega
end Go.Proofs.Ytmomcelnfljnmaa
