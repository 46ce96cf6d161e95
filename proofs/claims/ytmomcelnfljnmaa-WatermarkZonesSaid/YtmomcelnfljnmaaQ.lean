/-
  Walks of ranges, inside and of the reference's InRange and Block; words for a block of counters. Conditions: none but what each theorem names.
-/
import Derived.Test.YtmomcelnfljnmaaP
namespace Go.Proofs.Ytmomcelnfljnmaa
open Go.RowKit
set_option linter.unusedVariables false

/-- A store into the newest block. -/
theorem set_alloc_last (w : World) (c : Array Value) (t : TypeId) (f : Nat) (v : Value) : (w.alloc (.cells c t)).setCell ⟨w.heap.size, f, none⟩ v = w.alloc (.cells (c.setIfInBounds f v) t) := by
  simp only [World.setCell, World.alloc]
  congr 1
  apply Array.ext_getElem?
  intro i
  rw [Array.getElem?_modify, Array.getElem?_push, Array.getElem?_push]
  split
  · subst i
    simp
  · split
    · omega
    · rfl
def cntA (P : List Int) : Array Value := ((List.range 256).map fun (f : Nat) => Value.int .i64 ((P.count (f : Int) : Nat) : Int)).toArray
def bitA (P : List Int) : Array Value := ((List.range 256).map fun (f : Nat) => Value.bool (decide ((f : Int) ∈ P))).toArray
theorem cntA_get (P : List Int) {f : Nat} (h : f < 256) : (cntA P)[f]? = some (.int .i64 ((P.count (f : Int) : Nat) : Int)) := by simp [cntA, h]
theorem bitA_get (P : List Int) {f : Nat} (h : f < 256) : (bitA P)[f]? = some (.bool (decide ((f : Int) ∈ P))) := by simp [bitA, h]
theorem cntA_set (P : List Int) {f : Nat} (h : f < 256) : (cntA P).setIfInBounds f (.int .i64 ((P.count (f : Int) : Nat) + 1 : Int)) = cntA (P ++ [(f : Int)]) := by
  apply Array.ext_getElem?
  intro i
  rw [Array.getElem?_setIfInBounds]
  have hs : (cntA P).size = 256 := by simp [cntA]
  by_cases hi : i < 256
  · rw [cntA_get _ hi]
    by_cases e : f = i
    · subst e
      rw [cntA_get _ h, if_pos rfl, if_pos (by omega)]
      simp [List.count_append]
    · rw [if_neg e, cntA_get _ hi]
      have : ¬ ((f : Int) = (i : Int)) := by omega
      simp [List.count_append, this]
  · have h1 : (cntA (P ++ [(f : Int)])).size = 256 := by simp [cntA]
    rw [if_neg (by omega), Array.getElem?_eq_none (by omega), Array.getElem?_eq_none (by omega)]
theorem bitA_set (P : List Int) {f : Nat} (h : f < 256) : (bitA P).setIfInBounds f (.bool true) = bitA (P ++ [(f : Int)]) := by
  apply Array.ext_getElem?
  intro i
  rw [Array.getElem?_setIfInBounds]
  have hs : (bitA P).size = 256 := by simp [bitA]
  by_cases hi : i < 256
  · rw [bitA_get _ hi]
    by_cases e : f = i
    · subst e
      rw [bitA_get _ h, if_pos rfl, if_pos (by omega)]
      simp
    · rw [if_neg e, bitA_get _ hi]
      have : ¬ ((i : Int) = (f : Int)) := by omega
      simp [this]
  · have h1 : (bitA (P ++ [(f : Int)])).size = 256 := by simp [bitA]
    rw [if_neg (by omega), Array.getElem?_eq_none (by omega), Array.getElem?_eq_none (by omega)]

theorem ranges81 (z : Zn) (P : Pl) (w : World) : Calls Try.prog 81 #[ZV z P] w fun e w' => e = .returned (.bool (rngZ z)) ∧ Below w.heap.size w w' := by
  obtain ⟨b, hb⟩ : ∃ b, b = rngZ z := ⟨_, rfl⟩
  rw [← hb]
  have HB := Kp.mk hb
  clear hb
  obtain ⟨nd, kd, st, ct, mn, l⟩ := z
  unfold ZV cellsZ
  generalize slV _ P 0 = s0
  generalize slV _ P 1 = s1
  generalize slV _ P 2 = s2
  generalize slV _ P 3 = s3
  generalize slV _ P 4 = s4
  go_enter Try.func81, Try.ntmps81
  go_wp2
  all_goals go_ret
  all_goals exact ⟨by rw [HB.out]; congr 2; simp only [rngZ]; simp; omega, (Below.refl _ _).alloc (Nat.le_refl _) _⟩

theorem inRange84 (z : Zn) (P : Pl) (w : World) : Calls Try.prog 84 #[ZV z P] w fun e w' => e = .returned (.bool (rngZ z)) ∧ Below w.heap.size w w' := by
  obtain ⟨b, hb⟩ : ∃ b, b = rngZ z := ⟨_, rfl⟩
  rw [← hb]
  have HB := Kp.mk hb
  clear hb
  obtain ⟨nd, kd, st, ct, mn, l⟩ := z
  unfold ZV cellsZ
  generalize slV _ P 0 = s0
  generalize slV _ P 1 = s1
  generalize slV _ P 2 = s2
  generalize slV _ P 3 = s3
  generalize slV _ P 4 = s4
  go_enter Try.func84, Try.ntmps84
  go_wp2
  all_goals go_ret
  all_goals ((try simp only [bne_iff_ne, ne_eq, bne_eq_false_iff_eq] at *); exact ⟨by rw [HB.out]; congr 2; simp only [rngZ]; simp; omega, (Below.refl _ _).alloc (Nat.le_refl _) _⟩)

set_option maxHeartbeats 2000000 in
theorem inside82 (z : Zn) (P : Pl) (f : Int) (k : Nat) (hk : k ≤ 4) (hr : rngZ z = true) (w : World) : Calls Try.prog 82 #[ZV z P, .int .i64 f, .int .i64 k] w fun e w' => e = .returned (.bool (insZ z f k)) ∧ Below w.heap.size w w' := by
  have hbd := rng_bd hr
  obtain ⟨b, hb⟩ : ∃ b, b = insZ z f k := ⟨_, rfl⟩
  rw [← hb]
  have HB := Kp.mk hb
  clear hb hr
  obtain ⟨nd, kd, st, ct, mn, l⟩ := z
  unfold ZV cellsZ
  generalize slV _ P 0 = s0
  generalize slV _ P 1 = s1
  generalize slV _ P 2 = s2
  generalize slV _ P 3 = s3
  generalize slV _ P 4 = s4
  simp only [] at hbd
  have hk' : k = 0 ∨ k = 1 ∨ k = 2 ∨ k = 3 ∨ k = 4 := by omega
  clear hk
  rcases hk' with rfl | rfl | rfl | rfl | rfl
  all_goals go_enter Try.func82, Try.ntmps82
  all_goals go_wp2
  all_goals go_ret
  all_goals (refine ⟨?_, (Below.refl _ _).alloc (Nat.le_refl _) _⟩; rw [HB.out]; congr 2; simp only [insZ, Int.reducePow]; simp; first | omega | (rw [Bool.eq_iff_iff]; simp; omega))
set_option maxHeartbeats 2000000 in
theorem block87 (z : Zn) (P : Pl) (f : Int) (k : Nat) (hk : k ≤ 4) (hr : rngZ z = true) (w : World) : Calls Try.prog 87 #[ZV z P, .int .i64 f, .int .i64 k] w fun e w' => e = .returned (.bool (insZ z f k)) ∧ Below w.heap.size w w' := by
  have hbd := rng_bd hr
  obtain ⟨b, hb⟩ : ∃ b, b = insZ z f k := ⟨_, rfl⟩
  rw [← hb]
  have HB := Kp.mk hb
  clear hb hr
  obtain ⟨nd, kd, st, ct, mn, l⟩ := z
  unfold ZV cellsZ
  generalize slV _ P 0 = s0
  generalize slV _ P 1 = s1
  generalize slV _ P 2 = s2
  generalize slV _ P 3 = s3
  generalize slV _ P 4 = s4
  simp only [] at hbd
  have hk' : k = 0 ∨ k = 1 ∨ k = 2 ∨ k = 3 ∨ k = 4 := by omega
  clear hk
  rcases hk' with rfl | rfl | rfl | rfl | rfl
  all_goals go_enter Try.func87, Try.ntmps87
  all_goals go_wp2
  all_goals go_ret
  all_goals (refine ⟨?_, (Below.refl _ _).alloc (Nat.le_refl _) _⟩; rw [HB.out]; congr 2; simp only [insZ, Int.reducePow]; simp; first | omega | (rw [Bool.eq_iff_iff]; simp; omega))
end Go.Proofs.Ytmomcelnfljnmaa
