/-
  Plain laws: the words and the lines of a text; the text of a number is read back. Conditions: none but what each theorem names.
-/
import Derived.Test.YtiomnlgnhdhffaaDoorF7
import Derived.Test.YtiomnlgnhdhffaaDoorP5
namespace Go.Proofs.YtiomnlgnhdhffaaDoor
open Go.RowKit
set_option linter.unusedVariables false
set_option linter.unusedSimpArgs false

theorem cutAt_word {c : UInt8} : ∀ {w : List UInt8}, c ∉ w → cutAt c w = [w]
  | [], _ => rfl
  | b :: w, h => by
    have hb : b ≠ c := fun e => h (by simp [e])
    have ih := cutAt_word (c := c) (w := w) (fun e => h (by simp [e]))
    rw [cutAt, if_neg hb, ih]
theorem cutAt_mid (c : UInt8) : ∀ a b : List UInt8, cutAt c (a ++ c :: b) = cutAt c a ++ cutAt c b
  | [], b => by simp [cutAt]
  | x :: a, b => by
    have ih := cutAt_mid c a b
    by_cases h : x = c
    · simp [cutAt, h, ih]
    · obtain ⟨f, r, hf⟩ : ∃ f r, cutAt c a = f :: r := by
        cases hq : cutAt c a with
        | nil => exact absurd hq (cutAt_ne c a)
        | cons f r => exact ⟨_, _, rfl⟩
      simp [cutAt, h, ih, hf]
theorem cutAt_app {c : UInt8} {w : List UInt8} (l : List UInt8) (h : c ∉ w) : cutAt c (w ++ c :: l) = w :: cutAt c l := by
  rw [cutAt_mid, cutAt_word h]; rfl

/-- A word and words behind it, each behind a space. -/
def spj (w : Wd) (ws : List Wd) : Wd := w ++ ws.flatMap (fun v => 32 :: v)
theorem cutAt_spj : ∀ (ws : List Wd) (w : Wd), 32 ∉ w → (∀ v ∈ ws, 32 ∉ v) → cutAt 32 (spj w ws) = w :: ws
  | [], w, h, _ => by simp [spj, cutAt_word h]
  | v :: ws, w, h, hv => by
    have ih := cutAt_spj ws v (hv v (by simp)) (fun u hu => hv u (by simp [hu]))
    unfold spj at ih ⊢
    rw [List.flatMap_cons, List.cons_append, cutAt_app _ h, ih]
/-- A plain word: not empty, without spaces and ends of lines. -/
def PW (w : Wd) : Prop := w ≠ [] ∧ ∀ b ∈ w, 33 ≤ b.toNat
theorem PW.no32 {w : Wd} (h : PW w) : 32 ∉ w := fun e => by have := h.2 _ e; simp at this
theorem PW.no10 {w : Wd} (h : PW w) : 10 ∉ w := fun e => by have := h.2 _ e; simp at this
theorem wordsOf_spj {w : Wd} {ws : List Wd} (h : PW w) (hv : ∀ v ∈ ws, PW v) : wordsOf (spj w ws) = w :: ws := by
  unfold wordsOf
  rw [cutAt_spj ws w h.no32 (fun v hm => (hv v hm).no32), List.filter_eq_self]
  intro v hm
  rcases List.mem_cons.1 hm with rfl | hm
  · simpa using h.1
  · simpa using (hv v hm).1
theorem spj_no10 {w : Wd} {ws : List Wd} (h : PW w) (hv : ∀ v ∈ ws, PW v) : 10 ∉ spj w ws := by
  intro e
  rcases List.mem_append.1 e with e | e
  · exact h.no10 e
  · obtain ⟨v, hm, e⟩ := List.mem_flatMap.1 e
    rcases List.mem_cons.1 e with e | e
    · cases e
    · exact (hv v hm).no10 e

/-! ### Numbers -/
theorem ofd {d : Nat} (h : d < 10) : (UInt8.ofNat (48 + d)).toNat = 48 + d := by
  rw [UInt8.toNat_ofNat']
  exact Nat.mod_eq_of_lt (by omega)
theorem digV_d {d : Nat} (h : d < 10) (l : Wd) (n : Int) : digV (UInt8.ofNat (48 + d) :: l) n = digV l (10 * n + d) := by
  rw [digV, ofd h, if_neg (by omega)]
  congr 1
  omega
theorem dec1 {u : Nat} (h : u < 10) : Lib.decDigits u = [UInt8.ofNat (48 + u)] := by rw [Lib.decDigits, dif_pos h]
theorem dec2 {u : Nat} (h : 10 ≤ u) (h2 : u < 100) : Lib.decDigits u = [UInt8.ofNat (48 + u / 10), UInt8.ofNat (48 + u % 10)] := by
  rw [Lib.decDigits, dif_neg (by omega), dec1 (by omega)]; rfl
theorem dec3 {u : Nat} (h : 100 ≤ u) (h2 : u < 1000) : Lib.decDigits u = [UInt8.ofNat (48 + u / 10 / 10), UInt8.ofNat (48 + u / 10 % 10), UInt8.ofNat (48 + u % 10)] := by
  rw [Lib.decDigits, dif_neg (by omega), dec2 (by omega) (by omega)]; rfl
theorem ne48 {d : Nat} (h0 : 1 ≤ d) (h : d < 10) : UInt8.ofNat (48 + d) ≠ 48 := by
  intro e
  have := ofd h
  rw [e] at this
  have h48 : (48 : UInt8).toNat = 48 := rfl
  omega
theorem num3 {a : UInt8} {l : Wd} {p : Prop} (h : a ≠ 48) (hl : (a :: l).length ≤ 3 := by simp) : ¬ ((a :: l).length < 1 ∨ 3 < (a :: l).length ∨ ((a :: l).headD 0 = 48 ∧ p)) := by
  rintro (h1 | h1 | h1)
  · simp at h1
  · omega
  · exact h h1.1
theorem numW_itoa {n : Int} (h0 : 0 ≤ n) (h1 : n < 1000) : numW (Lib.itoa n) = some n := by
  obtain ⟨u, rfl⟩ : ∃ u : Nat, n = u := ⟨n.toNat, by omega⟩
  have hu : u < 1000 := by omega
  rw [Lib.itoa, if_neg (by omega), Int.toNat_natCast]
  by_cases h10 : u < 10
  · rw [dec1 h10, numW, if_neg (by simp), digV_d h10, digV]
    congr 1; omega
  by_cases h100 : u < 100
  · rw [dec2 (by omega) h100, numW, if_neg (num3 (ne48 (by omega) (by omega))), digV_d (by omega), digV_d (by omega), digV]
    congr 1; omega
  · rw [dec3 (by omega) hu, numW, if_neg (num3 (ne48 (by omega) (by omega))), digV_d (by omega), digV_d (by omega), digV_d (by omega), digV]
    congr 1; omega
theorem dec_pw : ∀ u : Nat, PW (Lib.decDigits u) := by
  intro u
  induction u using Nat.strongRecOn with
  | _ u ih =>
    rw [Lib.decDigits]
    split
    · next h =>
      refine ⟨by simp, fun b hb => ?_⟩
      rw [List.mem_singleton] at hb
      subst hb
      rw [ofd h]; omega
    · next h =>
      have := ih (u / 10) (by omega)
      refine ⟨by simp, fun b hb => ?_⟩
      rcases List.mem_append.1 hb with hb | hb
      · exact this.2 b hb
      · rw [List.mem_singleton] at hb
        subst hb
        rw [ofd (by omega)]; omega
theorem itoa_pw {n : Int} (h0 : 0 ≤ n) : PW (Lib.itoa n) := by
  rw [Lib.itoa, if_neg (by omega)]
  exact dec_pw _
theorem numS_itoa {n : Int} (h : 0 ≤ n ∧ n < 1000) (t : List Wd) (f : Bool) : numS (Lib.itoa n :: t, f) = (n, (t, f)) := by
  simp only [numS, nextS, numW_itoa h.1 h.2]
theorem itoa_not_any {n : Int} (h : 0 ≤ n ∧ n < 1000) : Lib.itoa n ≠ [97, 110, 121] := by
  intro e
  have := numW_itoa h.1 h.2
  rw [e, show numW [97, 110, 121] = none from rfl] at this
  cases this
end Go.Proofs.YtiomnlgnhdhffaaDoor
