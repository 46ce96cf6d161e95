/-
  The contract of the statements' Valid and the walks of WatermarkKeeps and WatermarkCycle. Conditions: none but what each theorem names.
-/
import Derived.Test.YtmomcelnfljnmaaI
namespace Go.Proofs.Ytmomcelnfljnmaa
open Go.RowKit
set_option linter.unusedVariables false

/-- How many elements Valid looks at. -/
def cnt (l : List Int) : Nat := min l.length 5
def okc (l : List Int) (k : Nat) : Bool := (List.range k).all fun i => inB (g5 l i)
theorem okc_succ (l : List Int) (k : Nat) : okc l (k + 1) = (okc l k && inB (g5 l k)) := by simp [okc, List.range_succ]
theorem g5_out (l : List Int) {k : Nat} (h : l.length ≤ k) : g5 l k = 0 := by simp [g5, List.getElem?_eq_none h]
theorem okc_ok5 (l : List Int) : okc l (cnt l) = ok5 l := by
  have h5 : okc l 5 = ok5 l := by simp [okc, ok5, List.range_succ_eq_map, Bool.and_assoc]
  have key : ∀ d k, l.length ≤ k → okc l (k + d) = okc l k := by
    intro d
    induction d with
    | zero => intro k _; rfl
    | succ d ih =>
      intro k hk
      rw [← Nat.add_assoc, okc_succ, ih k hk, g5_out l (by omega)]
      simp [inB]
  by_cases h : l.length < 5
  · have := key (5 - l.length) l.length (Nat.le_refl _)
    rw [show l.length + (5 - l.length) = 5 by omega] at this
    rw [cnt, Nat.min_eq_left (by omega), ← this, h5]
  · rw [cnt, Nat.min_eq_right (by omega), h5]
theorem okc_lt {l : List Int} {n : Nat} (h : okc l n = true) {k : Nat} (hk : k < n) : 0 ≤ g5 l k ∧ g5 l k ≤ 4096 := by
  simp only [okc, List.all_eq_true, List.mem_range] at h
  exact inB_true (h k hk)
/-- The sum that Valid makes. -/
def sm (l : List Int) (k : Nat) : Int := ((List.range k).map fun i => g5 l i * 2 ^ i).sum
theorem sm_succ (l : List Int) (k : Nat) : sm l (k + 1) = sm l k + g5 l k * 2 ^ k := by simp [sm, List.range_succ]
theorem pow_bd {x : Int} (h0 : 0 ≤ x) (h1 : x ≤ 4096) {k : Nat} (hk : k < 5) : 0 ≤ x * 2 ^ k ∧ x * 2 ^ k ≤ 65536 := by
  have : k = 0 ∨ k = 1 ∨ k = 2 ∨ k = 3 ∨ k = 4 := by omega
  rcases this with rfl | rfl | rfl | rfl | rfl <;> simp only [Int.reducePow] <;> omega
theorem sm_bd {l : List Int} : ∀ {k : Nat}, k ≤ 5 → okc l k = true → 0 ≤ sm l k ∧ sm l k ≤ 65536 * k
  | 0, _, _ => by simp [sm]
  | k + 1, hk, h => by
    rw [okc_succ, Bool.and_eq_true] at h
    have i := sm_bd (l := l) (k := k) (by omega) h.1
    have b := inB_true h.2
    have p := pow_bd b.1 b.2 (show k < 5 by omega)
    rw [sm_succ]
    omega
theorem sm_abv (l : List Int) : sm l (cnt l) = abv l 0 := by
  have h5 : sm l 5 = abv l 0 := by simp [sm, abv]
  have key : ∀ d k, l.length ≤ k → sm l (k + d) = sm l k := by
    intro d
    induction d with
    | zero => intro k _; rfl
    | succ d ih =>
      intro k hk
      rw [← Nat.add_assoc, sm_succ, ih k hk, g5_out l (by omega)]
      simp
  by_cases h : l.length < 5
  · have := key (5 - l.length) l.length (Nat.le_refl _)
    rw [show l.length + (5 - l.length) = 5 by omega] at this
    rw [cnt, Nat.min_eq_left (by omega), ← this, h5]
  · rw [cnt, Nat.min_eq_right (by omega), h5]

theorem wrap_sm {l : List Int} {k : Nat} (hk : k < 5) (h : okc l (k + 1) = true) : wrap64 (sm l k + wrap64 (g5 l k * 2 ^ k)) = sm l (k + 1) := by
  have h' := h
  rw [okc_succ, Bool.and_eq_true] at h'
  have i := sm_bd (l := l) (k := k) (by omega) h'.1
  have b := inB_true h'.2
  have p := pow_bd b.1 b.2 hk
  rw [wrap_id (x := g5 l k * 2 ^ k) (by omega) (by omega), wrap_id (by omega) (by omega), sm_succ]

def validV (l : List Int) : Value := .tuple #[.int .i64 (if ok5 l then abv l 0 else 0), .bool (ok5 l)]
set_option maxRecDepth 100000 in
set_option maxHeartbeats 1000000 in
theorem valid23 (A : Option Addr) (l : List Int) (cap : Nat) (w : World) (hl : IntsAt w A l) (hn : l.length ≤ 20) :
    Calls Try.prog 23 #[.slice A l.length cap] w fun e w' => e = .returned (validV l) ∧ w = w' := by
  have HL := Kp.mk hl
  clear hl
  have HO := Kp.mk (okc_ok5 l)
  have HS := Kp.mk (sm_abv l)
  go_enter Try.func23, Try.ntmps23
  go_wp2
  go_loop [4, 5] (fun t i => ∃ k : Nat, k ≤ 5 ∧ k ≤ l.length ∧ Kp (okc l k = true) ∧ i = .int .i64 k ∧ t = .int .i64 (sm l k)) (fun _ i => 5 - (intOf i).toNat)
  case atStart => exact ⟨0, by omega, by omega, ⟨rfl⟩, rfl, rfl⟩
  case round =>
    obtain ⟨k, hk5, hkl, HK, rfl, rfl⟩ := hrel
    have sb := sm_bd hk5 HK.out
    by_cases h1 : k < l.length
    · have d1 : decide (k < l.length) = true := by simpa using h1
      by_cases h2 : k < 5
      · obtain ⟨b, off, rfl, hc⟩ := HL.out.cell h1
        by_cases c1 : g5 l k < 0
        · have H5 := Kp.mk (show ok5 l = false by
            rw [← HO.out, okc, List.all_eq_false]
            exact ⟨k, by simp [cnt]; omega, by simp [inB]; omega⟩)
          go_wp2
          go_ret2
          exact ⟨by rw [validV, H5.out]; rfl, rfl⟩
        · by_cases c2 : 4096 < g5 l k
          · have H5 := Kp.mk (show ok5 l = false by
              rw [← HO.out, okc, List.all_eq_false]
              exact ⟨k, by simp [cnt]; omega, by simp [inB]; omega⟩)
            go_wp2
            go_ret2
            exact ⟨by rw [validV, H5.out]; rfl, rfl⟩
          · have HK' := Kp.mk (show okc l (k + 1) = true by rw [okc_succ, HK.out]; simp [inB]; omega)
            have ss := Kp.mk (wrap_sm h2 HK'.out)
            go_wp2
            go_round
            case rel => exact ⟨k + 1, by omega, by omega, HK', by go_num, by first | rw [ss.out] | (rw [sm_succ])⟩
            case measure => simp [intOf]; omega
      · have HE := Kp.mk (show ok5 l = true by rw [← HO.out, cnt, Nat.min_eq_right (by omega), show 5 = k by omega]; exact HK.out)
        have HV := Kp.mk (show abv l 0 = sm l k by rw [← HS.out, cnt, Nat.min_eq_right (by omega), show 5 = k by omega])
        go_wp2
        go_ret2
        exact ⟨by rw [validV, HE.out, HV.out]; rfl, rfl⟩
    · have d1 : decide (k < l.length) = false := by simpa using h1
      have HE := Kp.mk (show ok5 l = true by rw [← HO.out, cnt, show min l.length 5 = k by omega]; exact HK.out)
      have HV := Kp.mk (show abv l 0 = sm l k by rw [← HS.out, cnt, show min l.length 5 = k by omega])
      go_wp2
      go_ret2
      exact ⟨by rw [validV, HE.out, HV.out]; rfl, rfl⟩
end Go.Proofs.Ytmomcelnfljnmaa
