/-
  Walk of the reference's set. Conditions: none but what each theorem names.
-/
import Derived.Test.YtmomcelnfljnmaaR
namespace Go.Proofs.Ytmomcelnfljnmaa
open Go.RowKit
set_option linter.unusedVariables false

/-! ### How long the lists can be. -/
theorem good_ge {z : Zn} (hr : rngZ z = true) {k : Nat} (hg : GoodL z k) : ∀ i, i < (z.l k).length → (i : Int) ≤ g5 (z.l k) i
  | 0, h => by have := ins_bd hr (hg 0 h).1; omega
  | i + 1, h => by
    have := good_ge hr hg i (by omega)
    have := (hg (i + 1) h).2 (by omega)
    simp only [Nat.add_sub_cancel] at this
    omega
theorem good_len {z : Zn} (hr : rngZ z = true) {k : Nat} (hg : GoodL z k) : (z.l k).length ≤ 256 := by
  rcases Nat.eq_zero_or_pos (z.l k).length with h | h
  · omega
  · have h1 := good_ge hr hg ((z.l k).length - 1) (by omega)
    have h2 := ins_bd hr (hg ((z.l k).length - 1) (by omega)).1
    have hp : (0 : Int) < 2 ^ k := Int.pow_pos (by omega)
    omega
theorem blkF_len (e : Int) (n : Nat) : (blkF e n).length = n := by simp [blkF]
theorem lisF_len (k : Nat) : ∀ l : List Int, (lisF k l).length = l.length * 2 ^ k
  | [] => by simp [lisF]
  | a :: l => by
    have := lisF_len k l
    simp only [lisF, List.flatMap_cons, List.length_append, blkF_len, List.length_cons] at *
    rw [this, Nat.succ_mul, Nat.add_comm]
theorem pK_len {z : Zn} (hr : rngZ z = true) (hg : ∀ k, k < 5 → GoodL z k) : (pK z 5).length ≤ 20480 := by
  have e : (pK z 5).length = (z.l 0).length * 2 ^ 0 + ((z.l 1).length * 2 ^ 1 + ((z.l 2).length * 2 ^ 2 + ((z.l 3).length * 2 ^ 3 + (z.l 4).length * 2 ^ 4))) := by
    have : List.range 5 = [0, 1, 2, 3, 4] := rfl
    simp only [pK, this, List.flatMap_cons, List.flatMap_nil, List.append_nil, List.length_append, lisF_len]
  have h0 := good_len hr (hg 0 (by omega))
  have h1 := good_len hr (hg 1 (by omega))
  have h2 := good_len hr (hg 2 (by omega))
  have h3 := good_len hr (hg 3 (by omega))
  have h4 := good_len hr (hg 4 (by omega))
  omega
theorem cnt_bd {z : Zn} (hr : rngZ z = true) (hg : ∀ k, k < 5 → GoodL z k) {Q : List Int} (h : Q <+: pK z 5) (f : Int) : Q.count f ≤ 20480 :=
  Nat.le_trans List.count_le_length (Nat.le_trans h.length_le (pK_len hr hg))

/-- The world of set: the zone, the counters. -/
def CW (z : Zn) (P : Pl) (w : World) (Q : List Int) : World := (w.alloc (.cells (cellsZ z P) 60)).alloc (.cells (cntA Q) 3)
section
variable {z : Zn} {P : Pl} {w : World} {Q : List Int}
theorem CW.zm (hl : ∀ k, k < 5 → IntsAt w (P.A k) (z.l k)) : ZM z P w w.heap.size (CW z P w Q) := (ZM.start hl).next ((Below.refl _ _).alloc (Nat.le_refl _) _)
theorem CW.cell {f : Nat} (hf : f < 256) : (CW z P w Q).cell? ⟨w.heap.size + 1, f, none⟩ = some (.int .i64 ((Q.count (f : Int) : Nat) : Int)) := by
  unfold CW
  rw [World.cell?_alloc_at _ _ _ _ (by simp), cntA_get _ hf]
theorem CW.frozen (f : Nat) : (CW z P w Q).frozen? ⟨w.heap.size + 1, f, none⟩ = false := by
  unfold CW
  exact World.frozen?_alloc_at _ _ _ _ (by simp)
theorem CW.set {f : Nat} (hf : f < 256) : (CW z P w Q).setCell ⟨w.heap.size + 1, f, none⟩ (.int .i64 ((Q.count (f : Int) : Nat) + 1 : Int)) = CW z P w (Q ++ [(f : Int)]) := by
  have := set_alloc_last (w.alloc (.cells (cellsZ z P) 60)) (cntA Q) 3 f (.int .i64 ((Q.count (f : Int) : Nat) + 1 : Int))
  simp only [World.size_alloc] at this
  unfold CW
  rw [this, cntA_set _ hf]
end
theorem pow_le16 {k : Nat} (h : k < 5) : (1 : Int) ≤ 2 ^ k ∧ (2 : Int) ^ k ≤ 16 := by
  have : k = 0 ∨ k = 1 ∨ k = 2 ∨ k = 3 ∨ k = 4 := by omega
  rcases this with rfl | rfl | rfl | rfl | rfl <;> decide
theorem make256 (w : World) : (Instr.makeSlice 33 (.int .i64 256) (.int .i64 256)).run Try.prog w = .ok (.slice (some ⟨w.heap.size, 0, none⟩) 256 256) (w.alloc (.cells (cntA []) 3)) := by kernel_rfl

set_option maxHeartbeats 2000000 in
theorem set86 (z : Zn) (P : Pl) (hr : rngZ z = true) (hg : ∀ k, k < 5 → GoodL z k) (w : World) (hl : ∀ k, k < 5 → IntsAt w (P.A k) (z.l k)) :
    Calls Try.prog 86 #[ZV z P] w fun e w' => e = .returned (.slice (some ⟨w.heap.size + 1, 0, none⟩) 256 256) ∧ w' = CW z P w (pK z 5) := by
  have HZ : ∀ Q, Kp (ZM z P w w.heap.size (CW z P w Q)) := fun Q => ⟨CW.zm hl⟩
  clear hl
  have HZ := Kp.mk HZ
  have HR := Kp.mk hr
  have HG := Kp.mk hg
  clear hr hg
  have hmk := make256
  unfold ZV
  go_enter Try.func86, Try.ntmps86
  go_wp2_with fail
  go_loopw [4] (fun i W => ∃ k : Nat, k ≤ 5 ∧ i = .int .i64 k ∧ Kp (W = CW z P w (pK z k))) (fun i _ => 5 - (intOf i).toNat)
  case atStart => exact ⟨0, by omega, rfl, ⟨rfl⟩⟩
  case round =>
    clear hmk
    obtain ⟨k, hk5, rfl, HW⟩ := hrel
    by_cases hk : k < 5
    · have hki : (k : Int) < 5 := by omega
      go_wp2_with fail
      go_loopw [5] (fun i W => ∃ j : Nat, j ≤ (z.l k).length ∧ i = .int .i64 j ∧ Kp (W = CW z P w (pI z k j))) (fun i _ => (z.l k).length - (intOf i).toNat)
      case atStart => exact ⟨0, by omega, rfl, ⟨by rw [pI_zero]; exact HW.out⟩⟩
      case round =>
        clear HW
        obtain ⟨i, hil, rfl, HW⟩ := hrel
        have I := HZ.out (pI z k i)
        rw [← HW.out] at I
        have c0 := I.out.list hk
        have hlen := (I.out.ints k hk).1
        by_cases hi : i < (z.l k).length
        · obtain ⟨b, off, hA, c1⟩ := I.out.item hk hi
          obtain ⟨a, ha⟩ := Int.eq_ofNat_of_zero_le (ins_bd HR.out (HG.out k hk i hi).1).1
          have HA := Kp.mk ha
          rw [hA] at c0
          rw [ha] at c1
          clear ha
          have hp : (1 : Int) ≤ 2 ^ k ∧ (2 : Int) ^ k ≤ 16 := pow_le16 hk
          have ha := ins_bd HR.out (HG.out k hk i hi).1
          rw [HA.out] at ha
          go_wp2_with fail
          go_loopw [6] (fun x W => ∃ j : Nat, (j : Int) ≤ 2 ^ k ∧ x = .int .i64 ((a + j : Nat) : Int) ∧ Kp (W = CW z P w (pJ z k i j))) (fun x _ => 300 - (intOf x).toNat)
          case atStart => exact ⟨0, by omega, rfl, ⟨by rw [pJ_zero]; exact HW.out⟩⟩
          case round =>
            clear HW I c0 c1
            obtain ⟨j, hj, rfl, HW⟩ := hrel
            have I := HZ.out (pJ z k i j)
            rw [← HW.out] at I
            obtain ⟨c0, c1⟩ := I.out.two hk hi hA
            rw [HA.out] at c1
            by_cases hlt : (j : Int) < 2 ^ k
            · have hf : a + j < 256 := by omega
              have c2 := CW.cell (z := z) (P := P) (w := w) (Q := pJ z k i j) hf
              have c3 := CW.frozen (z := z) (P := P) (w := w) (Q := pJ z k i j) (a + j)
              have HS := CW.set (z := z) (P := P) (w := w) (Q := pJ z k i j) hf
              have hj' : j < 2 ^ k := by exact_mod_cast hlt
              have HP := pJ_succ z k i j
              have hb := cnt_bd HR.out HG.out (pJ_pre z hk hi (Nat.le_of_lt hj')) ((a + j : Nat) : Int)
              rw [HA.out, ← Int.natCast_add] at HP
              rw [← HP] at HS
              rw [← HW.out] at c2 c3 HS
              have HS := Kp.mk HS
              clear HP
              generalize (pJ z k i j).count ((a + j : Nat) : Int) = c at *
              go_wp2_with fail
              exact ⟨⟨j + 1, by omega, by congr 1, ⟨rfl⟩⟩, by simp only [intOf]; omega⟩
            · have hj' : j = 2 ^ k := by
                have : (j : Int) = 2 ^ k := by omega
                exact_mod_cast this
              have HE : Kp (wr = CW z P w (pI z k (i + 1))) := ⟨by rw [← pJ_full z k hi, ← hj']; exact HW.out⟩
              clear hj'
              go_wp2_with fail
              go_roundw
              case rel => exact ⟨i + 1, by omega, by go_num, HE⟩
              case measure => simp [intOf]; omega
        · have HE : Kp (wr = CW z P w (pK z (k + 1))) := ⟨by rw [← pI_full' z k (show (z.l k).length ≤ i by omega)]; exact HW.out⟩
          go_wp2_with fail
          go_roundw
          case rel => exact ⟨k + 1, by omega, by go_num, HE⟩
          case measure => simp [intOf]; omega
    · obtain rfl : k = 5 := by omega
      go_wp2_with fail
      go_ret
      exact ⟨rfl, HW.out⟩
end Go.Proofs.Ytmomcelnfljnmaa
