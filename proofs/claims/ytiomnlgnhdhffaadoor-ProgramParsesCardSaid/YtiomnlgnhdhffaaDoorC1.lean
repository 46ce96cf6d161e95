/-
  The reference's in, memory and ranges. Conditions: none but what each theorem names.
-/
import Derived.Test.YtiomnlgnhdhffaaDoorB1
namespace Go.Proofs.YtiomnlgnhdhffaaDoor
open Go.RowKit
set_option linter.unusedVariables false
set_option linter.unusedSimpArgs false

def inR (n lo hi : Int) : Bool := decide (lo ≤ n) && decide (n ≤ hi)
theorem in20 (n lo hi : Int) (w : World) : Calls Tryd.prog 20 #[.int .i64 n, .int .i64 lo, .int .i64 hi] w fun e w' => e = .returned (.bool (inR n lo hi)) ∧ w = w' := by
  by_cases h : lo ≤ n
  · have hd : decide (n ≥ lo) = true := by simpa using h
    go_enter Tryd.func20, Tryd.ntmps20
    go_wp2
    go_ret
    exact ⟨by simp [inR, h], rfl⟩
  · have hd : decide (n ≥ lo) = false := by simpa using h
    go_enter Tryd.func20, Tryd.ntmps20
    go_wp2
    go_ret
    exact ⟨by simp [inR]; omega, rfl⟩
/-- What memory answers. -/
def memR (x : Ins) : Bool :=
  let page := inR x.page 0 511
  let count := inR x.count 1 512
  let prot := x.prot == 1 || x.prot == 3
  if x.op = 1 then inR x.page (-1) 511 && (count && (prot && (inR x.flags 0 15 && (inR x.file (-1) 3 && (inR x.index 0 15 && (decide (0 ≤ x.file) || x.index == 0))))))
  else if x.op = 2 then page && count
  else if x.op = 3 then page && (count && prot)
  else if x.op = 4 then page && (count && inR x.value 0 1)
  else if x.op = 5 then page && inR x.index 0 31
  else page && (inR x.index 0 31 && inR x.value 0 255)

set_option maxRecDepth 100000 in
set_option maxHeartbeats 8000000 in
theorem memory34_1 (x1 x2 x3 x4 x5 x6 x7 : Int) (w : World) : Calls Tryd.prog 34 #[insV 1 x1 x2 x3 x4 x5 x6 x7] w fun e w' => e = .returned (.bool (memR ⟨1, x1, x2, x3, x4, x5, x6, x7⟩)) ∧ Below w.heap.size w w' := by
  obtain ⟨R, hR⟩ : ∃ R, R = memR ⟨1, x1, x2, x3, x4, x5, x6, x7⟩ := ⟨_, rfl⟩
  rw [← hR]
  have HR := Kp.mk hR
  clear hR
  obtain ⟨b0, hb0⟩ : ∃ b, b = inR x1 (-1) 511 := ⟨_, rfl⟩
  have H0 := Kp.mk hb0
  clear hb0
  obtain ⟨b1, hb1⟩ : ∃ b, b = inR x1 0 511 := ⟨_, rfl⟩
  have H1 := Kp.mk hb1
  clear hb1
  obtain ⟨b2, hb2⟩ : ∃ b, b = inR x2 1 512 := ⟨_, rfl⟩
  have H2 := Kp.mk hb2
  clear hb2
  obtain ⟨b3, hb3⟩ : ∃ b, b = inR x5 (-1) 3 := ⟨_, rfl⟩
  have H3 := Kp.mk hb3
  clear hb3
  obtain ⟨b4, hb4⟩ : ∃ b, b = inR x3 0 15 := ⟨_, rfl⟩
  have H4 := Kp.mk hb4
  clear hb4
  obtain ⟨b5, hb5⟩ : ∃ b, b = inR x7 0 15 := ⟨_, rfl⟩
  have H5 := Kp.mk hb5
  clear hb5
  go_enter Tryd.func34, Tryd.ntmps34
  go_wp2_with (go_at_call 20; first | (with_reducible refine (in20 x1 (-1) 511 _).mono ?_; rintro e w' ⟨rfl, rfl⟩; rw [← H0.out]) | (with_reducible refine (in20 x1 0 511 _).mono ?_; rintro e w' ⟨rfl, rfl⟩; rw [← H1.out]) | (with_reducible refine (in20 x2 1 512 _).mono ?_; rintro e w' ⟨rfl, rfl⟩; rw [← H2.out]) | (with_reducible refine (in20 x5 (-1) 3 _).mono ?_; rintro e w' ⟨rfl, rfl⟩; rw [← H3.out]) | (with_reducible refine (in20 x3 0 15 _).mono ?_; rintro e w' ⟨rfl, rfl⟩; rw [← H4.out]) | (with_reducible refine (in20 x7 0 15 _).mono ?_; rintro e w' ⟨rfl, rfl⟩; rw [← H5.out]))
  all_goals
    go_ret
    exact ⟨congrArg (fun b => Ending.returned (Value.bool b)) (by rw [HR.out]; simp [memR, ← H0.out, ← H1.out, ← H2.out, ← H3.out, ← H4.out, ← H5.out, *]), (Below.refl _ _).alloc (Nat.le_refl _) _⟩
set_option maxRecDepth 100000 in
set_option maxHeartbeats 8000000 in
theorem memory34_2 (x1 x2 x3 x4 x5 x6 x7 : Int) (w : World) : Calls Tryd.prog 34 #[insV 2 x1 x2 x3 x4 x5 x6 x7] w fun e w' => e = .returned (.bool (memR ⟨2, x1, x2, x3, x4, x5, x6, x7⟩)) ∧ Below w.heap.size w w' := by
  obtain ⟨R, hR⟩ : ∃ R, R = memR ⟨2, x1, x2, x3, x4, x5, x6, x7⟩ := ⟨_, rfl⟩
  rw [← hR]
  have HR := Kp.mk hR
  clear hR
  obtain ⟨b0, hb0⟩ : ∃ b, b = inR x1 0 511 := ⟨_, rfl⟩
  have H0 := Kp.mk hb0
  clear hb0
  obtain ⟨b1, hb1⟩ : ∃ b, b = inR x2 1 512 := ⟨_, rfl⟩
  have H1 := Kp.mk hb1
  clear hb1
  go_enter Tryd.func34, Tryd.ntmps34
  go_wp2_with (go_at_call 20; first | (with_reducible refine (in20 x1 0 511 _).mono ?_; rintro e w' ⟨rfl, rfl⟩; rw [← H0.out]) | (with_reducible refine (in20 x2 1 512 _).mono ?_; rintro e w' ⟨rfl, rfl⟩; rw [← H1.out]))
  all_goals
    go_ret
    exact ⟨congrArg (fun b => Ending.returned (Value.bool b)) (by rw [HR.out]; simp [memR, ← H0.out, ← H1.out, *]), (Below.refl _ _).alloc (Nat.le_refl _) _⟩
set_option maxRecDepth 100000 in
set_option maxHeartbeats 8000000 in
theorem memory34_3 (x1 x2 x3 x4 x5 x6 x7 : Int) (w : World) : Calls Tryd.prog 34 #[insV 3 x1 x2 x3 x4 x5 x6 x7] w fun e w' => e = .returned (.bool (memR ⟨3, x1, x2, x3, x4, x5, x6, x7⟩)) ∧ Below w.heap.size w w' := by
  obtain ⟨R, hR⟩ : ∃ R, R = memR ⟨3, x1, x2, x3, x4, x5, x6, x7⟩ := ⟨_, rfl⟩
  rw [← hR]
  have HR := Kp.mk hR
  clear hR
  obtain ⟨b0, hb0⟩ : ∃ b, b = inR x1 0 511 := ⟨_, rfl⟩
  have H0 := Kp.mk hb0
  clear hb0
  obtain ⟨b1, hb1⟩ : ∃ b, b = inR x2 1 512 := ⟨_, rfl⟩
  have H1 := Kp.mk hb1
  clear hb1
  go_enter Tryd.func34, Tryd.ntmps34
  go_wp2_with (go_at_call 20; first | (with_reducible refine (in20 x1 0 511 _).mono ?_; rintro e w' ⟨rfl, rfl⟩; rw [← H0.out]) | (with_reducible refine (in20 x2 1 512 _).mono ?_; rintro e w' ⟨rfl, rfl⟩; rw [← H1.out]))
  all_goals
    go_ret
    exact ⟨congrArg (fun b => Ending.returned (Value.bool b)) (by rw [HR.out]; simp [memR, ← H0.out, ← H1.out, *]), (Below.refl _ _).alloc (Nat.le_refl _) _⟩
set_option maxRecDepth 100000 in
set_option maxHeartbeats 8000000 in
theorem memory34_4 (x1 x2 x3 x4 x5 x6 x7 : Int) (w : World) : Calls Tryd.prog 34 #[insV 4 x1 x2 x3 x4 x5 x6 x7] w fun e w' => e = .returned (.bool (memR ⟨4, x1, x2, x3, x4, x5, x6, x7⟩)) ∧ Below w.heap.size w w' := by
  obtain ⟨R, hR⟩ : ∃ R, R = memR ⟨4, x1, x2, x3, x4, x5, x6, x7⟩ := ⟨_, rfl⟩
  rw [← hR]
  have HR := Kp.mk hR
  clear hR
  obtain ⟨b0, hb0⟩ : ∃ b, b = inR x1 0 511 := ⟨_, rfl⟩
  have H0 := Kp.mk hb0
  clear hb0
  obtain ⟨b1, hb1⟩ : ∃ b, b = inR x2 1 512 := ⟨_, rfl⟩
  have H1 := Kp.mk hb1
  clear hb1
  obtain ⟨b2, hb2⟩ : ∃ b, b = inR x4 0 1 := ⟨_, rfl⟩
  have H2 := Kp.mk hb2
  clear hb2
  go_enter Tryd.func34, Tryd.ntmps34
  go_wp2_with (go_at_call 20; first | (with_reducible refine (in20 x1 0 511 _).mono ?_; rintro e w' ⟨rfl, rfl⟩; rw [← H0.out]) | (with_reducible refine (in20 x2 1 512 _).mono ?_; rintro e w' ⟨rfl, rfl⟩; rw [← H1.out]) | (with_reducible refine (in20 x4 0 1 _).mono ?_; rintro e w' ⟨rfl, rfl⟩; rw [← H2.out]))
  all_goals
    go_ret
    exact ⟨congrArg (fun b => Ending.returned (Value.bool b)) (by rw [HR.out]; simp [memR, ← H0.out, ← H1.out, ← H2.out, *]), (Below.refl _ _).alloc (Nat.le_refl _) _⟩
set_option maxRecDepth 100000 in
set_option maxHeartbeats 8000000 in
theorem memory34_5 (x1 x2 x3 x4 x5 x6 x7 : Int) (w : World) : Calls Tryd.prog 34 #[insV 5 x1 x2 x3 x4 x5 x6 x7] w fun e w' => e = .returned (.bool (memR ⟨5, x1, x2, x3, x4, x5, x6, x7⟩)) ∧ Below w.heap.size w w' := by
  obtain ⟨R, hR⟩ : ∃ R, R = memR ⟨5, x1, x2, x3, x4, x5, x6, x7⟩ := ⟨_, rfl⟩
  rw [← hR]
  have HR := Kp.mk hR
  clear hR
  obtain ⟨b0, hb0⟩ : ∃ b, b = inR x1 0 511 := ⟨_, rfl⟩
  have H0 := Kp.mk hb0
  clear hb0
  obtain ⟨b1, hb1⟩ : ∃ b, b = inR x2 1 512 := ⟨_, rfl⟩
  have H1 := Kp.mk hb1
  clear hb1
  obtain ⟨b2, hb2⟩ : ∃ b, b = inR x3 0 31 := ⟨_, rfl⟩
  have H2 := Kp.mk hb2
  clear hb2
  go_enter Tryd.func34, Tryd.ntmps34
  go_wp2_with (go_at_call 20; first | (with_reducible refine (in20 x1 0 511 _).mono ?_; rintro e w' ⟨rfl, rfl⟩; rw [← H0.out]) | (with_reducible refine (in20 x2 1 512 _).mono ?_; rintro e w' ⟨rfl, rfl⟩; rw [← H1.out]) | (with_reducible refine (in20 x3 0 31 _).mono ?_; rintro e w' ⟨rfl, rfl⟩; rw [← H2.out]))
  all_goals
    go_ret
    exact ⟨congrArg (fun b => Ending.returned (Value.bool b)) (by rw [HR.out]; simp [memR, ← H0.out, ← H1.out, ← H2.out, *]), (Below.refl _ _).alloc (Nat.le_refl _) _⟩
set_option maxRecDepth 100000 in
set_option maxHeartbeats 8000000 in
theorem memory34_6 (x1 x2 x3 x4 x5 x6 x7 : Int) (w : World) : Calls Tryd.prog 34 #[insV 6 x1 x2 x3 x4 x5 x6 x7] w fun e w' => e = .returned (.bool (memR ⟨6, x1, x2, x3, x4, x5, x6, x7⟩)) ∧ Below w.heap.size w w' := by
  obtain ⟨R, hR⟩ : ∃ R, R = memR ⟨6, x1, x2, x3, x4, x5, x6, x7⟩ := ⟨_, rfl⟩
  rw [← hR]
  have HR := Kp.mk hR
  clear hR
  obtain ⟨b0, hb0⟩ : ∃ b, b = inR x1 0 511 := ⟨_, rfl⟩
  have H0 := Kp.mk hb0
  clear hb0
  obtain ⟨b1, hb1⟩ : ∃ b, b = inR x2 1 512 := ⟨_, rfl⟩
  have H1 := Kp.mk hb1
  clear hb1
  obtain ⟨b2, hb2⟩ : ∃ b, b = inR x3 0 31 := ⟨_, rfl⟩
  have H2 := Kp.mk hb2
  clear hb2
  obtain ⟨b3, hb3⟩ : ∃ b, b = inR x4 0 255 := ⟨_, rfl⟩
  have H3 := Kp.mk hb3
  clear hb3
  go_enter Tryd.func34, Tryd.ntmps34
  go_wp2_with (go_at_call 20; first | (with_reducible refine (in20 x1 0 511 _).mono ?_; rintro e w' ⟨rfl, rfl⟩; rw [← H0.out]) | (with_reducible refine (in20 x2 1 512 _).mono ?_; rintro e w' ⟨rfl, rfl⟩; rw [← H1.out]) | (with_reducible refine (in20 x3 0 31 _).mono ?_; rintro e w' ⟨rfl, rfl⟩; rw [← H2.out]) | (with_reducible refine (in20 x4 0 255 _).mono ?_; rintro e w' ⟨rfl, rfl⟩; rw [← H3.out]))
  all_goals
    go_ret
    exact ⟨congrArg (fun b => Ending.returned (Value.bool b)) (by rw [HR.out]; simp [memR, ← H0.out, ← H1.out, ← H2.out, ← H3.out, *]), (Below.refl _ _).alloc (Nat.le_refl _) _⟩
end Go.Proofs.YtiomnlgnhdhffaaDoor
