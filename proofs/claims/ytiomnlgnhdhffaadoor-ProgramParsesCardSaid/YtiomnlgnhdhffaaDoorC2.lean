/-
  The reference's ranges and used. Conditions: none but what each theorem names.
-/
import Derived.Test.YtiomnlgnhdhffaaDoorC1
namespace Go.Proofs.YtiomnlgnhdhffaaDoor
open Go.RowKit
set_option linter.unusedVariables false
set_option linter.unusedSimpArgs false
/-- What ranges answers. -/
def rngR (x : Ins) : Bool :=
  let file := inR x.file 0 3
  let place := file && (inR x.page 0 15 && inR x.index 0 31)
  if x.op = 7 then place else if x.op = 8 then place && inR x.value 0 255 else if x.op = 9 then file && inR x.count 0 16 else if x.op = 10 then file
  else if x.op = 11 then inR x.value 0 48 else if x.op = 12 then true else memR x
set_option maxRecDepth 100000 in
set_option maxHeartbeats 8000000 in
theorem ranges22_1 (x1 x2 x3 x4 x5 x6 x7 : Int) (w : World) : Calls Tryd.prog 22 #[insV 1 x1 x2 x3 x4 x5 x6 x7] w fun e w' => e = .returned (.bool (rngR ⟨1, x1, x2, x3, x4, x5, x6, x7⟩)) ∧ Below w.heap.size w w' := by
  obtain ⟨R, hR⟩ : ∃ R, R = rngR ⟨1, x1, x2, x3, x4, x5, x6, x7⟩ := ⟨_, rfl⟩
  rw [← hR]
  have HR := Kp.mk hR
  clear hR
  obtain ⟨b0, hb0⟩ : ∃ b, b = inR x5 0 3 := ⟨_, rfl⟩
  have H0 := Kp.mk hb0
  clear hb0
  obtain ⟨b1, hb1⟩ : ∃ b, b = inR x1 0 15 := ⟨_, rfl⟩
  have H1 := Kp.mk hb1
  clear hb1
  obtain ⟨b2, hb2⟩ : ∃ b, b = inR x3 0 31 := ⟨_, rfl⟩
  have H2 := Kp.mk hb2
  clear hb2
  go_enter Tryd.func22, Tryd.ntmps22
  go_wp2_with (first | (go_at_call 20; first | (with_reducible refine (in20 x5 0 3 _).mono ?_; rintro e w' ⟨rfl, rfl⟩; rw [← H0.out]) | (with_reducible refine (in20 x1 0 15 _).mono ?_; rintro e w' ⟨rfl, rfl⟩; rw [← H1.out]) | (with_reducible refine (in20 x3 0 31 _).mono ?_; rintro e w' ⟨rfl, rfl⟩; rw [← H2.out])) | (go_at_call 34; with_reducible refine (memory34_1 x1 x2 x3 x4 x5 x6 x7 _).mono ?_; rintro e w' ⟨rfl, hb⟩; rw [show memR ⟨1, x1, x2, x3, x4, x5, x6, x7⟩ = R by rw [HR.out]; simp [rngR]]; have HB := Kp.mk (((Below.refl w.heap.size w).alloc (Nat.le_refl _) _).trans (hb.mono (by simp))); clear hb))
  all_goals
    go_ret
    exact ⟨rfl, HB.out⟩
set_option maxRecDepth 100000 in
set_option maxHeartbeats 8000000 in
theorem ranges22_2 (x1 x2 x3 x4 x5 x6 x7 : Int) (w : World) : Calls Tryd.prog 22 #[insV 2 x1 x2 x3 x4 x5 x6 x7] w fun e w' => e = .returned (.bool (rngR ⟨2, x1, x2, x3, x4, x5, x6, x7⟩)) ∧ Below w.heap.size w w' := by
  obtain ⟨R, hR⟩ : ∃ R, R = rngR ⟨2, x1, x2, x3, x4, x5, x6, x7⟩ := ⟨_, rfl⟩
  rw [← hR]
  have HR := Kp.mk hR
  clear hR
  obtain ⟨b0, hb0⟩ : ∃ b, b = inR x5 0 3 := ⟨_, rfl⟩
  have H0 := Kp.mk hb0
  clear hb0
  obtain ⟨b1, hb1⟩ : ∃ b, b = inR x1 0 15 := ⟨_, rfl⟩
  have H1 := Kp.mk hb1
  clear hb1
  obtain ⟨b2, hb2⟩ : ∃ b, b = inR x3 0 31 := ⟨_, rfl⟩
  have H2 := Kp.mk hb2
  clear hb2
  go_enter Tryd.func22, Tryd.ntmps22
  go_wp2_with (first | (go_at_call 20; first | (with_reducible refine (in20 x5 0 3 _).mono ?_; rintro e w' ⟨rfl, rfl⟩; rw [← H0.out]) | (with_reducible refine (in20 x1 0 15 _).mono ?_; rintro e w' ⟨rfl, rfl⟩; rw [← H1.out]) | (with_reducible refine (in20 x3 0 31 _).mono ?_; rintro e w' ⟨rfl, rfl⟩; rw [← H2.out])) | (go_at_call 34; with_reducible refine (memory34_2 x1 x2 x3 x4 x5 x6 x7 _).mono ?_; rintro e w' ⟨rfl, hb⟩; rw [show memR ⟨2, x1, x2, x3, x4, x5, x6, x7⟩ = R by rw [HR.out]; simp [rngR]]; have HB := Kp.mk (((Below.refl w.heap.size w).alloc (Nat.le_refl _) _).trans (hb.mono (by simp))); clear hb))
  all_goals
    go_ret
    exact ⟨rfl, HB.out⟩
set_option maxRecDepth 100000 in
set_option maxHeartbeats 8000000 in
theorem ranges22_3 (x1 x2 x3 x4 x5 x6 x7 : Int) (w : World) : Calls Tryd.prog 22 #[insV 3 x1 x2 x3 x4 x5 x6 x7] w fun e w' => e = .returned (.bool (rngR ⟨3, x1, x2, x3, x4, x5, x6, x7⟩)) ∧ Below w.heap.size w w' := by
  obtain ⟨R, hR⟩ : ∃ R, R = rngR ⟨3, x1, x2, x3, x4, x5, x6, x7⟩ := ⟨_, rfl⟩
  rw [← hR]
  have HR := Kp.mk hR
  clear hR
  obtain ⟨b0, hb0⟩ : ∃ b, b = inR x5 0 3 := ⟨_, rfl⟩
  have H0 := Kp.mk hb0
  clear hb0
  obtain ⟨b1, hb1⟩ : ∃ b, b = inR x1 0 15 := ⟨_, rfl⟩
  have H1 := Kp.mk hb1
  clear hb1
  obtain ⟨b2, hb2⟩ : ∃ b, b = inR x3 0 31 := ⟨_, rfl⟩
  have H2 := Kp.mk hb2
  clear hb2
  go_enter Tryd.func22, Tryd.ntmps22
  go_wp2_with (first | (go_at_call 20; first | (with_reducible refine (in20 x5 0 3 _).mono ?_; rintro e w' ⟨rfl, rfl⟩; rw [← H0.out]) | (with_reducible refine (in20 x1 0 15 _).mono ?_; rintro e w' ⟨rfl, rfl⟩; rw [← H1.out]) | (with_reducible refine (in20 x3 0 31 _).mono ?_; rintro e w' ⟨rfl, rfl⟩; rw [← H2.out])) | (go_at_call 34; with_reducible refine (memory34_3 x1 x2 x3 x4 x5 x6 x7 _).mono ?_; rintro e w' ⟨rfl, hb⟩; rw [show memR ⟨3, x1, x2, x3, x4, x5, x6, x7⟩ = R by rw [HR.out]; simp [rngR]]; have HB := Kp.mk (((Below.refl w.heap.size w).alloc (Nat.le_refl _) _).trans (hb.mono (by simp))); clear hb))
  all_goals
    go_ret
    exact ⟨rfl, HB.out⟩
set_option maxRecDepth 100000 in
set_option maxHeartbeats 8000000 in
theorem ranges22_4 (x1 x2 x3 x4 x5 x6 x7 : Int) (w : World) : Calls Tryd.prog 22 #[insV 4 x1 x2 x3 x4 x5 x6 x7] w fun e w' => e = .returned (.bool (rngR ⟨4, x1, x2, x3, x4, x5, x6, x7⟩)) ∧ Below w.heap.size w w' := by
  obtain ⟨R, hR⟩ : ∃ R, R = rngR ⟨4, x1, x2, x3, x4, x5, x6, x7⟩ := ⟨_, rfl⟩
  rw [← hR]
  have HR := Kp.mk hR
  clear hR
  obtain ⟨b0, hb0⟩ : ∃ b, b = inR x5 0 3 := ⟨_, rfl⟩
  have H0 := Kp.mk hb0
  clear hb0
  obtain ⟨b1, hb1⟩ : ∃ b, b = inR x1 0 15 := ⟨_, rfl⟩
  have H1 := Kp.mk hb1
  clear hb1
  obtain ⟨b2, hb2⟩ : ∃ b, b = inR x3 0 31 := ⟨_, rfl⟩
  have H2 := Kp.mk hb2
  clear hb2
  go_enter Tryd.func22, Tryd.ntmps22
  go_wp2_with (first | (go_at_call 20; first | (with_reducible refine (in20 x5 0 3 _).mono ?_; rintro e w' ⟨rfl, rfl⟩; rw [← H0.out]) | (with_reducible refine (in20 x1 0 15 _).mono ?_; rintro e w' ⟨rfl, rfl⟩; rw [← H1.out]) | (with_reducible refine (in20 x3 0 31 _).mono ?_; rintro e w' ⟨rfl, rfl⟩; rw [← H2.out])) | (go_at_call 34; with_reducible refine (memory34_4 x1 x2 x3 x4 x5 x6 x7 _).mono ?_; rintro e w' ⟨rfl, hb⟩; rw [show memR ⟨4, x1, x2, x3, x4, x5, x6, x7⟩ = R by rw [HR.out]; simp [rngR]]; have HB := Kp.mk (((Below.refl w.heap.size w).alloc (Nat.le_refl _) _).trans (hb.mono (by simp))); clear hb))
  all_goals
    go_ret
    exact ⟨rfl, HB.out⟩
set_option maxRecDepth 100000 in
set_option maxHeartbeats 8000000 in
theorem ranges22_5 (x1 x2 x3 x4 x5 x6 x7 : Int) (w : World) : Calls Tryd.prog 22 #[insV 5 x1 x2 x3 x4 x5 x6 x7] w fun e w' => e = .returned (.bool (rngR ⟨5, x1, x2, x3, x4, x5, x6, x7⟩)) ∧ Below w.heap.size w w' := by
  obtain ⟨R, hR⟩ : ∃ R, R = rngR ⟨5, x1, x2, x3, x4, x5, x6, x7⟩ := ⟨_, rfl⟩
  rw [← hR]
  have HR := Kp.mk hR
  clear hR
  obtain ⟨b0, hb0⟩ : ∃ b, b = inR x5 0 3 := ⟨_, rfl⟩
  have H0 := Kp.mk hb0
  clear hb0
  obtain ⟨b1, hb1⟩ : ∃ b, b = inR x1 0 15 := ⟨_, rfl⟩
  have H1 := Kp.mk hb1
  clear hb1
  obtain ⟨b2, hb2⟩ : ∃ b, b = inR x3 0 31 := ⟨_, rfl⟩
  have H2 := Kp.mk hb2
  clear hb2
  go_enter Tryd.func22, Tryd.ntmps22
  go_wp2_with (first | (go_at_call 20; first | (with_reducible refine (in20 x5 0 3 _).mono ?_; rintro e w' ⟨rfl, rfl⟩; rw [← H0.out]) | (with_reducible refine (in20 x1 0 15 _).mono ?_; rintro e w' ⟨rfl, rfl⟩; rw [← H1.out]) | (with_reducible refine (in20 x3 0 31 _).mono ?_; rintro e w' ⟨rfl, rfl⟩; rw [← H2.out])) | (go_at_call 34; with_reducible refine (memory34_5 x1 x2 x3 x4 x5 x6 x7 _).mono ?_; rintro e w' ⟨rfl, hb⟩; rw [show memR ⟨5, x1, x2, x3, x4, x5, x6, x7⟩ = R by rw [HR.out]; simp [rngR]]; have HB := Kp.mk (((Below.refl w.heap.size w).alloc (Nat.le_refl _) _).trans (hb.mono (by simp))); clear hb))
  all_goals
    go_ret
    exact ⟨rfl, HB.out⟩
set_option maxRecDepth 100000 in
set_option maxHeartbeats 8000000 in
theorem ranges22_6 (x1 x2 x3 x4 x5 x6 x7 : Int) (w : World) : Calls Tryd.prog 22 #[insV 6 x1 x2 x3 x4 x5 x6 x7] w fun e w' => e = .returned (.bool (rngR ⟨6, x1, x2, x3, x4, x5, x6, x7⟩)) ∧ Below w.heap.size w w' := by
  obtain ⟨R, hR⟩ : ∃ R, R = rngR ⟨6, x1, x2, x3, x4, x5, x6, x7⟩ := ⟨_, rfl⟩
  rw [← hR]
  have HR := Kp.mk hR
  clear hR
  obtain ⟨b0, hb0⟩ : ∃ b, b = inR x5 0 3 := ⟨_, rfl⟩
  have H0 := Kp.mk hb0
  clear hb0
  obtain ⟨b1, hb1⟩ : ∃ b, b = inR x1 0 15 := ⟨_, rfl⟩
  have H1 := Kp.mk hb1
  clear hb1
  obtain ⟨b2, hb2⟩ : ∃ b, b = inR x3 0 31 := ⟨_, rfl⟩
  have H2 := Kp.mk hb2
  clear hb2
  go_enter Tryd.func22, Tryd.ntmps22
  go_wp2_with (first | (go_at_call 20; first | (with_reducible refine (in20 x5 0 3 _).mono ?_; rintro e w' ⟨rfl, rfl⟩; rw [← H0.out]) | (with_reducible refine (in20 x1 0 15 _).mono ?_; rintro e w' ⟨rfl, rfl⟩; rw [← H1.out]) | (with_reducible refine (in20 x3 0 31 _).mono ?_; rintro e w' ⟨rfl, rfl⟩; rw [← H2.out])) | (go_at_call 34; with_reducible refine (memory34_6 x1 x2 x3 x4 x5 x6 x7 _).mono ?_; rintro e w' ⟨rfl, hb⟩; rw [show memR ⟨6, x1, x2, x3, x4, x5, x6, x7⟩ = R by rw [HR.out]; simp [rngR]]; have HB := Kp.mk (((Below.refl w.heap.size w).alloc (Nat.le_refl _) _).trans (hb.mono (by simp))); clear hb))
  all_goals
    go_ret
    exact ⟨rfl, HB.out⟩
set_option maxRecDepth 100000 in
set_option maxHeartbeats 8000000 in
theorem ranges22_7 (x1 x2 x3 x4 x5 x6 x7 : Int) (w : World) : Calls Tryd.prog 22 #[insV 7 x1 x2 x3 x4 x5 x6 x7] w fun e w' => e = .returned (.bool (rngR ⟨7, x1, x2, x3, x4, x5, x6, x7⟩)) ∧ Below w.heap.size w w' := by
  obtain ⟨R, hR⟩ : ∃ R, R = rngR ⟨7, x1, x2, x3, x4, x5, x6, x7⟩ := ⟨_, rfl⟩
  rw [← hR]
  have HR := Kp.mk hR
  clear hR
  obtain ⟨b0, hb0⟩ : ∃ b, b = inR x5 0 3 := ⟨_, rfl⟩
  have H0 := Kp.mk hb0
  clear hb0
  obtain ⟨b1, hb1⟩ : ∃ b, b = inR x1 0 15 := ⟨_, rfl⟩
  have H1 := Kp.mk hb1
  clear hb1
  obtain ⟨b2, hb2⟩ : ∃ b, b = inR x3 0 31 := ⟨_, rfl⟩
  have H2 := Kp.mk hb2
  clear hb2
  go_enter Tryd.func22, Tryd.ntmps22
  go_wp2_with (go_at_call 20; first | (with_reducible refine (in20 x5 0 3 _).mono ?_; rintro e w' ⟨rfl, rfl⟩; rw [← H0.out]) | (with_reducible refine (in20 x1 0 15 _).mono ?_; rintro e w' ⟨rfl, rfl⟩; rw [← H1.out]) | (with_reducible refine (in20 x3 0 31 _).mono ?_; rintro e w' ⟨rfl, rfl⟩; rw [← H2.out]))
  all_goals
    go_ret
    exact ⟨congrArg (fun b => Ending.returned (Value.bool b)) (by rw [HR.out]; simp [rngR, ← H0.out, ← H1.out, ← H2.out, *]), (Below.refl _ _).alloc (Nat.le_refl _) _⟩
set_option maxRecDepth 100000 in
set_option maxHeartbeats 8000000 in
theorem ranges22_8 (x1 x2 x3 x4 x5 x6 x7 : Int) (w : World) : Calls Tryd.prog 22 #[insV 8 x1 x2 x3 x4 x5 x6 x7] w fun e w' => e = .returned (.bool (rngR ⟨8, x1, x2, x3, x4, x5, x6, x7⟩)) ∧ Below w.heap.size w w' := by
  obtain ⟨R, hR⟩ : ∃ R, R = rngR ⟨8, x1, x2, x3, x4, x5, x6, x7⟩ := ⟨_, rfl⟩
  rw [← hR]
  have HR := Kp.mk hR
  clear hR
  obtain ⟨b0, hb0⟩ : ∃ b, b = inR x5 0 3 := ⟨_, rfl⟩
  have H0 := Kp.mk hb0
  clear hb0
  obtain ⟨b1, hb1⟩ : ∃ b, b = inR x1 0 15 := ⟨_, rfl⟩
  have H1 := Kp.mk hb1
  clear hb1
  obtain ⟨b2, hb2⟩ : ∃ b, b = inR x3 0 31 := ⟨_, rfl⟩
  have H2 := Kp.mk hb2
  clear hb2
  obtain ⟨b3, hb3⟩ : ∃ b, b = inR x4 0 255 := ⟨_, rfl⟩
  have H3 := Kp.mk hb3
  clear hb3
  go_enter Tryd.func22, Tryd.ntmps22
  go_wp2_with (go_at_call 20; first | (with_reducible refine (in20 x5 0 3 _).mono ?_; rintro e w' ⟨rfl, rfl⟩; rw [← H0.out]) | (with_reducible refine (in20 x1 0 15 _).mono ?_; rintro e w' ⟨rfl, rfl⟩; rw [← H1.out]) | (with_reducible refine (in20 x3 0 31 _).mono ?_; rintro e w' ⟨rfl, rfl⟩; rw [← H2.out]) | (with_reducible refine (in20 x4 0 255 _).mono ?_; rintro e w' ⟨rfl, rfl⟩; rw [← H3.out]))
  all_goals
    go_ret
    exact ⟨congrArg (fun b => Ending.returned (Value.bool b)) (by rw [HR.out]; simp [rngR, ← H0.out, ← H1.out, ← H2.out, ← H3.out, *]), (Below.refl _ _).alloc (Nat.le_refl _) _⟩
set_option maxRecDepth 100000 in
set_option maxHeartbeats 8000000 in
theorem ranges22_9 (x1 x2 x3 x4 x5 x6 x7 : Int) (w : World) : Calls Tryd.prog 22 #[insV 9 x1 x2 x3 x4 x5 x6 x7] w fun e w' => e = .returned (.bool (rngR ⟨9, x1, x2, x3, x4, x5, x6, x7⟩)) ∧ Below w.heap.size w w' := by
  obtain ⟨R, hR⟩ : ∃ R, R = rngR ⟨9, x1, x2, x3, x4, x5, x6, x7⟩ := ⟨_, rfl⟩
  rw [← hR]
  have HR := Kp.mk hR
  clear hR
  obtain ⟨b0, hb0⟩ : ∃ b, b = inR x5 0 3 := ⟨_, rfl⟩
  have H0 := Kp.mk hb0
  clear hb0
  obtain ⟨b1, hb1⟩ : ∃ b, b = inR x1 0 15 := ⟨_, rfl⟩
  have H1 := Kp.mk hb1
  clear hb1
  obtain ⟨b2, hb2⟩ : ∃ b, b = inR x3 0 31 := ⟨_, rfl⟩
  have H2 := Kp.mk hb2
  clear hb2
  obtain ⟨b3, hb3⟩ : ∃ b, b = inR x2 0 16 := ⟨_, rfl⟩
  have H3 := Kp.mk hb3
  clear hb3
  go_enter Tryd.func22, Tryd.ntmps22
  go_wp2_with (go_at_call 20; first | (with_reducible refine (in20 x5 0 3 _).mono ?_; rintro e w' ⟨rfl, rfl⟩; rw [← H0.out]) | (with_reducible refine (in20 x1 0 15 _).mono ?_; rintro e w' ⟨rfl, rfl⟩; rw [← H1.out]) | (with_reducible refine (in20 x3 0 31 _).mono ?_; rintro e w' ⟨rfl, rfl⟩; rw [← H2.out]) | (with_reducible refine (in20 x2 0 16 _).mono ?_; rintro e w' ⟨rfl, rfl⟩; rw [← H3.out]))
  all_goals
    go_ret
    exact ⟨congrArg (fun b => Ending.returned (Value.bool b)) (by rw [HR.out]; simp [rngR, ← H0.out, ← H1.out, ← H2.out, ← H3.out, *]), (Below.refl _ _).alloc (Nat.le_refl _) _⟩
set_option maxRecDepth 100000 in
set_option maxHeartbeats 8000000 in
theorem ranges22_10 (x1 x2 x3 x4 x5 x6 x7 : Int) (w : World) : Calls Tryd.prog 22 #[insV 10 x1 x2 x3 x4 x5 x6 x7] w fun e w' => e = .returned (.bool (rngR ⟨10, x1, x2, x3, x4, x5, x6, x7⟩)) ∧ Below w.heap.size w w' := by
  obtain ⟨R, hR⟩ : ∃ R, R = rngR ⟨10, x1, x2, x3, x4, x5, x6, x7⟩ := ⟨_, rfl⟩
  rw [← hR]
  have HR := Kp.mk hR
  clear hR
  obtain ⟨b0, hb0⟩ : ∃ b, b = inR x5 0 3 := ⟨_, rfl⟩
  have H0 := Kp.mk hb0
  clear hb0
  obtain ⟨b1, hb1⟩ : ∃ b, b = inR x1 0 15 := ⟨_, rfl⟩
  have H1 := Kp.mk hb1
  clear hb1
  obtain ⟨b2, hb2⟩ : ∃ b, b = inR x3 0 31 := ⟨_, rfl⟩
  have H2 := Kp.mk hb2
  clear hb2
  go_enter Tryd.func22, Tryd.ntmps22
  go_wp2_with (go_at_call 20; first | (with_reducible refine (in20 x5 0 3 _).mono ?_; rintro e w' ⟨rfl, rfl⟩; rw [← H0.out]) | (with_reducible refine (in20 x1 0 15 _).mono ?_; rintro e w' ⟨rfl, rfl⟩; rw [← H1.out]) | (with_reducible refine (in20 x3 0 31 _).mono ?_; rintro e w' ⟨rfl, rfl⟩; rw [← H2.out]))
  all_goals
    go_ret
    exact ⟨congrArg (fun b => Ending.returned (Value.bool b)) (by rw [HR.out]; simp [rngR, ← H0.out, ← H1.out, ← H2.out, *]), (Below.refl _ _).alloc (Nat.le_refl _) _⟩
set_option maxRecDepth 100000 in
set_option maxHeartbeats 8000000 in
theorem ranges22_11 (x1 x2 x3 x4 x5 x6 x7 : Int) (w : World) : Calls Tryd.prog 22 #[insV 11 x1 x2 x3 x4 x5 x6 x7] w fun e w' => e = .returned (.bool (rngR ⟨11, x1, x2, x3, x4, x5, x6, x7⟩)) ∧ Below w.heap.size w w' := by
  obtain ⟨R, hR⟩ : ∃ R, R = rngR ⟨11, x1, x2, x3, x4, x5, x6, x7⟩ := ⟨_, rfl⟩
  rw [← hR]
  have HR := Kp.mk hR
  clear hR
  obtain ⟨b0, hb0⟩ : ∃ b, b = inR x5 0 3 := ⟨_, rfl⟩
  have H0 := Kp.mk hb0
  clear hb0
  obtain ⟨b1, hb1⟩ : ∃ b, b = inR x1 0 15 := ⟨_, rfl⟩
  have H1 := Kp.mk hb1
  clear hb1
  obtain ⟨b2, hb2⟩ : ∃ b, b = inR x3 0 31 := ⟨_, rfl⟩
  have H2 := Kp.mk hb2
  clear hb2
  obtain ⟨b3, hb3⟩ : ∃ b, b = inR x4 0 48 := ⟨_, rfl⟩
  have H3 := Kp.mk hb3
  clear hb3
  go_enter Tryd.func22, Tryd.ntmps22
  go_wp2_with (go_at_call 20; first | (with_reducible refine (in20 x5 0 3 _).mono ?_; rintro e w' ⟨rfl, rfl⟩; rw [← H0.out]) | (with_reducible refine (in20 x1 0 15 _).mono ?_; rintro e w' ⟨rfl, rfl⟩; rw [← H1.out]) | (with_reducible refine (in20 x3 0 31 _).mono ?_; rintro e w' ⟨rfl, rfl⟩; rw [← H2.out]) | (with_reducible refine (in20 x4 0 48 _).mono ?_; rintro e w' ⟨rfl, rfl⟩; rw [← H3.out]))
  all_goals
    go_ret
    exact ⟨congrArg (fun b => Ending.returned (Value.bool b)) (by rw [HR.out]; simp [rngR, ← H0.out, ← H1.out, ← H2.out, ← H3.out, *]), (Below.refl _ _).alloc (Nat.le_refl _) _⟩
set_option maxRecDepth 100000 in
set_option maxHeartbeats 8000000 in
theorem ranges22_12 (x1 x2 x3 x4 x5 x6 x7 : Int) (w : World) : Calls Tryd.prog 22 #[insV 12 x1 x2 x3 x4 x5 x6 x7] w fun e w' => e = .returned (.bool (rngR ⟨12, x1, x2, x3, x4, x5, x6, x7⟩)) ∧ Below w.heap.size w w' := by
  obtain ⟨R, hR⟩ : ∃ R, R = rngR ⟨12, x1, x2, x3, x4, x5, x6, x7⟩ := ⟨_, rfl⟩
  rw [← hR]
  have HR := Kp.mk hR
  clear hR
  obtain ⟨b0, hb0⟩ : ∃ b, b = inR x5 0 3 := ⟨_, rfl⟩
  have H0 := Kp.mk hb0
  clear hb0
  obtain ⟨b1, hb1⟩ : ∃ b, b = inR x1 0 15 := ⟨_, rfl⟩
  have H1 := Kp.mk hb1
  clear hb1
  obtain ⟨b2, hb2⟩ : ∃ b, b = inR x3 0 31 := ⟨_, rfl⟩
  have H2 := Kp.mk hb2
  clear hb2
  go_enter Tryd.func22, Tryd.ntmps22
  go_wp2_with (go_at_call 20; first | (with_reducible refine (in20 x5 0 3 _).mono ?_; rintro e w' ⟨rfl, rfl⟩; rw [← H0.out]) | (with_reducible refine (in20 x1 0 15 _).mono ?_; rintro e w' ⟨rfl, rfl⟩; rw [← H1.out]) | (with_reducible refine (in20 x3 0 31 _).mono ?_; rintro e w' ⟨rfl, rfl⟩; rw [← H2.out]))
  all_goals
    go_ret
    exact ⟨congrArg (fun b => Ending.returned (Value.bool b)) (by rw [HR.out]; simp [rngR, ← H0.out, ← H1.out, ← H2.out, *]), (Below.refl _ _).alloc (Nat.le_refl _) _⟩

theorem ranges22 (x : Ins) (h1 : 1 ≤ x.op) (h2 : x.op ≤ 12) (w : World) : Calls Tryd.prog 22 #[x.V] w fun e w' => e = .returned (.bool (rngR x)) ∧ Below w.heap.size w w' := by
  obtain ⟨x0, x1, x2, x3, x4, x5, x6, x7⟩ := x
  have h : x0 = 1 ∨ x0 = 2 ∨ x0 = 3 ∨ x0 = 4 ∨ x0 = 5 ∨ x0 = 6 ∨ x0 = 7 ∨ x0 = 8 ∨ x0 = 9 ∨ x0 = 10 ∨ x0 = 11 ∨ x0 = 12 := by simp only at h1 h2; omega
  rcases h with rfl | rfl | rfl | rfl | rfl | rfl | rfl | rfl | rfl | rfl | rfl | rfl
  · exact ranges22_1 x1 x2 x3 x4 x5 x6 x7 w
  · exact ranges22_2 x1 x2 x3 x4 x5 x6 x7 w
  · exact ranges22_3 x1 x2 x3 x4 x5 x6 x7 w
  · exact ranges22_4 x1 x2 x3 x4 x5 x6 x7 w
  · exact ranges22_5 x1 x2 x3 x4 x5 x6 x7 w
  · exact ranges22_6 x1 x2 x3 x4 x5 x6 x7 w
  · exact ranges22_7 x1 x2 x3 x4 x5 x6 x7 w
  · exact ranges22_8 x1 x2 x3 x4 x5 x6 x7 w
  · exact ranges22_9 x1 x2 x3 x4 x5 x6 x7 w
  · exact ranges22_10 x1 x2 x3 x4 x5 x6 x7 w
  · exact ranges22_11 x1 x2 x3 x4 x5 x6 x7 w
  · exact ranges22_12 x1 x2 x3 x4 x5 x6 x7 w
end Go.Proofs.YtiomnlgnhdhffaaDoor
