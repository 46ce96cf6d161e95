/-
  The reference's used. Conditions: none but what each theorem names.
-/
import Derived.Test.YtiomnlgnhdhffaaDoorB1
namespace Go.Proofs.YtiomnlgnhdhffaaDoor
open Go.RowKit
set_option linter.unusedVariables false
set_option linter.unusedSimpArgs false
set_option maxRecDepth 100000 in
set_option maxHeartbeats 8000000 in
theorem used21_1 (x1 x2 x3 x4 x5 x6 x7 : Int) (w : World) : Calls Tryd.prog 21 #[insV 1 x1 x2 x3 x4 x5 x6 x7] w fun e w' => e = .returned (insV 1 x1 x2 x3 0 x5 x6 x7) ∧ Below w.heap.size w w' := by
  go_enter Tryd.func21, Tryd.ntmps21
  go_wp2
  exact bodyPost_ret (v := insV 1 x1 x2 x3 0 x5 x6 x7) (results_row rfl _ _ (w.heap.size + 1) 36 _ (0, 0) _ rfl (heap_keep (heap_at (by simp) _) _) Tryd.underlying36 rfl (by kernel_rfl)) rfl ⟨rfl, by repeat (first | exact Below.refl _ _ | refine Below.setCell ?_ (by simp <;> omega) _ | refine Below.alloc ?_ (by simp <;> omega) _)⟩
set_option maxRecDepth 100000 in
set_option maxHeartbeats 8000000 in
theorem used21_2 (x1 x2 x3 x4 x5 x6 x7 : Int) (w : World) : Calls Tryd.prog 21 #[insV 2 x1 x2 x3 x4 x5 x6 x7] w fun e w' => e = .returned (insV 2 x1 x2 0 0 0 0 0) ∧ Below w.heap.size w w' := by
  go_enter Tryd.func21, Tryd.ntmps21
  go_wp2
  exact bodyPost_ret (v := insV 2 x1 x2 0 0 0 0 0) (results_row rfl _ _ (w.heap.size + 1) 36 _ (0, 0) _ rfl (heap_keep (heap_at (by simp) _) _) Tryd.underlying36 rfl (by kernel_rfl)) rfl ⟨rfl, by repeat (first | exact Below.refl _ _ | refine Below.setCell ?_ (by simp <;> omega) _ | refine Below.alloc ?_ (by simp <;> omega) _)⟩
set_option maxRecDepth 100000 in
set_option maxHeartbeats 8000000 in
theorem used21_3 (x1 x2 x3 x4 x5 x6 x7 : Int) (w : World) : Calls Tryd.prog 21 #[insV 3 x1 x2 x3 x4 x5 x6 x7] w fun e w' => e = .returned (insV 3 x1 x2 0 0 0 x6 0) ∧ Below w.heap.size w w' := by
  go_enter Tryd.func21, Tryd.ntmps21
  go_wp2
  exact bodyPost_ret (v := insV 3 x1 x2 0 0 0 x6 0) (results_row rfl _ _ (w.heap.size + 1) 36 _ (0, 0) _ rfl (heap_keep (heap_at (by simp) _) _) Tryd.underlying36 rfl (by kernel_rfl)) rfl ⟨rfl, by repeat (first | exact Below.refl _ _ | refine Below.setCell ?_ (by simp <;> omega) _ | refine Below.alloc ?_ (by simp <;> omega) _)⟩
set_option maxRecDepth 100000 in
set_option maxHeartbeats 8000000 in
theorem used21_4 (x1 x2 x3 x4 x5 x6 x7 : Int) (w : World) : Calls Tryd.prog 21 #[insV 4 x1 x2 x3 x4 x5 x6 x7] w fun e w' => e = .returned (insV 4 x1 x2 0 x4 0 0 0) ∧ Below w.heap.size w w' := by
  go_enter Tryd.func21, Tryd.ntmps21
  go_wp2
  exact bodyPost_ret (v := insV 4 x1 x2 0 x4 0 0 0) (results_row rfl _ _ (w.heap.size + 1) 36 _ (0, 0) _ rfl (heap_keep (heap_at (by simp) _) _) Tryd.underlying36 rfl (by kernel_rfl)) rfl ⟨rfl, by repeat (first | exact Below.refl _ _ | refine Below.setCell ?_ (by simp <;> omega) _ | refine Below.alloc ?_ (by simp <;> omega) _)⟩
set_option maxRecDepth 100000 in
set_option maxHeartbeats 8000000 in
theorem used21_5 (x1 x2 x3 x4 x5 x6 x7 : Int) (w : World) : Calls Tryd.prog 21 #[insV 5 x1 x2 x3 x4 x5 x6 x7] w fun e w' => e = .returned (insV 5 x1 0 x3 0 0 0 0) ∧ Below w.heap.size w w' := by
  go_enter Tryd.func21, Tryd.ntmps21
  go_wp2
  exact bodyPost_ret (v := insV 5 x1 0 x3 0 0 0 0) (results_row rfl _ _ (w.heap.size + 1) 36 _ (0, 0) _ rfl (heap_keep (heap_at (by simp) _) _) Tryd.underlying36 rfl (by kernel_rfl)) rfl ⟨rfl, by repeat (first | exact Below.refl _ _ | refine Below.setCell ?_ (by simp <;> omega) _ | refine Below.alloc ?_ (by simp <;> omega) _)⟩
set_option maxRecDepth 100000 in
set_option maxHeartbeats 8000000 in
theorem used21_6 (x1 x2 x3 x4 x5 x6 x7 : Int) (w : World) : Calls Tryd.prog 21 #[insV 6 x1 x2 x3 x4 x5 x6 x7] w fun e w' => e = .returned (insV 6 x1 0 x3 x4 0 0 0) ∧ Below w.heap.size w w' := by
  go_enter Tryd.func21, Tryd.ntmps21
  go_wp2
  exact bodyPost_ret (v := insV 6 x1 0 x3 x4 0 0 0) (results_row rfl _ _ (w.heap.size + 1) 36 _ (0, 0) _ rfl (heap_keep (heap_at (by simp) _) _) Tryd.underlying36 rfl (by kernel_rfl)) rfl ⟨rfl, by repeat (first | exact Below.refl _ _ | refine Below.setCell ?_ (by simp <;> omega) _ | refine Below.alloc ?_ (by simp <;> omega) _)⟩
set_option maxRecDepth 100000 in
set_option maxHeartbeats 8000000 in
theorem used21_7 (x1 x2 x3 x4 x5 x6 x7 : Int) (w : World) : Calls Tryd.prog 21 #[insV 7 x1 x2 x3 x4 x5 x6 x7] w fun e w' => e = .returned (insV 7 x1 0 x3 0 x5 0 0) ∧ Below w.heap.size w w' := by
  go_enter Tryd.func21, Tryd.ntmps21
  go_wp2
  exact bodyPost_ret (v := insV 7 x1 0 x3 0 x5 0 0) (results_row rfl _ _ (w.heap.size + 1) 36 _ (0, 0) _ rfl (heap_keep (heap_at (by simp) _) _) Tryd.underlying36 rfl (by kernel_rfl)) rfl ⟨rfl, by repeat (first | exact Below.refl _ _ | refine Below.setCell ?_ (by simp <;> omega) _ | refine Below.alloc ?_ (by simp <;> omega) _)⟩
set_option maxRecDepth 100000 in
set_option maxHeartbeats 8000000 in
theorem used21_8 (x1 x2 x3 x4 x5 x6 x7 : Int) (w : World) : Calls Tryd.prog 21 #[insV 8 x1 x2 x3 x4 x5 x6 x7] w fun e w' => e = .returned (insV 8 x1 0 x3 x4 x5 0 0) ∧ Below w.heap.size w w' := by
  go_enter Tryd.func21, Tryd.ntmps21
  go_wp2
  exact bodyPost_ret (v := insV 8 x1 0 x3 x4 x5 0 0) (results_row rfl _ _ (w.heap.size + 1) 36 _ (0, 0) _ rfl (heap_keep (heap_at (by simp) _) _) Tryd.underlying36 rfl (by kernel_rfl)) rfl ⟨rfl, by repeat (first | exact Below.refl _ _ | refine Below.setCell ?_ (by simp <;> omega) _ | refine Below.alloc ?_ (by simp <;> omega) _)⟩
set_option maxRecDepth 100000 in
set_option maxHeartbeats 8000000 in
theorem used21_9 (x1 x2 x3 x4 x5 x6 x7 : Int) (w : World) : Calls Tryd.prog 21 #[insV 9 x1 x2 x3 x4 x5 x6 x7] w fun e w' => e = .returned (insV 9 0 x2 0 0 x5 0 0) ∧ Below w.heap.size w w' := by
  go_enter Tryd.func21, Tryd.ntmps21
  go_wp2
  exact bodyPost_ret (v := insV 9 0 x2 0 0 x5 0 0) (results_row rfl _ _ (w.heap.size + 1) 36 _ (0, 0) _ rfl (heap_keep (heap_at (by simp) _) _) Tryd.underlying36 rfl (by kernel_rfl)) rfl ⟨rfl, by repeat (first | exact Below.refl _ _ | refine Below.setCell ?_ (by simp <;> omega) _ | refine Below.alloc ?_ (by simp <;> omega) _)⟩
set_option maxRecDepth 100000 in
set_option maxHeartbeats 8000000 in
theorem used21_10 (x1 x2 x3 x4 x5 x6 x7 : Int) (w : World) : Calls Tryd.prog 21 #[insV 10 x1 x2 x3 x4 x5 x6 x7] w fun e w' => e = .returned (insV 10 0 0 0 0 x5 0 0) ∧ Below w.heap.size w w' := by
  go_enter Tryd.func21, Tryd.ntmps21
  go_wp2
  exact bodyPost_ret (v := insV 10 0 0 0 0 x5 0 0) (results_row rfl _ _ (w.heap.size + 1) 36 _ (0, 0) _ rfl (heap_keep (heap_at (by simp) _) _) Tryd.underlying36 rfl (by kernel_rfl)) rfl ⟨rfl, by repeat (first | exact Below.refl _ _ | refine Below.setCell ?_ (by simp <;> omega) _ | refine Below.alloc ?_ (by simp <;> omega) _)⟩
set_option maxRecDepth 100000 in
set_option maxHeartbeats 8000000 in
theorem used21_11 (x1 x2 x3 x4 x5 x6 x7 : Int) (w : World) : Calls Tryd.prog 21 #[insV 11 x1 x2 x3 x4 x5 x6 x7] w fun e w' => e = .returned (insV 11 0 0 0 x4 0 0 0) ∧ Below w.heap.size w w' := by
  go_enter Tryd.func21, Tryd.ntmps21
  go_wp2
  exact bodyPost_ret (v := insV 11 0 0 0 x4 0 0 0) (results_row rfl _ _ (w.heap.size + 1) 36 _ (0, 0) _ rfl (heap_keep (heap_at (by simp) _) _) Tryd.underlying36 rfl (by kernel_rfl)) rfl ⟨rfl, by repeat (first | exact Below.refl _ _ | refine Below.setCell ?_ (by simp <;> omega) _ | refine Below.alloc ?_ (by simp <;> omega) _)⟩
set_option maxRecDepth 100000 in
set_option maxHeartbeats 8000000 in
theorem used21_12 (x1 x2 x3 x4 x5 x6 x7 : Int) (w : World) : Calls Tryd.prog 21 #[insV 12 x1 x2 x3 x4 x5 x6 x7] w fun e w' => e = .returned (insV 12 0 0 0 0 0 0 0) ∧ Below w.heap.size w w' := by
  go_enter Tryd.func21, Tryd.ntmps21
  go_wp2
  exact bodyPost_ret (v := insV 12 0 0 0 0 0 0 0) (results_row rfl _ _ (w.heap.size + 1) 36 _ (0, 0) _ rfl (heap_keep (heap_at (by simp) _) _) Tryd.underlying36 rfl (by kernel_rfl)) rfl ⟨rfl, by repeat (first | exact Below.refl _ _ | refine Below.setCell ?_ (by simp <;> omega) _ | refine Below.alloc ?_ (by simp <;> omega) _)⟩

/-- The instruction with the fields alone that its operation uses. -/
def usedI (x : Ins) : Ins := if x.op = 1 then ⟨1, x.page, x.count, x.index, 0, x.file, x.prot, x.flags⟩ else if x.op = 2 then ⟨2, x.page, x.count, 0, 0, 0, 0, 0⟩ else if x.op = 3 then ⟨3, x.page, x.count, 0, 0, 0, x.prot, 0⟩ else if x.op = 4 then ⟨4, x.page, x.count, 0, x.value, 0, 0, 0⟩ else if x.op = 5 then ⟨5, x.page, 0, x.index, 0, 0, 0, 0⟩ else if x.op = 6 then ⟨6, x.page, 0, x.index, x.value, 0, 0, 0⟩ else if x.op = 7 then ⟨7, x.page, 0, x.index, 0, x.file, 0, 0⟩ else if x.op = 8 then ⟨8, x.page, 0, x.index, x.value, x.file, 0, 0⟩ else if x.op = 9 then ⟨9, 0, x.count, 0, 0, x.file, 0, 0⟩ else if x.op = 10 then ⟨10, 0, 0, 0, 0, x.file, 0, 0⟩ else if x.op = 11 then ⟨11, 0, 0, 0, x.value, 0, 0, 0⟩ else ⟨x.op, 0, 0, 0, 0, 0, 0, 0⟩
theorem used21 (x : Ins) (h1 : 1 ≤ x.op) (h2 : x.op ≤ 12) (w : World) : Calls Tryd.prog 21 #[x.V] w fun e w' => e = .returned (usedI x).V ∧ Below w.heap.size w w' := by
  obtain ⟨x0, x1, x2, x3, x4, x5, x6, x7⟩ := x
  have h : x0 = 1 ∨ x0 = 2 ∨ x0 = 3 ∨ x0 = 4 ∨ x0 = 5 ∨ x0 = 6 ∨ x0 = 7 ∨ x0 = 8 ∨ x0 = 9 ∨ x0 = 10 ∨ x0 = 11 ∨ x0 = 12 := by simp only at h1 h2; omega
  rcases h with rfl | rfl | rfl | rfl | rfl | rfl | rfl | rfl | rfl | rfl | rfl | rfl
  · exact used21_1 x1 x2 x3 x4 x5 x6 x7 w
  · exact used21_2 x1 x2 x3 x4 x5 x6 x7 w
  · exact used21_3 x1 x2 x3 x4 x5 x6 x7 w
  · exact used21_4 x1 x2 x3 x4 x5 x6 x7 w
  · exact used21_5 x1 x2 x3 x4 x5 x6 x7 w
  · exact used21_6 x1 x2 x3 x4 x5 x6 x7 w
  · exact used21_7 x1 x2 x3 x4 x5 x6 x7 w
  · exact used21_8 x1 x2 x3 x4 x5 x6 x7 w
  · exact used21_9 x1 x2 x3 x4 x5 x6 x7 w
  · exact used21_10 x1 x2 x3 x4 x5 x6 x7 w
  · exact used21_11 x1 x2 x3 x4 x5 x6 x7 w
  · exact used21_12 x1 x2 x3 x4 x5 x6 x7 w
end Go.Proofs.YtiomnlgnhdhffaaDoor
