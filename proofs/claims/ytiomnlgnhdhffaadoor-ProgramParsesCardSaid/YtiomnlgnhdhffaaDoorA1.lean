/-
  Contracts of program.of, for every operation. Conditions: none but what each theorem names.
-/
import Derived.Test.YtiomnlgnhdhffaaDoorBase
namespace Go.Proofs.YtiomnlgnhdhffaaDoor
open Go.RowKit
set_option linter.unusedVariables false
/-- Sixteen numbers: the limits of an operation. -/
def limV (l : List Int) (b : Bool) : Value := .tuple #[.agg (l.map (Value.int .i64)).toArray, .bool b]

set_option maxRecDepth 100000 in
set_option maxHeartbeats 4000000 in
theorem of_1 (w : World) : Calls Tryd.prog 31 #[.int .i64 1] w fun e w' => e = .returned (limV [0, -1, 1, 0, 0, -1, 0, 0, 0, 511, 512, 15, 0, 3, 3, 15] true) ∧ Below w.heap.size w w' := by
  go_enter Tryd.func31, Tryd.ntmps31
  go_wp2_with (first | ((with_reducible refine gate_dst (N := 84) rfl ?_); go_must (refine wpList_load_row rfl 60 (.tmp 2) rfl w.heap.size rfl 60 #[.int .i64 0, .int .i64 (-1), .int .i64 1, .int .i64 0, .int .i64 0, .int .i64 (-1), .int .i64 0, .int .i64 0, .int .i64 0, .int .i64 511, .int .i64 512, .int .i64 15, .int .i64 0, .int .i64 3, .int .i64 3, .int .i64 15] (0, 0) _ (heap_keep (heap_at rfl _) _) Tryd.underlying60 rfl (by kernel_rfl) ?_)) | ((with_reducible refine gate_op (op := .store 60 (.tmp 2) (.tmp 84)) rfl ?_); go_must (refine wpList_store_same rfl 60 (.tmp 2) (.tmp 84) rfl w.heap.size _ rfl rfl 60 (heap_keep (heap_at rfl _) _) (by kernel_rfl) (by kernel_rfl) ?_)) | go_in)
  exact bodyPost_ret (v := limV [0, -1, 1, 0, 0, -1, 0, 0, 0, 511, 512, 15, 0, 3, 3, 15] true) (results_row_tmp rfl _ _ w.heap.size 60 _ (0, 0) _ _ rfl rfl (heap_keep (heap_at rfl _) _) Tryd.underlying60 rfl (by kernel_rfl)) rfl ⟨rfl, by repeat (first | exact Below.refl _ _ | refine Below.setCell ?_ (by simp) _ | refine Below.alloc ?_ (by simp) _)⟩

set_option maxRecDepth 100000 in
set_option maxHeartbeats 4000000 in
theorem of_2 (w : World) : Calls Tryd.prog 31 #[.int .i64 2] w fun e w' => e = .returned (limV [0, 0, 1, 0, 0, 0, 0, 0, 0, 511, 512, 0, 0, 0, 0, 0] true) ∧ Below w.heap.size w w' := by
  go_enter Tryd.func31, Tryd.ntmps31
  go_wp2_with (first | ((with_reducible refine gate_dst (N := 84) rfl ?_); go_must (refine wpList_load_row rfl 60 (.tmp 2) rfl w.heap.size rfl 60 #[.int .i64 0, .int .i64 0, .int .i64 1, .int .i64 0, .int .i64 0, .int .i64 0, .int .i64 0, .int .i64 0, .int .i64 0, .int .i64 511, .int .i64 512, .int .i64 0, .int .i64 0, .int .i64 0, .int .i64 0, .int .i64 0] (0, 0) _ (heap_keep (heap_at rfl _) _) Tryd.underlying60 rfl (by kernel_rfl) ?_)) | ((with_reducible refine gate_op (op := .store 60 (.tmp 2) (.tmp 84)) rfl ?_); go_must (refine wpList_store_same rfl 60 (.tmp 2) (.tmp 84) rfl w.heap.size _ rfl rfl 60 (heap_keep (heap_at rfl _) _) (by kernel_rfl) (by kernel_rfl) ?_)) | go_in)
  exact bodyPost_ret (v := limV [0, 0, 1, 0, 0, 0, 0, 0, 0, 511, 512, 0, 0, 0, 0, 0] true) (results_row_tmp rfl _ _ w.heap.size 60 _ (0, 0) _ _ rfl rfl (heap_keep (heap_at rfl _) _) Tryd.underlying60 rfl (by kernel_rfl)) rfl ⟨rfl, by repeat (first | exact Below.refl _ _ | refine Below.setCell ?_ (by simp) _ | refine Below.alloc ?_ (by simp) _)⟩

set_option maxRecDepth 100000 in
set_option maxHeartbeats 4000000 in
theorem of_3 (w : World) : Calls Tryd.prog 31 #[.int .i64 3] w fun e w' => e = .returned (limV [0, 0, 1, 0, 0, 0, 0, 0, 0, 511, 512, 0, 0, 0, 3, 0] true) ∧ Below w.heap.size w w' := by
  go_enter Tryd.func31, Tryd.ntmps31
  go_wp2_with (first | ((with_reducible refine gate_dst (N := 84) rfl ?_); go_must (refine wpList_load_row rfl 60 (.tmp 2) rfl w.heap.size rfl 60 #[.int .i64 0, .int .i64 0, .int .i64 1, .int .i64 0, .int .i64 0, .int .i64 0, .int .i64 0, .int .i64 0, .int .i64 0, .int .i64 511, .int .i64 512, .int .i64 0, .int .i64 0, .int .i64 0, .int .i64 3, .int .i64 0] (0, 0) _ (heap_keep (heap_at rfl _) _) Tryd.underlying60 rfl (by kernel_rfl) ?_)) | ((with_reducible refine gate_op (op := .store 60 (.tmp 2) (.tmp 84)) rfl ?_); go_must (refine wpList_store_same rfl 60 (.tmp 2) (.tmp 84) rfl w.heap.size _ rfl rfl 60 (heap_keep (heap_at rfl _) _) (by kernel_rfl) (by kernel_rfl) ?_)) | go_in)
  exact bodyPost_ret (v := limV [0, 0, 1, 0, 0, 0, 0, 0, 0, 511, 512, 0, 0, 0, 3, 0] true) (results_row_tmp rfl _ _ w.heap.size 60 _ (0, 0) _ _ rfl rfl (heap_keep (heap_at rfl _) _) Tryd.underlying60 rfl (by kernel_rfl)) rfl ⟨rfl, by repeat (first | exact Below.refl _ _ | refine Below.setCell ?_ (by simp) _ | refine Below.alloc ?_ (by simp) _)⟩

set_option maxRecDepth 100000 in
set_option maxHeartbeats 4000000 in
theorem of_4 (w : World) : Calls Tryd.prog 31 #[.int .i64 4] w fun e w' => e = .returned (limV [0, 0, 1, 0, 0, 0, 0, 0, 0, 511, 512, 0, 1, 0, 0, 0] true) ∧ Below w.heap.size w w' := by
  go_enter Tryd.func31, Tryd.ntmps31
  go_wp2_with (first | ((with_reducible refine gate_dst (N := 84) rfl ?_); go_must (refine wpList_load_row rfl 60 (.tmp 2) rfl w.heap.size rfl 60 #[.int .i64 0, .int .i64 0, .int .i64 1, .int .i64 0, .int .i64 0, .int .i64 0, .int .i64 0, .int .i64 0, .int .i64 0, .int .i64 511, .int .i64 512, .int .i64 0, .int .i64 1, .int .i64 0, .int .i64 0, .int .i64 0] (0, 0) _ (heap_keep (heap_at rfl _) _) Tryd.underlying60 rfl (by kernel_rfl) ?_)) | ((with_reducible refine gate_op (op := .store 60 (.tmp 2) (.tmp 84)) rfl ?_); go_must (refine wpList_store_same rfl 60 (.tmp 2) (.tmp 84) rfl w.heap.size _ rfl rfl 60 (heap_keep (heap_at rfl _) _) (by kernel_rfl) (by kernel_rfl) ?_)) | go_in)
  exact bodyPost_ret (v := limV [0, 0, 1, 0, 0, 0, 0, 0, 0, 511, 512, 0, 1, 0, 0, 0] true) (results_row_tmp rfl _ _ w.heap.size 60 _ (0, 0) _ _ rfl rfl (heap_keep (heap_at rfl _) _) Tryd.underlying60 rfl (by kernel_rfl)) rfl ⟨rfl, by repeat (first | exact Below.refl _ _ | refine Below.setCell ?_ (by simp) _ | refine Below.alloc ?_ (by simp) _)⟩

set_option maxRecDepth 100000 in
set_option maxHeartbeats 4000000 in
theorem of_bad (op : Int) (h : op < 1 ∨ 12 < op) (w : World) : Calls Tryd.prog 31 #[.int .i64 op] w fun e w' => e = .returned (limV [0, 0, 0, 0, 0, 0, 0, 0, 0, 0, 0, 0, 0, 0, 0, 0] false) ∧ Below w.heap.size w w' := by
  have h1 : (op == 1) = false := by simp; omega
  have h2 : (op == 2) = false := by simp; omega
  have h3 : (op == 3) = false := by simp; omega
  have h4 : (op == 4) = false := by simp; omega
  have h5 : (op == 5) = false := by simp; omega
  have h6 : (op == 6) = false := by simp; omega
  have h7 : (op == 7) = false := by simp; omega
  have h8 : (op == 8) = false := by simp; omega
  have h9 : (op == 9) = false := by simp; omega
  have h10 : (op == 10) = false := by simp; omega
  have h11 : (op == 11) = false := by simp; omega
  have h12 : (op == 12) = false := by simp; omega
  clear h
  go_enter Tryd.func31, Tryd.ntmps31
  go_wp2_with (first | ((with_reducible refine gate_dst (N := 11) rfl ?_); go_must (refine wpList_load_row rfl 60 (.tmp 2) rfl w.heap.size rfl 60 #[.int .i64 0, .int .i64 0, .int .i64 0, .int .i64 0, .int .i64 0, .int .i64 0, .int .i64 0, .int .i64 0, .int .i64 0, .int .i64 0, .int .i64 0, .int .i64 0, .int .i64 0, .int .i64 0, .int .i64 0, .int .i64 0] (0, 0) _ (heap_keep (heap_at rfl _) _) Tryd.underlying60 rfl (by kernel_rfl) ?_)) | ((with_reducible refine gate_op (op := .store 60 (.tmp 2) (.tmp 11)) rfl ?_); go_must (refine wpList_store_same rfl 60 (.tmp 2) (.tmp 11) rfl w.heap.size _ rfl rfl 60 (heap_keep (heap_at rfl _) _) (by kernel_rfl) (by kernel_rfl) ?_)) | go_in)
  exact bodyPost_ret (v := limV [0, 0, 0, 0, 0, 0, 0, 0, 0, 0, 0, 0, 0, 0, 0, 0] false) (results_row_tmp rfl _ _ w.heap.size 60 _ (0, 0) _ _ rfl rfl (heap_keep (heap_at rfl _) _) Tryd.underlying60 rfl (by kernel_rfl)) rfl ⟨rfl, by repeat (first | exact Below.refl _ _ | refine Below.setCell ?_ (by simp) _ | refine Below.alloc ?_ (by simp) _)⟩
end Go.Proofs.YtiomnlgnhdhffaaDoor
