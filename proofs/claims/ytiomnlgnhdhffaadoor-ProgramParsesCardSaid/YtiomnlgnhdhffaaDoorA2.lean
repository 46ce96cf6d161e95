/-
  Contracts of program.of, for every operation. Conditions: none but what each theorem names.
-/
import Derived.Test.YtiomnlgnhdhffaaDoorA1
namespace Go.Proofs.YtiomnlgnhdhffaaDoor
open Go.RowKit
set_option linter.unusedVariables false

set_option maxRecDepth 100000 in
set_option maxHeartbeats 4000000 in
theorem of_5 (w : World) : Calls Tryd.prog 31 #[.int .i64 5] w fun e w' => e = .returned (limV [0, 0, 0, 0, 0, 0, 0, 0, 0, 511, 0, 31, 0, 0, 0, 0] true) ∧ Below w.heap.size w w' := by
  go_enter Tryd.func31, Tryd.ntmps31
  go_wp2_with (first | ((with_reducible refine gate_dst (N := 84) rfl ?_); go_must (refine wpList_load_row rfl 60 (.tmp 2) rfl w.heap.size rfl 60 #[.int .i64 0, .int .i64 0, .int .i64 0, .int .i64 0, .int .i64 0, .int .i64 0, .int .i64 0, .int .i64 0, .int .i64 0, .int .i64 511, .int .i64 0, .int .i64 31, .int .i64 0, .int .i64 0, .int .i64 0, .int .i64 0] (0, 0) _ (heap_keep (heap_at rfl _) _) Tryd.underlying60 rfl (by kernel_rfl) ?_)) | ((with_reducible refine gate_op (op := .store 60 (.tmp 2) (.tmp 84)) rfl ?_); go_must (refine wpList_store_same rfl 60 (.tmp 2) (.tmp 84) rfl w.heap.size _ rfl rfl 60 (heap_keep (heap_at rfl _) _) (by kernel_rfl) (by kernel_rfl) ?_)) | go_in)
  exact bodyPost_ret (v := limV [0, 0, 0, 0, 0, 0, 0, 0, 0, 511, 0, 31, 0, 0, 0, 0] true) (results_row_tmp rfl _ _ w.heap.size 60 _ (0, 0) _ _ rfl rfl (heap_keep (heap_at rfl _) _) Tryd.underlying60 rfl (by kernel_rfl)) rfl ⟨rfl, by repeat (first | exact Below.refl _ _ | refine Below.setCell ?_ (by simp) _ | refine Below.alloc ?_ (by simp) _)⟩

set_option maxRecDepth 100000 in
set_option maxHeartbeats 4000000 in
theorem of_6 (w : World) : Calls Tryd.prog 31 #[.int .i64 6] w fun e w' => e = .returned (limV [0, 0, 0, 0, 0, 0, 0, 0, 0, 511, 0, 31, 255, 0, 0, 0] true) ∧ Below w.heap.size w w' := by
  go_enter Tryd.func31, Tryd.ntmps31
  go_wp2_with (first | ((with_reducible refine gate_dst (N := 84) rfl ?_); go_must (refine wpList_load_row rfl 60 (.tmp 2) rfl w.heap.size rfl 60 #[.int .i64 0, .int .i64 0, .int .i64 0, .int .i64 0, .int .i64 0, .int .i64 0, .int .i64 0, .int .i64 0, .int .i64 0, .int .i64 511, .int .i64 0, .int .i64 31, .int .i64 255, .int .i64 0, .int .i64 0, .int .i64 0] (0, 0) _ (heap_keep (heap_at rfl _) _) Tryd.underlying60 rfl (by kernel_rfl) ?_)) | ((with_reducible refine gate_op (op := .store 60 (.tmp 2) (.tmp 84)) rfl ?_); go_must (refine wpList_store_same rfl 60 (.tmp 2) (.tmp 84) rfl w.heap.size _ rfl rfl 60 (heap_keep (heap_at rfl _) _) (by kernel_rfl) (by kernel_rfl) ?_)) | go_in)
  exact bodyPost_ret (v := limV [0, 0, 0, 0, 0, 0, 0, 0, 0, 511, 0, 31, 255, 0, 0, 0] true) (results_row_tmp rfl _ _ w.heap.size 60 _ (0, 0) _ _ rfl rfl (heap_keep (heap_at rfl _) _) Tryd.underlying60 rfl (by kernel_rfl)) rfl ⟨rfl, by repeat (first | exact Below.refl _ _ | refine Below.setCell ?_ (by simp) _ | refine Below.alloc ?_ (by simp) _)⟩

set_option maxRecDepth 100000 in
set_option maxHeartbeats 4000000 in
theorem of_7 (w : World) : Calls Tryd.prog 31 #[.int .i64 7] w fun e w' => e = .returned (limV [0, 0, 0, 0, 0, 0, 0, 0, 0, 15, 0, 31, 0, 3, 0, 0] true) ∧ Below w.heap.size w w' := by
  go_enter Tryd.func31, Tryd.ntmps31
  go_wp2_with (first | ((with_reducible refine gate_dst (N := 84) rfl ?_); go_must (refine wpList_load_row rfl 60 (.tmp 2) rfl w.heap.size rfl 60 #[.int .i64 0, .int .i64 0, .int .i64 0, .int .i64 0, .int .i64 0, .int .i64 0, .int .i64 0, .int .i64 0, .int .i64 0, .int .i64 15, .int .i64 0, .int .i64 31, .int .i64 0, .int .i64 3, .int .i64 0, .int .i64 0] (0, 0) _ (heap_keep (heap_at rfl _) _) Tryd.underlying60 rfl (by kernel_rfl) ?_)) | ((with_reducible refine gate_op (op := .store 60 (.tmp 2) (.tmp 84)) rfl ?_); go_must (refine wpList_store_same rfl 60 (.tmp 2) (.tmp 84) rfl w.heap.size _ rfl rfl 60 (heap_keep (heap_at rfl _) _) (by kernel_rfl) (by kernel_rfl) ?_)) | go_in)
  exact bodyPost_ret (v := limV [0, 0, 0, 0, 0, 0, 0, 0, 0, 15, 0, 31, 0, 3, 0, 0] true) (results_row_tmp rfl _ _ w.heap.size 60 _ (0, 0) _ _ rfl rfl (heap_keep (heap_at rfl _) _) Tryd.underlying60 rfl (by kernel_rfl)) rfl ⟨rfl, by repeat (first | exact Below.refl _ _ | refine Below.setCell ?_ (by simp) _ | refine Below.alloc ?_ (by simp) _)⟩

set_option maxRecDepth 100000 in
set_option maxHeartbeats 4000000 in
theorem of_8 (w : World) : Calls Tryd.prog 31 #[.int .i64 8] w fun e w' => e = .returned (limV [0, 0, 0, 0, 0, 0, 0, 0, 0, 15, 0, 31, 255, 3, 0, 0] true) ∧ Below w.heap.size w w' := by
  go_enter Tryd.func31, Tryd.ntmps31
  go_wp2_with (first | ((with_reducible refine gate_dst (N := 84) rfl ?_); go_must (refine wpList_load_row rfl 60 (.tmp 2) rfl w.heap.size rfl 60 #[.int .i64 0, .int .i64 0, .int .i64 0, .int .i64 0, .int .i64 0, .int .i64 0, .int .i64 0, .int .i64 0, .int .i64 0, .int .i64 15, .int .i64 0, .int .i64 31, .int .i64 255, .int .i64 3, .int .i64 0, .int .i64 0] (0, 0) _ (heap_keep (heap_at rfl _) _) Tryd.underlying60 rfl (by kernel_rfl) ?_)) | ((with_reducible refine gate_op (op := .store 60 (.tmp 2) (.tmp 84)) rfl ?_); go_must (refine wpList_store_same rfl 60 (.tmp 2) (.tmp 84) rfl w.heap.size _ rfl rfl 60 (heap_keep (heap_at rfl _) _) (by kernel_rfl) (by kernel_rfl) ?_)) | go_in)
  exact bodyPost_ret (v := limV [0, 0, 0, 0, 0, 0, 0, 0, 0, 15, 0, 31, 255, 3, 0, 0] true) (results_row_tmp rfl _ _ w.heap.size 60 _ (0, 0) _ _ rfl rfl (heap_keep (heap_at rfl _) _) Tryd.underlying60 rfl (by kernel_rfl)) rfl ⟨rfl, by repeat (first | exact Below.refl _ _ | refine Below.setCell ?_ (by simp) _ | refine Below.alloc ?_ (by simp) _)⟩
end Go.Proofs.YtiomnlgnhdhffaaDoor
