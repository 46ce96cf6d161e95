/-
  The walk of the reference's build. Conditions: none but what each theorem names. (Printed by wip/tools/genT2.py.)
-/
import Derived.Test.YtiomnlgnhdhffaaDoorT3
namespace Go.Proofs.YtiomnlgnhdhffaaDoor
open Go.RowKit
set_option linter.unusedVariables false
set_option linter.unusedSimpArgs false

abbrev n5 (n0 n1 n2 n3 n4 : Int) : Array Value := #[.int .i64 n0, .int .i64 n1, .int .i64 n2, .int .i64 n3, .int .i64 n4]

set_option maxRecDepth 100000 in
set_option maxHeartbeats 4000000 in
theorem build_map (p n0 n1 n2 n3 n4 : Int) (s : ByteArray) (w : World) : Calls Tryd.prog 43 #[.int .i64 1, .int .i64 p, .agg (n5 n0 n1 n2 n3 n4), .string s] w fun e w' => e = .returned (⟨1, n1, n2, 0, 0, -1, p, 0⟩ : Ins).V ∧ Below w.heap.size w w' := by
  go_enter Tryd.func43, Tryd.ntmps43
  go_wp2_with fail
  exact bodyPost_ret (v := .agg (c8 1 n1 n2 0 0 (-1) p 0)) (results_row rfl _ _ (w.heap.size + 1) 36 _ (0, 0) _ rfl (heap_keep (heap_at (by simp) _) _) Tryd.underlying36 rfl (by kernel_rfl)) rfl ⟨rfl, (((Below.refl _ _).alloc (Nat.le_refl _) _).alloc (by simp) _).alloc (by simp; omega) _⟩

set_option maxRecDepth 100000 in
set_option maxHeartbeats 4000000 in
theorem build_unmap (p n0 n1 n2 n3 n4 : Int) (s : ByteArray) (w : World) : Calls Tryd.prog 43 #[.int .i64 2, .int .i64 p, .agg (n5 n0 n1 n2 n3 n4), .string s] w fun e w' => e = .returned (⟨2, n1, n2, 0, 0, 0, 0, 0⟩ : Ins).V ∧ Below w.heap.size w w' := by
  go_enter Tryd.func43, Tryd.ntmps43
  go_wp2_with fail
  exact bodyPost_ret (v := .agg (c8 2 n1 n2 0 0 0 0 0)) (results_row rfl _ _ (w.heap.size + 1) 36 _ (0, 0) _ rfl (heap_keep (heap_at (by simp) _) _) Tryd.underlying36 rfl (by kernel_rfl)) rfl ⟨rfl, (((Below.refl _ _).alloc (Nat.le_refl _) _).alloc (by simp) _).alloc (by simp; omega) _⟩

set_option maxRecDepth 100000 in
set_option maxHeartbeats 4000000 in
theorem build_protect (p n0 n1 n2 n3 n4 : Int) (s : ByteArray) (w : World) : Calls Tryd.prog 43 #[.int .i64 3, .int .i64 p, .agg (n5 n0 n1 n2 n3 n4), .string s] w fun e w' => e = .returned (⟨3, n1, n2, 0, 0, 0, p, 0⟩ : Ins).V ∧ Below w.heap.size w w' := by
  go_enter Tryd.func43, Tryd.ntmps43
  go_wp2_with fail
  exact bodyPost_ret (v := .agg (c8 3 n1 n2 0 0 0 p 0)) (results_row rfl _ _ (w.heap.size + 1) 36 _ (0, 0) _ rfl (heap_keep (heap_at (by simp) _) _) Tryd.underlying36 rfl (by kernel_rfl)) rfl ⟨rfl, (((Below.refl _ _).alloc (Nat.le_refl _) _).alloc (by simp) _).alloc (by simp; omega) _⟩

set_option maxRecDepth 100000 in
set_option maxHeartbeats 4000000 in
theorem build_lock (p n0 n1 n2 n3 n4 : Int) (s : ByteArray) (w : World) (hs : s.toList = [108, 111, 99, 107]) : Calls Tryd.prog 43 #[.int .i64 4, .int .i64 p, .agg (n5 n0 n1 n2 n3 n4), .string s] w fun e w' => e = .returned (⟨4, n1, n2, 0, 1, 0, 0, 0⟩ : Ins).V ∧ Below w.heap.size w w' := by
  have q : (s.toList == [108, 111, 99, 107]) = true := by rw [hs]; rfl
  clear hs
  go_enter Tryd.func43, Tryd.ntmps43
  go_wp2_with fail
  exact bodyPost_ret (v := .agg (c8 4 n1 n2 0 1 0 0 0)) (results_row rfl _ _ (w.heap.size + 1) 36 _ (0, 0) _ rfl (heap_keep (heap_at (by simp) _) _) Tryd.underlying36 rfl (by kernel_rfl)) rfl ⟨rfl, (((Below.refl _ _).alloc (Nat.le_refl _) _).alloc (by simp) _).alloc (by simp; omega) _⟩

set_option maxRecDepth 100000 in
set_option maxHeartbeats 4000000 in
theorem build_unlock (p n0 n1 n2 n3 n4 : Int) (s : ByteArray) (w : World) (hs : s.toList ≠ [108, 111, 99, 107]) : Calls Tryd.prog 43 #[.int .i64 4, .int .i64 p, .agg (n5 n0 n1 n2 n3 n4), .string s] w fun e w' => e = .returned (⟨4, n1, n2, 0, 0, 0, 0, 0⟩ : Ins).V ∧ Below w.heap.size w w' := by
  have q : (s.toList == [108, 111, 99, 107]) = false := by simpa using hs
  clear hs
  go_enter Tryd.func43, Tryd.ntmps43
  go_wp2_with fail
  exact bodyPost_ret (v := .agg (c8 4 n1 n2 0 0 0 0 0)) (results_row rfl _ _ (w.heap.size + 1) 36 _ (0, 0) _ rfl (heap_keep (heap_at (by simp) _) _) Tryd.underlying36 rfl (by kernel_rfl)) rfl ⟨rfl, (((Below.refl _ _).alloc (Nat.le_refl _) _).alloc (by simp) _).alloc (by simp; omega) _⟩

set_option maxRecDepth 100000 in
set_option maxHeartbeats 4000000 in
theorem build_load (p n0 n1 n2 n3 n4 : Int) (s : ByteArray) (w : World) : Calls Tryd.prog 43 #[.int .i64 5, .int .i64 p, .agg (n5 n0 n1 n2 n3 n4), .string s] w fun e w' => e = .returned (⟨5, n1, 0, n2, n3, 0, 0, 0⟩ : Ins).V ∧ Below w.heap.size w w' := by
  go_enter Tryd.func43, Tryd.ntmps43
  go_wp2_with fail
  exact bodyPost_ret (v := .agg (c8 5 n1 0 n2 n3 0 0 0)) (results_row rfl _ _ (w.heap.size + 1) 36 _ (0, 0) _ rfl (heap_keep (heap_at (by simp) _) _) Tryd.underlying36 rfl (by kernel_rfl)) rfl ⟨rfl, (((Below.refl _ _).alloc (Nat.le_refl _) _).alloc (by simp) _).alloc (by simp; omega) _⟩

set_option maxRecDepth 100000 in
set_option maxHeartbeats 4000000 in
theorem build_store (p n0 n1 n2 n3 n4 : Int) (s : ByteArray) (w : World) : Calls Tryd.prog 43 #[.int .i64 6, .int .i64 p, .agg (n5 n0 n1 n2 n3 n4), .string s] w fun e w' => e = .returned (⟨6, n1, 0, n2, n3, 0, 0, 0⟩ : Ins).V ∧ Below w.heap.size w w' := by
  go_enter Tryd.func43, Tryd.ntmps43
  go_wp2_with fail
  exact bodyPost_ret (v := .agg (c8 6 n1 0 n2 n3 0 0 0)) (results_row rfl _ _ (w.heap.size + 1) 36 _ (0, 0) _ rfl (heap_keep (heap_at (by simp) _) _) Tryd.underlying36 rfl (by kernel_rfl)) rfl ⟨rfl, (((Below.refl _ _).alloc (Nat.le_refl _) _).alloc (by simp) _).alloc (by simp; omega) _⟩

set_option maxRecDepth 100000 in
set_option maxHeartbeats 4000000 in
theorem build_read (p n0 n1 n2 n3 n4 : Int) (s : ByteArray) (w : World) : Calls Tryd.prog 43 #[.int .i64 7, .int .i64 p, .agg (n5 n0 n1 n2 n3 n4), .string s] w fun e w' => e = .returned (⟨7, n2, 0, n3, n4, n1, 0, 0⟩ : Ins).V ∧ Below w.heap.size w w' := by
  go_enter Tryd.func43, Tryd.ntmps43
  go_wp2_with fail
  exact bodyPost_ret (v := .agg (c8 7 n2 0 n3 n4 n1 0 0)) (results_row rfl _ _ (w.heap.size + 1) 36 _ (0, 0) _ rfl (heap_keep (heap_at (by simp) _) _) Tryd.underlying36 rfl (by kernel_rfl)) rfl ⟨rfl, (((Below.refl _ _).alloc (Nat.le_refl _) _).alloc (by simp) _).alloc (by simp; omega) _⟩

set_option maxRecDepth 100000 in
set_option maxHeartbeats 4000000 in
theorem build_write (p n0 n1 n2 n3 n4 : Int) (s : ByteArray) (w : World) : Calls Tryd.prog 43 #[.int .i64 8, .int .i64 p, .agg (n5 n0 n1 n2 n3 n4), .string s] w fun e w' => e = .returned (⟨8, n2, 0, n3, n4, n1, 0, 0⟩ : Ins).V ∧ Below w.heap.size w w' := by
  go_enter Tryd.func43, Tryd.ntmps43
  go_wp2_with fail
  exact bodyPost_ret (v := .agg (c8 8 n2 0 n3 n4 n1 0 0)) (results_row rfl _ _ (w.heap.size + 1) 36 _ (0, 0) _ rfl (heap_keep (heap_at (by simp) _) _) Tryd.underlying36 rfl (by kernel_rfl)) rfl ⟨rfl, (((Below.refl _ _).alloc (Nat.le_refl _) _).alloc (by simp) _).alloc (by simp; omega) _⟩

set_option maxRecDepth 100000 in
set_option maxHeartbeats 4000000 in
theorem build_truncate (p n0 n1 n2 n3 n4 : Int) (s : ByteArray) (w : World) : Calls Tryd.prog 43 #[.int .i64 9, .int .i64 p, .agg (n5 n0 n1 n2 n3 n4), .string s] w fun e w' => e = .returned (⟨9, 0, n2, 0, 0, n1, 0, 0⟩ : Ins).V ∧ Below w.heap.size w w' := by
  go_enter Tryd.func43, Tryd.ntmps43
  go_wp2_with fail
  exact bodyPost_ret (v := .agg (c8 9 0 n2 0 0 n1 0 0)) (results_row rfl _ _ (w.heap.size + 1) 36 _ (0, 0) _ rfl (heap_keep (heap_at (by simp) _) _) Tryd.underlying36 rfl (by kernel_rfl)) rfl ⟨rfl, (((Below.refl _ _).alloc (Nat.le_refl _) _).alloc (by simp) _).alloc (by simp; omega) _⟩

set_option maxRecDepth 100000 in
set_option maxHeartbeats 4000000 in
theorem build_sync (p n0 n1 n2 n3 n4 : Int) (s : ByteArray) (w : World) : Calls Tryd.prog 43 #[.int .i64 10, .int .i64 p, .agg (n5 n0 n1 n2 n3 n4), .string s] w fun e w' => e = .returned (⟨10, 0, n2, 0, 0, n1, 0, 0⟩ : Ins).V ∧ Below w.heap.size w w' := by
  go_enter Tryd.func43, Tryd.ntmps43
  go_wp2_with fail
  exact bodyPost_ret (v := .agg (c8 10 0 n2 0 0 n1 0 0)) (results_row rfl _ _ (w.heap.size + 1) 36 _ (0, 0) _ rfl (heap_keep (heap_at (by simp) _) _) Tryd.underlying36 rfl (by kernel_rfl)) rfl ⟨rfl, (((Below.refl _ _).alloc (Nat.le_refl _) _).alloc (by simp) _).alloc (by simp; omega) _⟩

set_option maxRecDepth 100000 in
set_option maxHeartbeats 4000000 in
theorem build_fork (p n0 n1 n2 n3 n4 : Int) (s : ByteArray) (w : World) : Calls Tryd.prog 43 #[.int .i64 11, .int .i64 p, .agg (n5 n0 n1 n2 n3 n4), .string s] w fun e w' => e = .returned (⟨11, 0, 0, 0, n1, 0, 0, 0⟩ : Ins).V ∧ Below w.heap.size w w' := by
  go_enter Tryd.func43, Tryd.ntmps43
  go_wp2_with fail
  exact bodyPost_ret (v := .agg (c8 11 0 0 0 n1 0 0 0)) (results_row rfl _ _ (w.heap.size + 1) 36 _ (0, 0) _ rfl (heap_keep (heap_at (by simp) _) _) Tryd.underlying36 rfl (by kernel_rfl)) rfl ⟨rfl, (((Below.refl _ _).alloc (Nat.le_refl _) _).alloc (by simp) _).alloc (by simp; omega) _⟩

set_option maxRecDepth 100000 in
set_option maxHeartbeats 4000000 in
theorem build_exit (p n0 n1 n2 n3 n4 : Int) (s : ByteArray) (w : World) : Calls Tryd.prog 43 #[.int .i64 12, .int .i64 p, .agg (n5 n0 n1 n2 n3 n4), .string s] w fun e w' => e = .returned (⟨12, n1, n2, 0, 0, 0, 0, 0⟩ : Ins).V ∧ Below w.heap.size w w' := by
  go_enter Tryd.func43, Tryd.ntmps43
  go_wp2_with fail
  exact bodyPost_ret (v := .agg (c8 12 n1 n2 0 0 0 0 0)) (results_row rfl _ _ (w.heap.size + 1) 36 _ (0, 0) _ rfl (heap_keep (heap_at (by simp) _) _) Tryd.underlying36 rfl (by kernel_rfl)) rfl ⟨rfl, (((Below.refl _ _).alloc (Nat.le_refl _) _).alloc (by simp) _).alloc (by simp; omega) _⟩

theorem build43 (o p n0 n1 n2 n3 n4 : Int) (s : Wd) (w : World) (ho : 1 ≤ o ∧ o ≤ 12) : Calls Tryd.prog 43 #[.int .i64 o, .int .i64 p, .agg (n5 n0 n1 n2 n3 n4), .string (bstr s)] w fun e w' => e = .returned (buildR o p n1 n2 n3 n4 s).V ∧ Below w.heap.size w w' := by
  have hc : o = 1 ∨ o = 2 ∨ o = 3 ∨ o = 4 ∨ o = 5 ∨ o = 6 ∨ o = 7 ∨ o = 8 ∨ o = 9 ∨ o = 10 ∨ o = 11 ∨ o = 12 := by omega
  rcases hc with rfl | rfl | rfl | rfl | rfl | rfl | rfl | rfl | rfl | rfl | rfl | rfl
  · exact build_map p n0 n1 n2 n3 n4 _ w
  · exact build_unmap p n0 n1 n2 n3 n4 _ w
  · exact build_protect p n0 n1 n2 n3 n4 _ w
  · by_cases hs : s = [108, 111, 99, 107]
    · rw [show buildR 4 p n1 n2 n3 n4 s = ⟨4, n1, n2, 0, 1, 0, 0, 0⟩ by simp [buildR, hs]]
      exact build_lock p n0 n1 n2 n3 n4 _ w (by rw [bstr_list]; exact hs)
    · rw [show buildR 4 p n1 n2 n3 n4 s = ⟨4, n1, n2, 0, 0, 0, 0, 0⟩ by simp [buildR, hs]]
      exact build_unlock p n0 n1 n2 n3 n4 _ w (by rw [bstr_list]; exact hs)
  · exact build_load p n0 n1 n2 n3 n4 _ w
  · exact build_store p n0 n1 n2 n3 n4 _ w
  · exact build_read p n0 n1 n2 n3 n4 _ w
  · exact build_write p n0 n1 n2 n3 n4 _ w
  · exact build_truncate p n0 n1 n2 n3 n4 _ w
  · exact build_sync p n0 n1 n2 n3 n4 _ w
  · exact build_fork p n0 n1 n2 n3 n4 _ w
  · exact build_exit p n0 n1 n2 n3 n4 _ w
end Go.Proofs.YtiomnlgnhdhffaaDoor
