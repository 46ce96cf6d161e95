/-
  The walk of program.format. Conditions: the instruction's numbers are of three digits at most; the table reads as listed. (Printed by wip/tools/genF5.py.)
-/
import Derived.Test.YtiomnlgnhdhffaaDoorF4
namespace Go.Proofs.YtiomnlgnhdhffaaDoor
open Go.RowKit
set_option linter.unusedVariables false

/-- The memory of a function with an instruction's row X. -/
structure XM (w : World) (X : Nat) (x : Array Value) (W : World) : Prop where
  x : W.heap[X]? = some (.cells x 36 (0, 0))
  below : Below w.heap.size w W
  low : w.heap.size ≤ X
theorem XM.next {w W W' : World} {X : Nat} {x : Array Value} (h : XM w X x W) (hb : Below W.heap.size W W') : XM w X x W' :=
  ⟨(hb.block X (lt_of_block h.x)).trans h.x, h.below.trans (hb.mono (h.below.size)), h.low⟩
theorem XM.start (w : World) (x : Array Value) : XM w w.heap.size x (w.alloc (.cells x 36)) := ⟨heap_at rfl _, (Below.refl _ _).alloc (Nat.le_refl _) _, Nat.le_refl _⟩
theorem XM.cells {w W : World} {X : Nat} {x0 x1 x2 x3 x4 x5 x6 x7 : Int} (h : XM w X (c8 x0 x1 x2 x3 x4 x5 x6 x7) W) : W.cell? ⟨X, 0, none⟩ = some (.int .i64 x0) ∧ W.cell? ⟨X, 1, none⟩ = some (.int .i64 x1) ∧ W.cell? ⟨X, 2, none⟩ = some (.int .i64 x2) ∧ W.cell? ⟨X, 3, none⟩ = some (.int .i64 x3) ∧
    W.cell? ⟨X, 4, none⟩ = some (.int .i64 x4) ∧ W.cell? ⟨X, 5, none⟩ = some (.int .i64 x5) ∧ W.cell? ⟨X, 6, none⟩ = some (.int .i64 x6) ∧ W.cell? ⟨X, 7, none⟩ = some (.int .i64 x7) := by
  refine ⟨?_, ?_, ?_, ?_, ?_, ?_, ?_, ?_⟩ <;> · rw [cell_of_row _ _ _ _ _ _ h.x]; rfl
theorem IntsAt.row {W : World} {cs : Array Value} {b : Nat} {ns : List Int} (h : W.heap[b]? = some (.cells cs 3 (0, 0))) (hc : cs.toList = ns.map (Value.int .i64)) : IntsAt W b ns := by
  refine ⟨lt_of_block h, fun j n hj => ?_⟩
  rw [cell_of_row _ _ _ _ _ _ h, ← Array.getElem?_toList, hc]
  simp [hj]

set_option maxRecDepth 100000 in
set_option maxHeartbeats 2000000 in
theorem format_unmap {B : Nat} (x1 x2 x3 x4 x5 x6 x7 : Int) (w : World) (hT : Tb B w) (hB : B ≤ w.heap.size) (hv : (0 ≤ x1 ∧ x1 < 1000) ∧ (0 ≤ x2 ∧ x2 < 1000)) :
    Calls Tryd.prog 28 #[(⟨2, x1, x2, x3, x4, x5, x6, x7⟩ : Ins).V] w fun e w' => e = .returned (.string (joinT ⟨#[117, 110, 109, 97, 112]⟩ [x1, x2])) ∧ Below w.heap.size w w' := by
  have HT := Kp.mk hT
  have HV := Kp.mk hv
  have M := Kp.mk (XM.start w (c8 2 x1 x2 x3 x4 x5 x6 x7))
  clear hT hv
  obtain ⟨d0, d1, d2, d3, d4, d5, d6, d7⟩ := M.out.cells
  clear d3 d4 d5 d6 d7
  go_enter Tryd.func28, Tryd.ntmps28
  go_wp2_with fail
  refine (join47 (B := B) ⟨#[117, 110, 109, 97, 112]⟩ [x1, x2] (w.heap.size + 1) 2 _ (HT.out.on hB (M.out.below.alloc M.out.below.size _)) (by simp; omega) (by exact IntsAt.row (heap_at (by simp) _) rfl) (by decide) (by simp) (by simpa using HV.out)).mono ?_
  rintro e w2 ⟨rfl, hb⟩
  have HB := Kp.mk ((M.out.below.alloc M.out.below.size _).trans (hb.mono (by simp; omega)))
  clear hb
  go_wp2
  go_ret
  exact ⟨rfl, HB.out⟩

set_option maxRecDepth 100000 in
set_option maxHeartbeats 2000000 in
theorem format_unlock {B : Nat} (x1 x2 x3 x5 x6 x7 : Int) (w : World) (hT : Tb B w) (hB : B ≤ w.heap.size) (hv : (0 ≤ x1 ∧ x1 < 1000) ∧ (0 ≤ x2 ∧ x2 < 1000)) :
    Calls Tryd.prog 28 #[(⟨4, x1, x2, x3, 0, x5, x6, x7⟩ : Ins).V] w fun e w' => e = .returned (.string (joinT ⟨#[117, 110, 108, 111, 99, 107]⟩ [x1, x2])) ∧ Below w.heap.size w w' := by
  have HT := Kp.mk hT
  have HV := Kp.mk hv
  have M := Kp.mk (XM.start w (c8 4 x1 x2 x3 0 x5 x6 x7))
  clear hT hv
  obtain ⟨d0, d1, d2, d3, d4, d5, d6, d7⟩ := M.out.cells
  clear d3 d5 d6 d7
  go_enter Tryd.func28, Tryd.ntmps28
  go_wp2_with fail
  refine (join47 (B := B) ⟨#[117, 110, 108, 111, 99, 107]⟩ [x1, x2] (w.heap.size + 1) 2 _ (HT.out.on hB (M.out.below.alloc M.out.below.size _)) (by simp; omega) (by exact IntsAt.row (heap_at (by simp) _) rfl) (by decide) (by simp) (by simpa using HV.out)).mono ?_
  rintro e w2 ⟨rfl, hb⟩
  have HB := Kp.mk ((M.out.below.alloc M.out.below.size _).trans (hb.mono (by simp; omega)))
  clear hb
  go_wp2
  go_ret
  exact ⟨rfl, HB.out⟩

set_option maxRecDepth 100000 in
set_option maxHeartbeats 2000000 in
theorem format_lock {B : Nat} (x1 x2 x3 x4 x5 x6 x7 : Int) (w : World) (hT : Tb B w) (hB : B ≤ w.heap.size) (hv : (0 ≤ x1 ∧ x1 < 1000) ∧ (0 ≤ x2 ∧ x2 < 1000)) (h4 : ¬ x4 = 0) :
    Calls Tryd.prog 28 #[(⟨4, x1, x2, x3, x4, x5, x6, x7⟩ : Ins).V] w fun e w' => e = .returned (.string (joinT ⟨#[108, 111, 99, 107]⟩ [x1, x2])) ∧ Below w.heap.size w w' := by
  have HT := Kp.mk hT
  have HV := Kp.mk hv
  have M := Kp.mk (XM.start w (c8 4 x1 x2 x3 x4 x5 x6 x7))
  clear hT hv
  obtain ⟨d0, d1, d2, d3, d4, d5, d6, d7⟩ := M.out.cells
  clear d3 d5 d6 d7
  go_enter Tryd.func28, Tryd.ntmps28
  go_wp2_with fail
  refine (join47 (B := B) ⟨#[108, 111, 99, 107]⟩ [x1, x2] (w.heap.size + 1) 2 _ (HT.out.on hB (M.out.below.alloc M.out.below.size _)) (by simp; omega) (by exact IntsAt.row (heap_at (by simp) _) rfl) (by decide) (by simp) (by simpa using HV.out)).mono ?_
  rintro e w2 ⟨rfl, hb⟩
  have HB := Kp.mk ((M.out.below.alloc M.out.below.size _).trans (hb.mono (by simp; omega)))
  clear hb
  go_wp2
  go_ret
  exact ⟨rfl, HB.out⟩

set_option maxRecDepth 100000 in
set_option maxHeartbeats 2000000 in
theorem format_load {B : Nat} (x1 x2 x3 x4 x5 x6 x7 : Int) (w : World) (hT : Tb B w) (hB : B ≤ w.heap.size) (hv : (0 ≤ x1 ∧ x1 < 1000) ∧ (0 ≤ x3 ∧ x3 < 1000)) :
    Calls Tryd.prog 28 #[(⟨5, x1, x2, x3, x4, x5, x6, x7⟩ : Ins).V] w fun e w' => e = .returned (.string (joinT ⟨#[108, 111, 97, 100]⟩ [x1, x3])) ∧ Below w.heap.size w w' := by
  have HT := Kp.mk hT
  have HV := Kp.mk hv
  have M := Kp.mk (XM.start w (c8 5 x1 x2 x3 x4 x5 x6 x7))
  clear hT hv
  obtain ⟨d0, d1, d2, d3, d4, d5, d6, d7⟩ := M.out.cells
  clear d2 d4 d5 d6 d7
  go_enter Tryd.func28, Tryd.ntmps28
  go_wp2_with fail
  refine (join47 (B := B) ⟨#[108, 111, 97, 100]⟩ [x1, x3] (w.heap.size + 1) 2 _ (HT.out.on hB (M.out.below.alloc M.out.below.size _)) (by simp; omega) (by exact IntsAt.row (heap_at (by simp) _) rfl) (by decide) (by simp) (by simpa using HV.out)).mono ?_
  rintro e w2 ⟨rfl, hb⟩
  have HB := Kp.mk ((M.out.below.alloc M.out.below.size _).trans (hb.mono (by simp; omega)))
  clear hb
  go_wp2
  go_ret
  exact ⟨rfl, HB.out⟩

set_option maxRecDepth 100000 in
set_option maxHeartbeats 2000000 in
theorem format_store {B : Nat} (x1 x2 x3 x4 x5 x6 x7 : Int) (w : World) (hT : Tb B w) (hB : B ≤ w.heap.size) (hv : (0 ≤ x1 ∧ x1 < 1000) ∧ (0 ≤ x3 ∧ x3 < 1000) ∧ (0 ≤ x4 ∧ x4 < 1000)) :
    Calls Tryd.prog 28 #[(⟨6, x1, x2, x3, x4, x5, x6, x7⟩ : Ins).V] w fun e w' => e = .returned (.string (joinT ⟨#[115, 116, 111, 114, 101]⟩ [x1, x3, x4])) ∧ Below w.heap.size w w' := by
  have HT := Kp.mk hT
  have HV := Kp.mk hv
  have M := Kp.mk (XM.start w (c8 6 x1 x2 x3 x4 x5 x6 x7))
  clear hT hv
  obtain ⟨d0, d1, d2, d3, d4, d5, d6, d7⟩ := M.out.cells
  clear d2 d5 d6 d7
  go_enter Tryd.func28, Tryd.ntmps28
  go_wp2_with fail
  refine (join47 (B := B) ⟨#[115, 116, 111, 114, 101]⟩ [x1, x3, x4] (w.heap.size + 1) 3 _ (HT.out.on hB (M.out.below.alloc M.out.below.size _)) (by simp; omega) (by exact IntsAt.row (heap_at (by simp) _) rfl) (by decide) (by simp) (by simpa using HV.out)).mono ?_
  rintro e w2 ⟨rfl, hb⟩
  have HB := Kp.mk ((M.out.below.alloc M.out.below.size _).trans (hb.mono (by simp; omega)))
  clear hb
  go_wp2
  go_ret
  exact ⟨rfl, HB.out⟩

set_option maxRecDepth 100000 in
set_option maxHeartbeats 2000000 in
theorem format_read {B : Nat} (x1 x2 x3 x4 x5 x6 x7 : Int) (w : World) (hT : Tb B w) (hB : B ≤ w.heap.size) (hv : (0 ≤ x5 ∧ x5 < 1000) ∧ (0 ≤ x1 ∧ x1 < 1000) ∧ (0 ≤ x3 ∧ x3 < 1000)) :
    Calls Tryd.prog 28 #[(⟨7, x1, x2, x3, x4, x5, x6, x7⟩ : Ins).V] w fun e w' => e = .returned (.string (joinT ⟨#[114, 101, 97, 100]⟩ [x5, x1, x3])) ∧ Below w.heap.size w w' := by
  have HT := Kp.mk hT
  have HV := Kp.mk hv
  have M := Kp.mk (XM.start w (c8 7 x1 x2 x3 x4 x5 x6 x7))
  clear hT hv
  obtain ⟨d0, d1, d2, d3, d4, d5, d6, d7⟩ := M.out.cells
  clear d2 d4 d6 d7
  go_enter Tryd.func28, Tryd.ntmps28
  go_wp2_with fail
  refine (join47 (B := B) ⟨#[114, 101, 97, 100]⟩ [x5, x1, x3] (w.heap.size + 1) 3 _ (HT.out.on hB (M.out.below.alloc M.out.below.size _)) (by simp; omega) (by exact IntsAt.row (heap_at (by simp) _) rfl) (by decide) (by simp) (by simpa using HV.out)).mono ?_
  rintro e w2 ⟨rfl, hb⟩
  have HB := Kp.mk ((M.out.below.alloc M.out.below.size _).trans (hb.mono (by simp; omega)))
  clear hb
  go_wp2
  go_ret
  exact ⟨rfl, HB.out⟩

set_option maxRecDepth 100000 in
set_option maxHeartbeats 2000000 in
theorem format_write {B : Nat} (x1 x2 x3 x4 x5 x6 x7 : Int) (w : World) (hT : Tb B w) (hB : B ≤ w.heap.size) (hv : (0 ≤ x5 ∧ x5 < 1000) ∧ (0 ≤ x1 ∧ x1 < 1000) ∧ (0 ≤ x3 ∧ x3 < 1000) ∧ (0 ≤ x4 ∧ x4 < 1000)) :
    Calls Tryd.prog 28 #[(⟨8, x1, x2, x3, x4, x5, x6, x7⟩ : Ins).V] w fun e w' => e = .returned (.string (joinT ⟨#[119, 114, 105, 116, 101]⟩ [x5, x1, x3, x4])) ∧ Below w.heap.size w w' := by
  have HT := Kp.mk hT
  have HV := Kp.mk hv
  have M := Kp.mk (XM.start w (c8 8 x1 x2 x3 x4 x5 x6 x7))
  clear hT hv
  obtain ⟨d0, d1, d2, d3, d4, d5, d6, d7⟩ := M.out.cells
  clear d2 d6 d7
  go_enter Tryd.func28, Tryd.ntmps28
  go_wp2_with fail
  refine (join47 (B := B) ⟨#[119, 114, 105, 116, 101]⟩ [x5, x1, x3, x4] (w.heap.size + 1) 4 _ (HT.out.on hB (M.out.below.alloc M.out.below.size _)) (by simp; omega) (by exact IntsAt.row (heap_at (by simp) _) rfl) (by decide) (by simp) (by simpa using HV.out)).mono ?_
  rintro e w2 ⟨rfl, hb⟩
  have HB := Kp.mk ((M.out.below.alloc M.out.below.size _).trans (hb.mono (by simp; omega)))
  clear hb
  go_wp2
  go_ret
  exact ⟨rfl, HB.out⟩

set_option maxRecDepth 100000 in
set_option maxHeartbeats 2000000 in
theorem format_truncate {B : Nat} (x1 x2 x3 x4 x5 x6 x7 : Int) (w : World) (hT : Tb B w) (hB : B ≤ w.heap.size) (hv : (0 ≤ x5 ∧ x5 < 1000) ∧ (0 ≤ x2 ∧ x2 < 1000)) :
    Calls Tryd.prog 28 #[(⟨9, x1, x2, x3, x4, x5, x6, x7⟩ : Ins).V] w fun e w' => e = .returned (.string (joinT ⟨#[116, 114, 117, 110, 99, 97, 116, 101]⟩ [x5, x2])) ∧ Below w.heap.size w w' := by
  have HT := Kp.mk hT
  have HV := Kp.mk hv
  have M := Kp.mk (XM.start w (c8 9 x1 x2 x3 x4 x5 x6 x7))
  clear hT hv
  obtain ⟨d0, d1, d2, d3, d4, d5, d6, d7⟩ := M.out.cells
  clear d1 d3 d4 d6 d7
  go_enter Tryd.func28, Tryd.ntmps28
  go_wp2_with fail
  refine (join47 (B := B) ⟨#[116, 114, 117, 110, 99, 97, 116, 101]⟩ [x5, x2] (w.heap.size + 1) 2 _ (HT.out.on hB (M.out.below.alloc M.out.below.size _)) (by simp; omega) (by exact IntsAt.row (heap_at (by simp) _) rfl) (by decide) (by simp) (by simpa using HV.out)).mono ?_
  rintro e w2 ⟨rfl, hb⟩
  have HB := Kp.mk ((M.out.below.alloc M.out.below.size _).trans (hb.mono (by simp; omega)))
  clear hb
  go_wp2
  go_ret
  exact ⟨rfl, HB.out⟩

set_option maxRecDepth 100000 in
set_option maxHeartbeats 2000000 in
theorem format_sync {B : Nat} (x1 x2 x3 x4 x5 x6 x7 : Int) (w : World) (hT : Tb B w) (hB : B ≤ w.heap.size) (hv : (0 ≤ x5 ∧ x5 < 1000)) :
    Calls Tryd.prog 28 #[(⟨10, x1, x2, x3, x4, x5, x6, x7⟩ : Ins).V] w fun e w' => e = .returned (.string (joinT ⟨#[115, 121, 110, 99]⟩ [x5])) ∧ Below w.heap.size w w' := by
  have HT := Kp.mk hT
  have HV := Kp.mk hv
  have M := Kp.mk (XM.start w (c8 10 x1 x2 x3 x4 x5 x6 x7))
  clear hT hv
  obtain ⟨d0, d1, d2, d3, d4, d5, d6, d7⟩ := M.out.cells
  clear d1 d2 d3 d4 d6 d7
  go_enter Tryd.func28, Tryd.ntmps28
  go_wp2_with fail
  refine (join47 (B := B) ⟨#[115, 121, 110, 99]⟩ [x5] (w.heap.size + 1) 1 _ (HT.out.on hB (M.out.below.alloc M.out.below.size _)) (by simp; omega) (by exact IntsAt.row (heap_at (by simp) _) rfl) (by decide) (by simp) (by simpa using HV.out)).mono ?_
  rintro e w2 ⟨rfl, hb⟩
  have HB := Kp.mk ((M.out.below.alloc M.out.below.size _).trans (hb.mono (by simp; omega)))
  clear hb
  go_wp2
  go_ret
  exact ⟨rfl, HB.out⟩

set_option maxRecDepth 100000 in
set_option maxHeartbeats 2000000 in
theorem format_fork {B : Nat} (x1 x2 x3 x4 x5 x6 x7 : Int) (w : World) (hT : Tb B w) (hB : B ≤ w.heap.size) (hv : (0 ≤ x4 ∧ x4 < 1000)) :
    Calls Tryd.prog 28 #[(⟨11, x1, x2, x3, x4, x5, x6, x7⟩ : Ins).V] w fun e w' => e = .returned (.string (joinT ⟨#[102, 111, 114, 107]⟩ [x4])) ∧ Below w.heap.size w w' := by
  have HT := Kp.mk hT
  have HV := Kp.mk hv
  have M := Kp.mk (XM.start w (c8 11 x1 x2 x3 x4 x5 x6 x7))
  clear hT hv
  obtain ⟨d0, d1, d2, d3, d4, d5, d6, d7⟩ := M.out.cells
  clear d1 d2 d3 d5 d6 d7
  go_enter Tryd.func28, Tryd.ntmps28
  go_wp2_with fail
  refine (join47 (B := B) ⟨#[102, 111, 114, 107]⟩ [x4] (w.heap.size + 1) 1 _ (HT.out.on hB (M.out.below.alloc M.out.below.size _)) (by simp; omega) (by exact IntsAt.row (heap_at (by simp) _) rfl) (by decide) (by simp) (by simpa using HV.out)).mono ?_
  rintro e w2 ⟨rfl, hb⟩
  have HB := Kp.mk ((M.out.below.alloc M.out.below.size _).trans (hb.mono (by simp; omega)))
  clear hb
  go_wp2
  go_ret
  exact ⟨rfl, HB.out⟩

end Go.Proofs.YtiomnlgnhdhffaaDoor
