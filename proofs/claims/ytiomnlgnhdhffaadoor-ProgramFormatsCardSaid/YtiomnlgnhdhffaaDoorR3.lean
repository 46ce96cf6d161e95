/-
  The walk of the reference's line. Conditions: the instruction's numbers are of three digits at most; the table reads as listed. (Printed by wip/tools/genR3.py.)
-/
import Derived.Test.YtiomnlgnhdhffaaDoorR2
namespace Go.Proofs.YtiomnlgnhdhffaaDoor
open Go.RowKit
set_option linter.unusedVariables false

set_option maxRecDepth 100000 in
set_option maxHeartbeats 2000000 in
theorem rline_unmap {B : Nat} (x1 x2 x3 x4 x5 x6 x7 : Int) (w : World) (hT : Tb B w) (hB : B ≤ w.heap.size) (hv : (-1 ≤ x1 ∧ x1 < 1000) ∧ (-1 ≤ x2 ∧ x2 < 1000)) :
    Calls Tryd.prog 30 #[(⟨2, x1, x2, x3, x4, x5, x6, x7⟩ : Ins).V] w fun e w' => e = .returned (.string (joinT ⟨#[117, 110, 109, 97, 112]⟩ [x1, x2])) ∧ Below w.heap.size w w' := by
  have HT := Kp.mk hT
  have HV := Kp.mk hv
  have M := Kp.mk (XM.start w (c8 2 x1 x2 x3 x4 x5 x6 x7))
  clear hT hv
  obtain ⟨d0, d1, d2, d3, d4, d5, d6, d7⟩ := M.out.cells
  clear d3 d4 d5 d6 d7
  go_enter Tryd.func30, Tryd.ntmps30
  go_wp2_with fail
  refine (words50 (B := B) ⟨#[117, 110, 109, 97, 112]⟩ [x1, x2] (w.heap.size + 1) 2 _ (HT.out.on hB (M.out.below.alloc M.out.below.size _)) (by simp; omega) (by exact IntsAt.row (heap_at (by simp) _) rfl) (by decide) (by simp) (by simpa using HV.out)).mono ?_
  rintro e w2 ⟨rfl, hb⟩
  have HB := Kp.mk ((M.out.below.alloc M.out.below.size _).trans (hb.mono (by simp; omega)))
  clear hb
  go_wp2
  go_ret
  exact ⟨rfl, HB.out⟩

set_option maxRecDepth 100000 in
set_option maxHeartbeats 2000000 in
theorem rline_unlock {B : Nat} (x1 x2 x3 x4 x5 x6 x7 : Int) (w : World) (hT : Tb B w) (hB : B ≤ w.heap.size) (hv : (-1 ≤ x1 ∧ x1 < 1000) ∧ (-1 ≤ x2 ∧ x2 < 1000)) (h4 : ¬ x4 = 1) :
    Calls Tryd.prog 30 #[(⟨4, x1, x2, x3, x4, x5, x6, x7⟩ : Ins).V] w fun e w' => e = .returned (.string (joinT ⟨#[117, 110, 108, 111, 99, 107]⟩ [x1, x2])) ∧ Below w.heap.size w w' := by
  have HT := Kp.mk hT
  have HV := Kp.mk hv
  have M := Kp.mk (XM.start w (c8 4 x1 x2 x3 x4 x5 x6 x7))
  clear hT hv
  obtain ⟨d0, d1, d2, d3, d4, d5, d6, d7⟩ := M.out.cells
  clear d3 d5 d6 d7
  go_enter Tryd.func30, Tryd.ntmps30
  go_wp2_with fail
  refine (words50 (B := B) ⟨#[117, 110, 108, 111, 99, 107]⟩ [x1, x2] (w.heap.size + 1) 2 _ (HT.out.on hB (M.out.below.alloc M.out.below.size _)) (by simp; omega) (by exact IntsAt.row (heap_at (by simp) _) rfl) (by decide) (by simp) (by simpa using HV.out)).mono ?_
  rintro e w2 ⟨rfl, hb⟩
  have HB := Kp.mk ((M.out.below.alloc M.out.below.size _).trans (hb.mono (by simp; omega)))
  clear hb
  go_wp2
  go_ret
  exact ⟨rfl, HB.out⟩

set_option maxRecDepth 100000 in
set_option maxHeartbeats 2000000 in
theorem rline_lock {B : Nat} (x1 x2 x3 x5 x6 x7 : Int) (w : World) (hT : Tb B w) (hB : B ≤ w.heap.size) (hv : (-1 ≤ x1 ∧ x1 < 1000) ∧ (-1 ≤ x2 ∧ x2 < 1000)) :
    Calls Tryd.prog 30 #[(⟨4, x1, x2, x3, 1, x5, x6, x7⟩ : Ins).V] w fun e w' => e = .returned (.string (joinT ⟨#[108, 111, 99, 107]⟩ [x1, x2])) ∧ Below w.heap.size w w' := by
  have HT := Kp.mk hT
  have HV := Kp.mk hv
  have M := Kp.mk (XM.start w (c8 4 x1 x2 x3 1 x5 x6 x7))
  clear hT hv
  obtain ⟨d0, d1, d2, d3, d4, d5, d6, d7⟩ := M.out.cells
  clear d3 d5 d6 d7
  go_enter Tryd.func30, Tryd.ntmps30
  go_wp2_with fail
  refine (words50 (B := B) ⟨#[108, 111, 99, 107]⟩ [x1, x2] (w.heap.size + 1) 2 _ (HT.out.on hB (M.out.below.alloc M.out.below.size _)) (by simp; omega) (by exact IntsAt.row (heap_at (by simp) _) rfl) (by decide) (by simp) (by simpa using HV.out)).mono ?_
  rintro e w2 ⟨rfl, hb⟩
  have HB := Kp.mk ((M.out.below.alloc M.out.below.size _).trans (hb.mono (by simp; omega)))
  clear hb
  go_wp2
  go_ret
  exact ⟨rfl, HB.out⟩

set_option maxRecDepth 100000 in
set_option maxHeartbeats 2000000 in
theorem rline_load {B : Nat} (x1 x2 x3 x4 x5 x6 x7 : Int) (w : World) (hT : Tb B w) (hB : B ≤ w.heap.size) (hv : (-1 ≤ x1 ∧ x1 < 1000) ∧ (-1 ≤ x3 ∧ x3 < 1000)) :
    Calls Tryd.prog 30 #[(⟨5, x1, x2, x3, x4, x5, x6, x7⟩ : Ins).V] w fun e w' => e = .returned (.string (joinT ⟨#[108, 111, 97, 100]⟩ [x1, x3])) ∧ Below w.heap.size w w' := by
  have HT := Kp.mk hT
  have HV := Kp.mk hv
  have M := Kp.mk (XM.start w (c8 5 x1 x2 x3 x4 x5 x6 x7))
  clear hT hv
  obtain ⟨d0, d1, d2, d3, d4, d5, d6, d7⟩ := M.out.cells
  clear d2 d4 d5 d6 d7
  go_enter Tryd.func30, Tryd.ntmps30
  go_wp2_with fail
  refine (words50 (B := B) ⟨#[108, 111, 97, 100]⟩ [x1, x3] (w.heap.size + 1) 2 _ (HT.out.on hB (M.out.below.alloc M.out.below.size _)) (by simp; omega) (by exact IntsAt.row (heap_at (by simp) _) rfl) (by decide) (by simp) (by simpa using HV.out)).mono ?_
  rintro e w2 ⟨rfl, hb⟩
  have HB := Kp.mk ((M.out.below.alloc M.out.below.size _).trans (hb.mono (by simp; omega)))
  clear hb
  go_wp2
  go_ret
  exact ⟨rfl, HB.out⟩

set_option maxRecDepth 100000 in
set_option maxHeartbeats 2000000 in
theorem rline_store {B : Nat} (x1 x2 x3 x4 x5 x6 x7 : Int) (w : World) (hT : Tb B w) (hB : B ≤ w.heap.size) (hv : (-1 ≤ x1 ∧ x1 < 1000) ∧ (-1 ≤ x3 ∧ x3 < 1000) ∧ (-1 ≤ x4 ∧ x4 < 1000)) :
    Calls Tryd.prog 30 #[(⟨6, x1, x2, x3, x4, x5, x6, x7⟩ : Ins).V] w fun e w' => e = .returned (.string (joinT ⟨#[115, 116, 111, 114, 101]⟩ [x1, x3, x4])) ∧ Below w.heap.size w w' := by
  have HT := Kp.mk hT
  have HV := Kp.mk hv
  have M := Kp.mk (XM.start w (c8 6 x1 x2 x3 x4 x5 x6 x7))
  clear hT hv
  obtain ⟨d0, d1, d2, d3, d4, d5, d6, d7⟩ := M.out.cells
  clear d2 d5 d6 d7
  go_enter Tryd.func30, Tryd.ntmps30
  go_wp2_with fail
  refine (words50 (B := B) ⟨#[115, 116, 111, 114, 101]⟩ [x1, x3, x4] (w.heap.size + 1) 3 _ (HT.out.on hB (M.out.below.alloc M.out.below.size _)) (by simp; omega) (by exact IntsAt.row (heap_at (by simp) _) rfl) (by decide) (by simp) (by simpa using HV.out)).mono ?_
  rintro e w2 ⟨rfl, hb⟩
  have HB := Kp.mk ((M.out.below.alloc M.out.below.size _).trans (hb.mono (by simp; omega)))
  clear hb
  go_wp2
  go_ret
  exact ⟨rfl, HB.out⟩

set_option maxRecDepth 100000 in
set_option maxHeartbeats 2000000 in
theorem rline_read {B : Nat} (x1 x2 x3 x4 x5 x6 x7 : Int) (w : World) (hT : Tb B w) (hB : B ≤ w.heap.size) (hv : (-1 ≤ x5 ∧ x5 < 1000) ∧ (-1 ≤ x1 ∧ x1 < 1000) ∧ (-1 ≤ x3 ∧ x3 < 1000)) :
    Calls Tryd.prog 30 #[(⟨7, x1, x2, x3, x4, x5, x6, x7⟩ : Ins).V] w fun e w' => e = .returned (.string (joinT ⟨#[114, 101, 97, 100]⟩ [x5, x1, x3])) ∧ Below w.heap.size w w' := by
  have HT := Kp.mk hT
  have HV := Kp.mk hv
  have M := Kp.mk (XM.start w (c8 7 x1 x2 x3 x4 x5 x6 x7))
  clear hT hv
  obtain ⟨d0, d1, d2, d3, d4, d5, d6, d7⟩ := M.out.cells
  clear d2 d4 d6 d7
  go_enter Tryd.func30, Tryd.ntmps30
  go_wp2_with fail
  refine (words50 (B := B) ⟨#[114, 101, 97, 100]⟩ [x5, x1, x3] (w.heap.size + 1) 3 _ (HT.out.on hB (M.out.below.alloc M.out.below.size _)) (by simp; omega) (by exact IntsAt.row (heap_at (by simp) _) rfl) (by decide) (by simp) (by simpa using HV.out)).mono ?_
  rintro e w2 ⟨rfl, hb⟩
  have HB := Kp.mk ((M.out.below.alloc M.out.below.size _).trans (hb.mono (by simp; omega)))
  clear hb
  go_wp2
  go_ret
  exact ⟨rfl, HB.out⟩

set_option maxRecDepth 100000 in
set_option maxHeartbeats 2000000 in
theorem rline_write {B : Nat} (x1 x2 x3 x4 x5 x6 x7 : Int) (w : World) (hT : Tb B w) (hB : B ≤ w.heap.size) (hv : (-1 ≤ x5 ∧ x5 < 1000) ∧ (-1 ≤ x1 ∧ x1 < 1000) ∧ (-1 ≤ x3 ∧ x3 < 1000) ∧ (-1 ≤ x4 ∧ x4 < 1000)) :
    Calls Tryd.prog 30 #[(⟨8, x1, x2, x3, x4, x5, x6, x7⟩ : Ins).V] w fun e w' => e = .returned (.string (joinT ⟨#[119, 114, 105, 116, 101]⟩ [x5, x1, x3, x4])) ∧ Below w.heap.size w w' := by
  have HT := Kp.mk hT
  have HV := Kp.mk hv
  have M := Kp.mk (XM.start w (c8 8 x1 x2 x3 x4 x5 x6 x7))
  clear hT hv
  obtain ⟨d0, d1, d2, d3, d4, d5, d6, d7⟩ := M.out.cells
  clear d2 d6 d7
  go_enter Tryd.func30, Tryd.ntmps30
  go_wp2_with fail
  refine (words50 (B := B) ⟨#[119, 114, 105, 116, 101]⟩ [x5, x1, x3, x4] (w.heap.size + 1) 4 _ (HT.out.on hB (M.out.below.alloc M.out.below.size _)) (by simp; omega) (by exact IntsAt.row (heap_at (by simp) _) rfl) (by decide) (by simp) (by simpa using HV.out)).mono ?_
  rintro e w2 ⟨rfl, hb⟩
  have HB := Kp.mk ((M.out.below.alloc M.out.below.size _).trans (hb.mono (by simp; omega)))
  clear hb
  go_wp2
  go_ret
  exact ⟨rfl, HB.out⟩

set_option maxRecDepth 100000 in
set_option maxHeartbeats 2000000 in
theorem rline_truncate {B : Nat} (x1 x2 x3 x4 x5 x6 x7 : Int) (w : World) (hT : Tb B w) (hB : B ≤ w.heap.size) (hv : (-1 ≤ x5 ∧ x5 < 1000) ∧ (-1 ≤ x2 ∧ x2 < 1000)) :
    Calls Tryd.prog 30 #[(⟨9, x1, x2, x3, x4, x5, x6, x7⟩ : Ins).V] w fun e w' => e = .returned (.string (joinT ⟨#[116, 114, 117, 110, 99, 97, 116, 101]⟩ [x5, x2])) ∧ Below w.heap.size w w' := by
  have HT := Kp.mk hT
  have HV := Kp.mk hv
  have M := Kp.mk (XM.start w (c8 9 x1 x2 x3 x4 x5 x6 x7))
  clear hT hv
  obtain ⟨d0, d1, d2, d3, d4, d5, d6, d7⟩ := M.out.cells
  clear d1 d3 d4 d6 d7
  go_enter Tryd.func30, Tryd.ntmps30
  go_wp2_with fail
  refine (words50 (B := B) ⟨#[116, 114, 117, 110, 99, 97, 116, 101]⟩ [x5, x2] (w.heap.size + 1) 2 _ (HT.out.on hB (M.out.below.alloc M.out.below.size _)) (by simp; omega) (by exact IntsAt.row (heap_at (by simp) _) rfl) (by decide) (by simp) (by simpa using HV.out)).mono ?_
  rintro e w2 ⟨rfl, hb⟩
  have HB := Kp.mk ((M.out.below.alloc M.out.below.size _).trans (hb.mono (by simp; omega)))
  clear hb
  go_wp2
  go_ret
  exact ⟨rfl, HB.out⟩

set_option maxRecDepth 100000 in
set_option maxHeartbeats 2000000 in
theorem rline_sync {B : Nat} (x1 x2 x3 x4 x5 x6 x7 : Int) (w : World) (hT : Tb B w) (hB : B ≤ w.heap.size) (hv : (-1 ≤ x5 ∧ x5 < 1000)) :
    Calls Tryd.prog 30 #[(⟨10, x1, x2, x3, x4, x5, x6, x7⟩ : Ins).V] w fun e w' => e = .returned (.string (joinT ⟨#[115, 121, 110, 99]⟩ [x5])) ∧ Below w.heap.size w w' := by
  have HT := Kp.mk hT
  have HV := Kp.mk hv
  have M := Kp.mk (XM.start w (c8 10 x1 x2 x3 x4 x5 x6 x7))
  clear hT hv
  obtain ⟨d0, d1, d2, d3, d4, d5, d6, d7⟩ := M.out.cells
  clear d1 d2 d3 d4 d6 d7
  go_enter Tryd.func30, Tryd.ntmps30
  go_wp2_with fail
  refine (words50 (B := B) ⟨#[115, 121, 110, 99]⟩ [x5] (w.heap.size + 1) 1 _ (HT.out.on hB (M.out.below.alloc M.out.below.size _)) (by simp; omega) (by exact IntsAt.row (heap_at (by simp) _) rfl) (by decide) (by simp) (by simpa using HV.out)).mono ?_
  rintro e w2 ⟨rfl, hb⟩
  have HB := Kp.mk ((M.out.below.alloc M.out.below.size _).trans (hb.mono (by simp; omega)))
  clear hb
  go_wp2
  go_ret
  exact ⟨rfl, HB.out⟩

set_option maxRecDepth 100000 in
set_option maxHeartbeats 2000000 in
theorem rline_fork {B : Nat} (x1 x2 x3 x4 x5 x6 x7 : Int) (w : World) (hT : Tb B w) (hB : B ≤ w.heap.size) (hv : (-1 ≤ x4 ∧ x4 < 1000)) :
    Calls Tryd.prog 30 #[(⟨11, x1, x2, x3, x4, x5, x6, x7⟩ : Ins).V] w fun e w' => e = .returned (.string (joinT ⟨#[102, 111, 114, 107]⟩ [x4])) ∧ Below w.heap.size w w' := by
  have HT := Kp.mk hT
  have HV := Kp.mk hv
  have M := Kp.mk (XM.start w (c8 11 x1 x2 x3 x4 x5 x6 x7))
  clear hT hv
  obtain ⟨d0, d1, d2, d3, d4, d5, d6, d7⟩ := M.out.cells
  clear d1 d2 d3 d5 d6 d7
  go_enter Tryd.func30, Tryd.ntmps30
  go_wp2_with fail
  refine (words50 (B := B) ⟨#[102, 111, 114, 107]⟩ [x4] (w.heap.size + 1) 1 _ (HT.out.on hB (M.out.below.alloc M.out.below.size _)) (by simp; omega) (by exact IntsAt.row (heap_at (by simp) _) rfl) (by decide) (by simp) (by simpa using HV.out)).mono ?_
  rintro e w2 ⟨rfl, hb⟩
  have HB := Kp.mk ((M.out.below.alloc M.out.below.size _).trans (hb.mono (by simp; omega)))
  clear hb
  go_wp2
  go_ret
  exact ⟨rfl, HB.out⟩

set_option maxRecDepth 100000 in
set_option maxHeartbeats 2000000 in
theorem rline_exit (x0 x1 x2 x3 x4 x5 x6 x7 : Int) (w : World) (hv : x0 < 1 ∨ 11 < x0) :
    Calls Tryd.prog 30 #[(⟨x0, x1, x2, x3, x4, x5, x6, x7⟩ : Ins).V] w fun e w' => e = .returned (.string ⟨#[101, 120, 105, 116]⟩) ∧ Below w.heap.size w w' := by
  have M := Kp.mk (XM.start w (c8 x0 x1 x2 x3 x4 x5 x6 x7))
  obtain ⟨d0, d1, d2, d3, d4, d5, d6, d7⟩ := M.out.cells
  clear d1 d2 d3 d4 d5 d6 d7
  have h1 : ¬ x0 = 1 := by omega
  have h2 : ¬ x0 = 2 := by omega
  have h3 : ¬ x0 = 3 := by omega
  have h4 : ¬ x0 = 4 := by omega
  have h5 : ¬ x0 = 5 := by omega
  have h6 : ¬ x0 = 6 := by omega
  have h7 : ¬ x0 = 7 := by omega
  have h8 : ¬ x0 = 8 := by omega
  have h9 : ¬ x0 = 9 := by omega
  have h10 : ¬ x0 = 10 := by omega
  have h11 : ¬ x0 = 11 := by omega
  clear hv
  go_enter Tryd.func30, Tryd.ntmps30
  go_wp2
  go_ret
  exact ⟨rfl, M.out.below⟩

set_option maxRecDepth 100000 in
set_option maxHeartbeats 2000000 in
theorem rline_map {B : Nat} (x1 x2 x3 x4 x5 x6 x7 : Int) (w : World) (hT : Tb B w) (hB : B ≤ w.heap.size) (hv : OkI ⟨1, x1, x2, x3, x4, x5, x6, x7⟩) :
    Calls Tryd.prog 30 #[(⟨1, x1, x2, x3, x4, x5, x6, x7⟩ : Ins).V] w fun e w' => e = .returned (.string (mapR ⟨1, x1, x2, x3, x4, x5, x6, x7⟩)) ∧ Below w.heap.size w w' := by
  have HT := Kp.mk hT
  have HV := Kp.mk hv
  have M := Kp.mk (XM.start w (c8 1 x1 x2 x3 x4 x5 x6 x7))
  clear hT hv
  obtain ⟨d0, d1, d2, d3, d4, d5, d6, d7⟩ := M.out.cells
  clear d1 d2 d3 d4 d5 d6 d7
  have HR := Kp.mk (World.rangeAt_of_block M.out.x 0 8)
  go_enter Tryd.func30, Tryd.ntmps30
  go_wp2_with (first | ((with_reducible refine gate_dst (N := 7) rfl ?_); go_must (refine wpList_load_mid rfl 36 (.tmp 1) rfl w.heap.size 0 rfl _ _ HR.out Tryd.underlying36 rfl (by kernel_rfl) ?_)) | fail)
  refine (mapping49 (B := B) ⟨1, x1, x2, x3, x4, x5, x6, x7⟩ _ (HT.out.on hB M.out.below) (by simp; omega) HV.out).mono ?_
  rintro e w2 ⟨rfl, hb⟩
  have HB := Kp.mk (M.out.below.trans (hb.mono (by simp)))
  clear hb
  go_wp2
  go_ret
  exact ⟨rfl, HB.out⟩

set_option maxRecDepth 100000 in
set_option maxHeartbeats 2000000 in
theorem rline_protect {B : Nat} (x1 x2 x3 x4 x5 x6 x7 : Int) (w : World) (hT : Tb B w) (hB : B ≤ w.heap.size) (hv : (-1 ≤ x1 ∧ x1 < 1000) ∧ (-1 ≤ x2 ∧ x2 < 1000)) :
    Calls Tryd.prog 30 #[(⟨3, x1, x2, x3, x4, x5, x6, x7⟩ : Ins).V] w fun e w' => e = .returned (.string (joinT ⟨#[112, 114, 111, 116, 101, 99, 116]⟩ [x1, x2] ++ rightT x6)) ∧ Below w.heap.size w w' := by
  have HT := Kp.mk hT
  have hz1 := join_size5 [x1, x2] (by simpa using hv) ⟨#[112, 114, 111, 116, 101, 99, 116]⟩
  have HV := Kp.mk hv
  have M := Kp.mk (XM.start w (c8 3 x1 x2 x3 x4 x5 x6 x7))
  clear hT hv
  obtain ⟨d0, d1, d2, d3, d4, d5, d6, d7⟩ := M.out.cells
  clear d3 d4 d5 d7
  have hz2 := right_size x6
  obtain ⟨tc, htc⟩ : ∃ tc, tc = joinT ⟨#[112, 114, 111, 116, 101, 99, 116]⟩ [x1, x2] := ⟨_, rfl⟩
  obtain ⟨tp, htp⟩ : ∃ tp, tp = rightT x6 := ⟨_, rfl⟩
  rw [← htc, ← htp]
  rw [← htc] at hz1
  rw [← htp] at hz2
  simp only [ByteArray.size_mk', List.length_cons, List.length_nil, List.size_toArray] at hz1
  have HTC := Kp.mk htc
  have HTP := Kp.mk htp
  clear htc htp
  have q1 : ¬ (9223372036854775807 < tc.size + tp.size) := by omega
  go_enter Tryd.func30, Tryd.ntmps30
  go_wp2_with fail
  have I := Kp.mk (M.out.next (below_drew1 _))
  go_region_held3 (fun W => W.cell? ⟨w.heap.size, 1, none⟩ = some (.int .i64 x1) ∧ W.cell? ⟨w.heap.size, 2, none⟩ = some (.int .i64 x2) ∧ W.cell? ⟨w.heap.size, 6, none⟩ = some (.int .i64 x6) ∧ Kp (XM w w.heap.size (c8 3 x1 x2 x3 x4 x5 x6 x7) W))
    ((first
       | exact ⟨I.out.cells.2.1, I.out.cells.2.2.1, I.out.cells.2.2.2.2.2.2.1, I⟩
       | (have I := Kp.mk ((M.out.next (below_new _ (.cells #[.int .i64 x1, .int .i64 x2] 3))).next (below_drew1 _)); exact ⟨I.out.cells.2.1, I.out.cells.2.2.1, I.out.cells.2.2.2.2.2.2.1, I⟩)))
    (first
      | (go_at_call 50; refine (words50 (B := B) ⟨#[112, 114, 111, 116, 101, 99, 116]⟩ [x1, x2] (w.heap.size + 1) 2 _ (HT.out.on hB ((M.out.next (below_new _ (.cells #[.int .i64 x1, .int .i64 x2] 3))).next (below_drew1 _)).below) (by simp; omega) (by exact IntsAt.row (W := World.drew _) (heap_at (by simp) _) rfl) (by decide) (by simp) (by simpa using HV.out)).mono ?_; rintro e w' ⟨rfl, hb⟩; have I := Kp.mk (((M.out.next (below_new _ (.cells #[.int .i64 x1, .int .i64 x2] 3))).next (below_drew1 _)).next hb); clear hb; rw [← HTC.out])
      | (go_at_call 51; with_reducible refine (rights51 x6 _).mono ?_; rintro e w' ⟨rfl, rfl⟩; rw [← HTP.out]))
  all_goals
    go_wp2
    go_ret
    exact ⟨rfl, I.out.below⟩
end Go.Proofs.YtiomnlgnhdhffaaDoor
