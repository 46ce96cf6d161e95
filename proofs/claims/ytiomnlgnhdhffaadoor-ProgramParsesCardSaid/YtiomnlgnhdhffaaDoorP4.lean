/-
  The walk of line.instr. Conditions: none but what each theorem names.
-/
import Derived.Test.YtiomnlgnhdhffaaDoorP3
namespace Go.Proofs.YtiomnlgnhdhffaaDoor
open Go.RowKit
set_option linter.unusedVariables false
set_option linter.unusedSimpArgs false

theorem M1.fin {W V : World} {B p R : Nat} {s : St} (h : M1 W B p R s V) (hW : W.heap.size ≤ R) (x : Array Value) : (V.setRow R x).heap[R]? = some (.cells x 36 (0, 0)) ∧ LnAt B p s (V.setRow R x) ∧ W.grownBy (V.setRow R x) (some p) := by
  have hp := h.p
  have hb := h.b
  refine ⟨setRow_heap V R _ _ 36 _ h.r, h.ln.below (by simp [World.setRow]) (fun k hk => setRow_other V _ _ _ (by omega)), ?_⟩
  exact ⟨h.g.os, h.g.tape, h.g.output, by have := h.g.size; simpa [World.setRow] using this, fun k hk hn => by
    rw [setRow_other V _ _ _ (by omega)]
    exact h.g.block k hk hn⟩
theorem M1.bad {W V : World} {B p R : Nat} {s : St} (h : M1 W B p R s V) (hW : W.heap.size ≤ R) : M1 W B p R (s.1, false) (V.setCell ⟨p, 1, none⟩ (.bool false)) := by
  have hp := h.p
  have hb := h.b
  exact ⟨h.ln.setFine false, (Below.heap_setCell V _ _ R (by simp; omega)).trans h.r, h.g.trans (setCell_grown _ _ _ _), hp, hb⟩

/-- The instruction of a line's words, as the program reads it. -/
def insS (s : St) : Ins × St :=
  let w := (nextS s).1
  let t := (nextS s).2
  let a := numS t
  let b := numS a.2
  let c := numS b.2
  let d := numS c.2

  if w = [109, 97, 112] then mapS t
  else if w = [117, 110, 109, 97, 112] then (⟨2, a.1, b.1, 0, 0, 0, 0, 0⟩, b.2)
  else if w = [112, 114, 111, 116, 101, 99, 116] then (⟨3, a.1, b.1, 0, 0, 0, (protS b.2).1, 0⟩, (protS b.2).2)
  else if w = [108, 111, 99, 107] then (⟨4, a.1, b.1, 0, 1, 0, 0, 0⟩, b.2)
  else if w = [117, 110, 108, 111, 99, 107] then (⟨4, a.1, b.1, 0, 0, 0, 0, 0⟩, b.2)
  else if w = [108, 111, 97, 100] then (⟨5, a.1, 0, b.1, 0, 0, 0, 0⟩, b.2)
  else if w = [115, 116, 111, 114, 101] then (⟨6, a.1, 0, b.1, c.1, 0, 0, 0⟩, c.2)
  else if w = [114, 101, 97, 100] then (⟨7, b.1, 0, c.1, 0, a.1, 0, 0⟩, c.2)
  else if w = [119, 114, 105, 116, 101] then (⟨8, b.1, 0, c.1, d.1, a.1, 0, 0⟩, d.2)
  else if w = [116, 114, 117, 110, 99, 97, 116, 101] then (⟨9, 0, b.1, 0, 0, a.1, 0, 0⟩, b.2)
  else if w = [115, 121, 110, 99] then (⟨10, 0, 0, 0, 0, a.1, 0, 0⟩, a.2)
  else if w = [102, 111, 114, 107] then (⟨11, 0, 0, 0, a.1, 0, 0, 0⟩, a.2)
  else if w = [101, 120, 105, 116] then (⟨12, 0, 0, 0, 0, 0, 0, 0⟩, t)
  else (⟨0, 0, 0, 0, 0, 0, 0, 0⟩, (t.1, false))

set_option maxRecDepth 100000 in
set_option maxHeartbeats 4000000 in
theorem instr_unmap {B p : Nat} {s : St} (W : World) (h : LnAt B p s W) (hw : (nextS s).1 = [117, 110, 109, 97, 112]) : Calls Tryd.prog 24 #[.pointer (some ⟨p, 0, none⟩)] W fun e W' => e = .returned (insS s).1.V ∧ LnAt B p (insS s).2 W' ∧ W.grownBy W' (some p) := by
  have M := Kp.mk (M1.start h)
  clear h
  have HE := Kp.mk (show insS s = (⟨2, (numS (nextS s).2).1, (numS (numS (nextS s).2).2).1, 0, 0, 0, 0, 0⟩, (numS (numS (nextS s).2).2).2) by simp only [insS, hw]; rfl)
  have q0 : ((bstr (nextS s).1).toList == [109, 97, 112]) = false := by rw [bstr_list, hw]; rfl
  have q1 : ((bstr (nextS s).1).toList == [117, 110, 109, 97, 112]) = true := by rw [bstr_list, hw]; rfl
  have q2 : ((bstr (nextS s).1).toList == [112, 114, 111, 116, 101, 99, 116]) = false := by rw [bstr_list, hw]; rfl
  have q3 : ((bstr (nextS s).1).toList == [108, 111, 99, 107]) = false := by rw [bstr_list, hw]; rfl
  have q4 : ((bstr (nextS s).1).toList == [117, 110, 108, 111, 99, 107]) = false := by rw [bstr_list, hw]; rfl
  have q5 : ((bstr (nextS s).1).toList == [108, 111, 97, 100]) = false := by rw [bstr_list, hw]; rfl
  have q6 : ((bstr (nextS s).1).toList == [115, 116, 111, 114, 101]) = false := by rw [bstr_list, hw]; rfl
  have q7 : ((bstr (nextS s).1).toList == [114, 101, 97, 100]) = false := by rw [bstr_list, hw]; rfl
  have q8 : ((bstr (nextS s).1).toList == [119, 114, 105, 116, 101]) = false := by rw [bstr_list, hw]; rfl
  have q9 : ((bstr (nextS s).1).toList == [116, 114, 117, 110, 99, 97, 116, 101]) = false := by rw [bstr_list, hw]; rfl
  have q10 : ((bstr (nextS s).1).toList == [115, 121, 110, 99]) = false := by rw [bstr_list, hw]; rfl
  have q11 : ((bstr (nextS s).1).toList == [102, 111, 114, 107]) = false := by rw [bstr_list, hw]; rfl
  have q12 : ((bstr (nextS s).1).toList == [101, 120, 105, 116]) = false := by rw [bstr_list, hw]; rfl
  clear hw
  go_enter Tryd.func24, Tryd.ntmps24
  go_wp2_with fail
  refine (next36 _ M.out.ln).mono ?_
  rintro e V0 ⟨rfl, hl, hg⟩
  have M := Kp.mk (M.out.call hl hg)
  clear hl hg
  go_wp2_with fail
  refine (number38 _ M.out.ln).mono ?_
  rintro e V1 ⟨rfl, hl, hg⟩
  have M := Kp.mk (M.out.call hl hg)
  clear hl hg
  have M := Kp.mk (M.out.box (c8 0 ((numS (nextS s).2).1) 0 0 0 0 0 0))
  go_wp2_with fail
  try clear d0 d1 d2 d3 d4 d5 d6 d7 df f0 f1 f2 f3 f4 f5 f6
  refine (number38 _ M.out.m.ln).mono ?_
  rintro e V2 ⟨rfl, hl, hg⟩
  have M := Kp.mk (M.out.call hl hg)
  clear hl hg
  obtain ⟨d0, d1, d2, d3, d4, d5, d6, d7, df⟩ := M.out.cells
  have f0 := df 0
  have f1 := df 1
  have f2 := df 2
  have f3 := df 3
  have f4 := df 4
  have f5 := df 5
  have f6 := df 6
  have M : Kp (M2 W B p W.heap.size V1.heap.size _ (c8 0 ((numS (nextS s).2).1) ((numS (numS (nextS s).2).2).1) 0 0 0 0 0) (V2.setCell ⟨V1.heap.size, 2, none⟩ (.int .i64 (numS (numS (nextS s).2).2).1))) := ⟨M.out.set (Nat.le_refl _) 2 _⟩
  have M : Kp (M2 W B p W.heap.size V1.heap.size _ (c8 2 ((numS (nextS s).2).1) ((numS (numS (nextS s).2).2).1) 0 0 0 0 0) ((V2.setCell ⟨V1.heap.size, 2, none⟩ (.int .i64 (numS (numS (nextS s).2).2).1)).setCell ⟨V1.heap.size, 0, none⟩ (.int .i64 2))) := ⟨M.out.set (Nat.le_refl _) 0 _⟩
  obtain ⟨e0, e1, e2, e3, e4, e5, e6, e7, ef⟩ := M.out.cells
  have MR := M.out.m.r
  have KF := M.out.fin (Nat.le_refl _)
  go_wp2_with ((with_reducible refine gate_op (op := .store 36 (.tmp 2) (.tmp 43)) rfl ?_); go_must (refine wpList_store_row rfl 36 (.tmp 2) (.tmp 43) rfl W.heap.size _ rfl rfl 36 (c8 0 0 0 0 0 0 0 0) MR (by kernel_rfl) rfl (by simp [Value.oneCell']) ?_))
  obtain ⟨k1, k2, k3⟩ := KF
  exact bodyPost_ret (v := .agg (c8 2 ((numS (nextS s).2).1) ((numS (numS (nextS s).2).2).1) 0 0 0 0 0)) (results_row rfl _ _ W.heap.size 36 _ (0, 0) _ rfl k1 Tryd.underlying36 rfl (by kernel_rfl)) rfl ⟨by rw [HE.out]; rfl, by rw [HE.out]; exact k2, k3⟩

set_option maxRecDepth 100000 in
set_option maxHeartbeats 4000000 in
theorem instr_protect {B p : Nat} {s : St} (W : World) (h : LnAt B p s W) (hw : (nextS s).1 = [112, 114, 111, 116, 101, 99, 116]) : Calls Tryd.prog 24 #[.pointer (some ⟨p, 0, none⟩)] W fun e W' => e = .returned (insS s).1.V ∧ LnAt B p (insS s).2 W' ∧ W.grownBy W' (some p) := by
  have M := Kp.mk (M1.start h)
  clear h
  have HE := Kp.mk (show insS s = (⟨3, (numS (nextS s).2).1, (numS (numS (nextS s).2).2).1, 0, 0, 0, (protS (numS (numS (nextS s).2).2).2).1, 0⟩, (protS (numS (numS (nextS s).2).2).2).2) by simp only [insS, hw]; rfl)
  have q0 : ((bstr (nextS s).1).toList == [109, 97, 112]) = false := by rw [bstr_list, hw]; rfl
  have q1 : ((bstr (nextS s).1).toList == [117, 110, 109, 97, 112]) = false := by rw [bstr_list, hw]; rfl
  have q2 : ((bstr (nextS s).1).toList == [112, 114, 111, 116, 101, 99, 116]) = true := by rw [bstr_list, hw]; rfl
  have q3 : ((bstr (nextS s).1).toList == [108, 111, 99, 107]) = false := by rw [bstr_list, hw]; rfl
  have q4 : ((bstr (nextS s).1).toList == [117, 110, 108, 111, 99, 107]) = false := by rw [bstr_list, hw]; rfl
  have q5 : ((bstr (nextS s).1).toList == [108, 111, 97, 100]) = false := by rw [bstr_list, hw]; rfl
  have q6 : ((bstr (nextS s).1).toList == [115, 116, 111, 114, 101]) = false := by rw [bstr_list, hw]; rfl
  have q7 : ((bstr (nextS s).1).toList == [114, 101, 97, 100]) = false := by rw [bstr_list, hw]; rfl
  have q8 : ((bstr (nextS s).1).toList == [119, 114, 105, 116, 101]) = false := by rw [bstr_list, hw]; rfl
  have q9 : ((bstr (nextS s).1).toList == [116, 114, 117, 110, 99, 97, 116, 101]) = false := by rw [bstr_list, hw]; rfl
  have q10 : ((bstr (nextS s).1).toList == [115, 121, 110, 99]) = false := by rw [bstr_list, hw]; rfl
  have q11 : ((bstr (nextS s).1).toList == [102, 111, 114, 107]) = false := by rw [bstr_list, hw]; rfl
  have q12 : ((bstr (nextS s).1).toList == [101, 120, 105, 116]) = false := by rw [bstr_list, hw]; rfl
  clear hw
  go_enter Tryd.func24, Tryd.ntmps24
  go_wp2_with fail
  refine (next36 _ M.out.ln).mono ?_
  rintro e V0 ⟨rfl, hl, hg⟩
  have M := Kp.mk (M.out.call hl hg)
  clear hl hg
  go_wp2_with fail
  refine (number38 _ M.out.ln).mono ?_
  rintro e V1 ⟨rfl, hl, hg⟩
  have M := Kp.mk (M.out.call hl hg)
  clear hl hg
  have M := Kp.mk (M.out.box (c8 0 ((numS (nextS s).2).1) 0 0 0 0 0 0))
  go_wp2_with fail
  try clear d0 d1 d2 d3 d4 d5 d6 d7 df f0 f1 f2 f3 f4 f5 f6
  refine (number38 _ M.out.m.ln).mono ?_
  rintro e V2 ⟨rfl, hl, hg⟩
  have M := Kp.mk (M.out.call hl hg)
  clear hl hg
  obtain ⟨d0, d1, d2, d3, d4, d5, d6, d7, df⟩ := M.out.cells
  have f0 := df 0
  have f1 := df 1
  have f2 := df 2
  have f3 := df 3
  have f4 := df 4
  have f5 := df 5
  have f6 := df 6
  have M : Kp (M2 W B p W.heap.size V1.heap.size _ (c8 0 ((numS (nextS s).2).1) ((numS (numS (nextS s).2).2).1) 0 0 0 0 0) (V2.setCell ⟨V1.heap.size, 2, none⟩ (.int .i64 (numS (numS (nextS s).2).2).1))) := ⟨M.out.set (Nat.le_refl _) 2 _⟩
  have M : Kp (M2 W B p W.heap.size V1.heap.size _ (c8 3 ((numS (nextS s).2).1) ((numS (numS (nextS s).2).2).1) 0 0 0 0 0) ((V2.setCell ⟨V1.heap.size, 2, none⟩ (.int .i64 (numS (numS (nextS s).2).2).1)).setCell ⟨V1.heap.size, 0, none⟩ (.int .i64 3))) := ⟨M.out.set (Nat.le_refl _) 0 _⟩
  go_wp2_with fail
  try clear d0 d1 d2 d3 d4 d5 d6 d7 df f0 f1 f2 f3 f4 f5 f6
  refine (prot39 _ M.out.m.ln).mono ?_
  rintro e V3 ⟨rfl, hl, hg⟩
  have M := Kp.mk (M.out.call hl hg)
  clear hl hg
  obtain ⟨d0, d1, d2, d3, d4, d5, d6, d7, df⟩ := M.out.cells
  have f0 := df 0
  have f1 := df 1
  have f2 := df 2
  have f3 := df 3
  have f4 := df 4
  have f5 := df 5
  have f6 := df 6
  have M : Kp (M2 W B p W.heap.size V1.heap.size _ (c8 3 ((numS (nextS s).2).1) ((numS (numS (nextS s).2).2).1) 0 0 0 ((protS (numS (numS (nextS s).2).2).2).1) 0) (V3.setCell ⟨V1.heap.size, 6, none⟩ (.int .i64 (protS (numS (numS (nextS s).2).2).2).1))) := ⟨M.out.set (Nat.le_refl _) 6 _⟩
  obtain ⟨e0, e1, e2, e3, e4, e5, e6, e7, ef⟩ := M.out.cells
  have MR := M.out.m.r
  have KF := M.out.fin (Nat.le_refl _)
  go_wp2_with ((with_reducible refine gate_op (op := .store 36 (.tmp 2) (.tmp 43)) rfl ?_); go_must (refine wpList_store_row rfl 36 (.tmp 2) (.tmp 43) rfl W.heap.size _ rfl rfl 36 (c8 0 0 0 0 0 0 0 0) MR (by kernel_rfl) rfl (by simp [Value.oneCell']) ?_))
  obtain ⟨k1, k2, k3⟩ := KF
  exact bodyPost_ret (v := .agg (c8 3 ((numS (nextS s).2).1) ((numS (numS (nextS s).2).2).1) 0 0 0 ((protS (numS (numS (nextS s).2).2).2).1) 0)) (results_row rfl _ _ W.heap.size 36 _ (0, 0) _ rfl k1 Tryd.underlying36 rfl (by kernel_rfl)) rfl ⟨by rw [HE.out]; rfl, by rw [HE.out]; exact k2, k3⟩

set_option maxRecDepth 100000 in
set_option maxHeartbeats 4000000 in
theorem instr_lock {B p : Nat} {s : St} (W : World) (h : LnAt B p s W) (hw : (nextS s).1 = [108, 111, 99, 107]) : Calls Tryd.prog 24 #[.pointer (some ⟨p, 0, none⟩)] W fun e W' => e = .returned (insS s).1.V ∧ LnAt B p (insS s).2 W' ∧ W.grownBy W' (some p) := by
  have M := Kp.mk (M1.start h)
  clear h
  have HE := Kp.mk (show insS s = (⟨4, (numS (nextS s).2).1, (numS (numS (nextS s).2).2).1, 0, 1, 0, 0, 0⟩, (numS (numS (nextS s).2).2).2) by simp only [insS, hw]; rfl)
  have q0 : ((bstr (nextS s).1).toList == [109, 97, 112]) = false := by rw [bstr_list, hw]; rfl
  have q1 : ((bstr (nextS s).1).toList == [117, 110, 109, 97, 112]) = false := by rw [bstr_list, hw]; rfl
  have q2 : ((bstr (nextS s).1).toList == [112, 114, 111, 116, 101, 99, 116]) = false := by rw [bstr_list, hw]; rfl
  have q3 : ((bstr (nextS s).1).toList == [108, 111, 99, 107]) = true := by rw [bstr_list, hw]; rfl
  have q4 : ((bstr (nextS s).1).toList == [117, 110, 108, 111, 99, 107]) = false := by rw [bstr_list, hw]; rfl
  have q5 : ((bstr (nextS s).1).toList == [108, 111, 97, 100]) = false := by rw [bstr_list, hw]; rfl
  have q6 : ((bstr (nextS s).1).toList == [115, 116, 111, 114, 101]) = false := by rw [bstr_list, hw]; rfl
  have q7 : ((bstr (nextS s).1).toList == [114, 101, 97, 100]) = false := by rw [bstr_list, hw]; rfl
  have q8 : ((bstr (nextS s).1).toList == [119, 114, 105, 116, 101]) = false := by rw [bstr_list, hw]; rfl
  have q9 : ((bstr (nextS s).1).toList == [116, 114, 117, 110, 99, 97, 116, 101]) = false := by rw [bstr_list, hw]; rfl
  have q10 : ((bstr (nextS s).1).toList == [115, 121, 110, 99]) = false := by rw [bstr_list, hw]; rfl
  have q11 : ((bstr (nextS s).1).toList == [102, 111, 114, 107]) = false := by rw [bstr_list, hw]; rfl
  have q12 : ((bstr (nextS s).1).toList == [101, 120, 105, 116]) = false := by rw [bstr_list, hw]; rfl
  clear hw
  go_enter Tryd.func24, Tryd.ntmps24
  go_wp2_with fail
  refine (next36 _ M.out.ln).mono ?_
  rintro e V0 ⟨rfl, hl, hg⟩
  have M := Kp.mk (M.out.call hl hg)
  clear hl hg
  go_wp2_with fail
  refine (number38 _ M.out.ln).mono ?_
  rintro e V1 ⟨rfl, hl, hg⟩
  have M := Kp.mk (M.out.call hl hg)
  clear hl hg
  have M := Kp.mk (M.out.box (c8 0 ((numS (nextS s).2).1) 0 0 0 0 0 0))
  go_wp2_with fail
  try clear d0 d1 d2 d3 d4 d5 d6 d7 df f0 f1 f2 f3 f4 f5 f6
  refine (number38 _ M.out.m.ln).mono ?_
  rintro e V2 ⟨rfl, hl, hg⟩
  have M := Kp.mk (M.out.call hl hg)
  clear hl hg
  obtain ⟨d0, d1, d2, d3, d4, d5, d6, d7, df⟩ := M.out.cells
  have f0 := df 0
  have f1 := df 1
  have f2 := df 2
  have f3 := df 3
  have f4 := df 4
  have f5 := df 5
  have f6 := df 6
  have M : Kp (M2 W B p W.heap.size V1.heap.size _ (c8 0 ((numS (nextS s).2).1) ((numS (numS (nextS s).2).2).1) 0 0 0 0 0) (V2.setCell ⟨V1.heap.size, 2, none⟩ (.int .i64 (numS (numS (nextS s).2).2).1))) := ⟨M.out.set (Nat.le_refl _) 2 _⟩
  have M : Kp (M2 W B p W.heap.size V1.heap.size _ (c8 4 ((numS (nextS s).2).1) ((numS (numS (nextS s).2).2).1) 0 0 0 0 0) ((V2.setCell ⟨V1.heap.size, 2, none⟩ (.int .i64 (numS (numS (nextS s).2).2).1)).setCell ⟨V1.heap.size, 0, none⟩ (.int .i64 4))) := ⟨M.out.set (Nat.le_refl _) 0 _⟩
  have M : Kp (M2 W B p W.heap.size V1.heap.size _ (c8 4 ((numS (nextS s).2).1) ((numS (numS (nextS s).2).2).1) 0 1 0 0 0) (((V2.setCell ⟨V1.heap.size, 2, none⟩ (.int .i64 (numS (numS (nextS s).2).2).1)).setCell ⟨V1.heap.size, 0, none⟩ (.int .i64 4)).setCell ⟨V1.heap.size, 4, none⟩ (.int .i64 1))) := ⟨M.out.set (Nat.le_refl _) 4 _⟩
  obtain ⟨e0, e1, e2, e3, e4, e5, e6, e7, ef⟩ := M.out.cells
  have MR := M.out.m.r
  have KF := M.out.fin (Nat.le_refl _)
  go_wp2_with ((with_reducible refine gate_op (op := .store 36 (.tmp 2) (.tmp 43)) rfl ?_); go_must (refine wpList_store_row rfl 36 (.tmp 2) (.tmp 43) rfl W.heap.size _ rfl rfl 36 (c8 0 0 0 0 0 0 0 0) MR (by kernel_rfl) rfl (by simp [Value.oneCell']) ?_))
  obtain ⟨k1, k2, k3⟩ := KF
  exact bodyPost_ret (v := .agg (c8 4 ((numS (nextS s).2).1) ((numS (numS (nextS s).2).2).1) 0 1 0 0 0)) (results_row rfl _ _ W.heap.size 36 _ (0, 0) _ rfl k1 Tryd.underlying36 rfl (by kernel_rfl)) rfl ⟨by rw [HE.out]; rfl, by rw [HE.out]; exact k2, k3⟩

set_option maxRecDepth 100000 in
set_option maxHeartbeats 4000000 in
theorem instr_unlock {B p : Nat} {s : St} (W : World) (h : LnAt B p s W) (hw : (nextS s).1 = [117, 110, 108, 111, 99, 107]) : Calls Tryd.prog 24 #[.pointer (some ⟨p, 0, none⟩)] W fun e W' => e = .returned (insS s).1.V ∧ LnAt B p (insS s).2 W' ∧ W.grownBy W' (some p) := by
  have M := Kp.mk (M1.start h)
  clear h
  have HE := Kp.mk (show insS s = (⟨4, (numS (nextS s).2).1, (numS (numS (nextS s).2).2).1, 0, 0, 0, 0, 0⟩, (numS (numS (nextS s).2).2).2) by simp only [insS, hw]; rfl)
  have q0 : ((bstr (nextS s).1).toList == [109, 97, 112]) = false := by rw [bstr_list, hw]; rfl
  have q1 : ((bstr (nextS s).1).toList == [117, 110, 109, 97, 112]) = false := by rw [bstr_list, hw]; rfl
  have q2 : ((bstr (nextS s).1).toList == [112, 114, 111, 116, 101, 99, 116]) = false := by rw [bstr_list, hw]; rfl
  have q3 : ((bstr (nextS s).1).toList == [108, 111, 99, 107]) = false := by rw [bstr_list, hw]; rfl
  have q4 : ((bstr (nextS s).1).toList == [117, 110, 108, 111, 99, 107]) = true := by rw [bstr_list, hw]; rfl
  have q5 : ((bstr (nextS s).1).toList == [108, 111, 97, 100]) = false := by rw [bstr_list, hw]; rfl
  have q6 : ((bstr (nextS s).1).toList == [115, 116, 111, 114, 101]) = false := by rw [bstr_list, hw]; rfl
  have q7 : ((bstr (nextS s).1).toList == [114, 101, 97, 100]) = false := by rw [bstr_list, hw]; rfl
  have q8 : ((bstr (nextS s).1).toList == [119, 114, 105, 116, 101]) = false := by rw [bstr_list, hw]; rfl
  have q9 : ((bstr (nextS s).1).toList == [116, 114, 117, 110, 99, 97, 116, 101]) = false := by rw [bstr_list, hw]; rfl
  have q10 : ((bstr (nextS s).1).toList == [115, 121, 110, 99]) = false := by rw [bstr_list, hw]; rfl
  have q11 : ((bstr (nextS s).1).toList == [102, 111, 114, 107]) = false := by rw [bstr_list, hw]; rfl
  have q12 : ((bstr (nextS s).1).toList == [101, 120, 105, 116]) = false := by rw [bstr_list, hw]; rfl
  clear hw
  go_enter Tryd.func24, Tryd.ntmps24
  go_wp2_with fail
  refine (next36 _ M.out.ln).mono ?_
  rintro e V0 ⟨rfl, hl, hg⟩
  have M := Kp.mk (M.out.call hl hg)
  clear hl hg
  go_wp2_with fail
  refine (number38 _ M.out.ln).mono ?_
  rintro e V1 ⟨rfl, hl, hg⟩
  have M := Kp.mk (M.out.call hl hg)
  clear hl hg
  have M := Kp.mk (M.out.box (c8 0 ((numS (nextS s).2).1) 0 0 0 0 0 0))
  go_wp2_with fail
  try clear d0 d1 d2 d3 d4 d5 d6 d7 df f0 f1 f2 f3 f4 f5 f6
  refine (number38 _ M.out.m.ln).mono ?_
  rintro e V2 ⟨rfl, hl, hg⟩
  have M := Kp.mk (M.out.call hl hg)
  clear hl hg
  obtain ⟨d0, d1, d2, d3, d4, d5, d6, d7, df⟩ := M.out.cells
  have f0 := df 0
  have f1 := df 1
  have f2 := df 2
  have f3 := df 3
  have f4 := df 4
  have f5 := df 5
  have f6 := df 6
  have M : Kp (M2 W B p W.heap.size V1.heap.size _ (c8 0 ((numS (nextS s).2).1) ((numS (numS (nextS s).2).2).1) 0 0 0 0 0) (V2.setCell ⟨V1.heap.size, 2, none⟩ (.int .i64 (numS (numS (nextS s).2).2).1))) := ⟨M.out.set (Nat.le_refl _) 2 _⟩
  have M : Kp (M2 W B p W.heap.size V1.heap.size _ (c8 4 ((numS (nextS s).2).1) ((numS (numS (nextS s).2).2).1) 0 0 0 0 0) ((V2.setCell ⟨V1.heap.size, 2, none⟩ (.int .i64 (numS (numS (nextS s).2).2).1)).setCell ⟨V1.heap.size, 0, none⟩ (.int .i64 4))) := ⟨M.out.set (Nat.le_refl _) 0 _⟩
  obtain ⟨e0, e1, e2, e3, e4, e5, e6, e7, ef⟩ := M.out.cells
  have MR := M.out.m.r
  have KF := M.out.fin (Nat.le_refl _)
  go_wp2_with ((with_reducible refine gate_op (op := .store 36 (.tmp 2) (.tmp 43)) rfl ?_); go_must (refine wpList_store_row rfl 36 (.tmp 2) (.tmp 43) rfl W.heap.size _ rfl rfl 36 (c8 0 0 0 0 0 0 0 0) MR (by kernel_rfl) rfl (by simp [Value.oneCell']) ?_))
  obtain ⟨k1, k2, k3⟩ := KF
  exact bodyPost_ret (v := .agg (c8 4 ((numS (nextS s).2).1) ((numS (numS (nextS s).2).2).1) 0 0 0 0 0)) (results_row rfl _ _ W.heap.size 36 _ (0, 0) _ rfl k1 Tryd.underlying36 rfl (by kernel_rfl)) rfl ⟨by rw [HE.out]; rfl, by rw [HE.out]; exact k2, k3⟩

set_option maxRecDepth 100000 in
set_option maxHeartbeats 4000000 in
theorem instr_load {B p : Nat} {s : St} (W : World) (h : LnAt B p s W) (hw : (nextS s).1 = [108, 111, 97, 100]) : Calls Tryd.prog 24 #[.pointer (some ⟨p, 0, none⟩)] W fun e W' => e = .returned (insS s).1.V ∧ LnAt B p (insS s).2 W' ∧ W.grownBy W' (some p) := by
  have M := Kp.mk (M1.start h)
  clear h
  have HE := Kp.mk (show insS s = (⟨5, (numS (nextS s).2).1, 0, (numS (numS (nextS s).2).2).1, 0, 0, 0, 0⟩, (numS (numS (nextS s).2).2).2) by simp only [insS, hw]; rfl)
  have q0 : ((bstr (nextS s).1).toList == [109, 97, 112]) = false := by rw [bstr_list, hw]; rfl
  have q1 : ((bstr (nextS s).1).toList == [117, 110, 109, 97, 112]) = false := by rw [bstr_list, hw]; rfl
  have q2 : ((bstr (nextS s).1).toList == [112, 114, 111, 116, 101, 99, 116]) = false := by rw [bstr_list, hw]; rfl
  have q3 : ((bstr (nextS s).1).toList == [108, 111, 99, 107]) = false := by rw [bstr_list, hw]; rfl
  have q4 : ((bstr (nextS s).1).toList == [117, 110, 108, 111, 99, 107]) = false := by rw [bstr_list, hw]; rfl
  have q5 : ((bstr (nextS s).1).toList == [108, 111, 97, 100]) = true := by rw [bstr_list, hw]; rfl
  have q6 : ((bstr (nextS s).1).toList == [115, 116, 111, 114, 101]) = false := by rw [bstr_list, hw]; rfl
  have q7 : ((bstr (nextS s).1).toList == [114, 101, 97, 100]) = false := by rw [bstr_list, hw]; rfl
  have q8 : ((bstr (nextS s).1).toList == [119, 114, 105, 116, 101]) = false := by rw [bstr_list, hw]; rfl
  have q9 : ((bstr (nextS s).1).toList == [116, 114, 117, 110, 99, 97, 116, 101]) = false := by rw [bstr_list, hw]; rfl
  have q10 : ((bstr (nextS s).1).toList == [115, 121, 110, 99]) = false := by rw [bstr_list, hw]; rfl
  have q11 : ((bstr (nextS s).1).toList == [102, 111, 114, 107]) = false := by rw [bstr_list, hw]; rfl
  have q12 : ((bstr (nextS s).1).toList == [101, 120, 105, 116]) = false := by rw [bstr_list, hw]; rfl
  clear hw
  go_enter Tryd.func24, Tryd.ntmps24
  go_wp2_with fail
  refine (next36 _ M.out.ln).mono ?_
  rintro e V0 ⟨rfl, hl, hg⟩
  have M := Kp.mk (M.out.call hl hg)
  clear hl hg
  go_wp2_with fail
  refine (number38 _ M.out.ln).mono ?_
  rintro e V1 ⟨rfl, hl, hg⟩
  have M := Kp.mk (M.out.call hl hg)
  clear hl hg
  have M := Kp.mk (M.out.box (c8 5 ((numS (nextS s).2).1) 0 0 0 0 0 0))
  go_wp2_with fail
  try clear d0 d1 d2 d3 d4 d5 d6 d7 df f0 f1 f2 f3 f4 f5 f6
  refine (number38 _ M.out.m.ln).mono ?_
  rintro e V2 ⟨rfl, hl, hg⟩
  have M := Kp.mk (M.out.call hl hg)
  clear hl hg
  obtain ⟨d0, d1, d2, d3, d4, d5, d6, d7, df⟩ := M.out.cells
  have f0 := df 0
  have f1 := df 1
  have f2 := df 2
  have f3 := df 3
  have f4 := df 4
  have f5 := df 5
  have f6 := df 6
  have M : Kp (M2 W B p W.heap.size V1.heap.size _ (c8 5 ((numS (nextS s).2).1) 0 ((numS (numS (nextS s).2).2).1) 0 0 0 0) (V2.setCell ⟨V1.heap.size, 3, none⟩ (.int .i64 (numS (numS (nextS s).2).2).1))) := ⟨M.out.set (Nat.le_refl _) 3 _⟩
  obtain ⟨e0, e1, e2, e3, e4, e5, e6, e7, ef⟩ := M.out.cells
  have MR := M.out.m.r
  have KF := M.out.fin (Nat.le_refl _)
  go_wp2_with ((with_reducible refine gate_op (op := .store 36 (.tmp 2) (.tmp 59)) rfl ?_); go_must (refine wpList_store_row rfl 36 (.tmp 2) (.tmp 59) rfl W.heap.size _ rfl rfl 36 (c8 0 0 0 0 0 0 0 0) MR (by kernel_rfl) rfl (by simp [Value.oneCell']) ?_))
  obtain ⟨k1, k2, k3⟩ := KF
  exact bodyPost_ret (v := .agg (c8 5 ((numS (nextS s).2).1) 0 ((numS (numS (nextS s).2).2).1) 0 0 0 0)) (results_row rfl _ _ W.heap.size 36 _ (0, 0) _ rfl k1 Tryd.underlying36 rfl (by kernel_rfl)) rfl ⟨by rw [HE.out]; rfl, by rw [HE.out]; exact k2, k3⟩

set_option maxRecDepth 100000 in
set_option maxHeartbeats 4000000 in
theorem instr_store {B p : Nat} {s : St} (W : World) (h : LnAt B p s W) (hw : (nextS s).1 = [115, 116, 111, 114, 101]) : Calls Tryd.prog 24 #[.pointer (some ⟨p, 0, none⟩)] W fun e W' => e = .returned (insS s).1.V ∧ LnAt B p (insS s).2 W' ∧ W.grownBy W' (some p) := by
  have M := Kp.mk (M1.start h)
  clear h
  have HE := Kp.mk (show insS s = (⟨6, (numS (nextS s).2).1, 0, (numS (numS (nextS s).2).2).1, (numS (numS (numS (nextS s).2).2).2).1, 0, 0, 0⟩, (numS (numS (numS (nextS s).2).2).2).2) by simp only [insS, hw]; rfl)
  have q0 : ((bstr (nextS s).1).toList == [109, 97, 112]) = false := by rw [bstr_list, hw]; rfl
  have q1 : ((bstr (nextS s).1).toList == [117, 110, 109, 97, 112]) = false := by rw [bstr_list, hw]; rfl
  have q2 : ((bstr (nextS s).1).toList == [112, 114, 111, 116, 101, 99, 116]) = false := by rw [bstr_list, hw]; rfl
  have q3 : ((bstr (nextS s).1).toList == [108, 111, 99, 107]) = false := by rw [bstr_list, hw]; rfl
  have q4 : ((bstr (nextS s).1).toList == [117, 110, 108, 111, 99, 107]) = false := by rw [bstr_list, hw]; rfl
  have q5 : ((bstr (nextS s).1).toList == [108, 111, 97, 100]) = false := by rw [bstr_list, hw]; rfl
  have q6 : ((bstr (nextS s).1).toList == [115, 116, 111, 114, 101]) = true := by rw [bstr_list, hw]; rfl
  have q7 : ((bstr (nextS s).1).toList == [114, 101, 97, 100]) = false := by rw [bstr_list, hw]; rfl
  have q8 : ((bstr (nextS s).1).toList == [119, 114, 105, 116, 101]) = false := by rw [bstr_list, hw]; rfl
  have q9 : ((bstr (nextS s).1).toList == [116, 114, 117, 110, 99, 97, 116, 101]) = false := by rw [bstr_list, hw]; rfl
  have q10 : ((bstr (nextS s).1).toList == [115, 121, 110, 99]) = false := by rw [bstr_list, hw]; rfl
  have q11 : ((bstr (nextS s).1).toList == [102, 111, 114, 107]) = false := by rw [bstr_list, hw]; rfl
  have q12 : ((bstr (nextS s).1).toList == [101, 120, 105, 116]) = false := by rw [bstr_list, hw]; rfl
  clear hw
  go_enter Tryd.func24, Tryd.ntmps24
  go_wp2_with fail
  refine (next36 _ M.out.ln).mono ?_
  rintro e V0 ⟨rfl, hl, hg⟩
  have M := Kp.mk (M.out.call hl hg)
  clear hl hg
  go_wp2_with fail
  refine (number38 _ M.out.ln).mono ?_
  rintro e V1 ⟨rfl, hl, hg⟩
  have M := Kp.mk (M.out.call hl hg)
  clear hl hg
  have M := Kp.mk (M.out.box (c8 5 ((numS (nextS s).2).1) 0 0 0 0 0 0))
  go_wp2_with fail
  try clear d0 d1 d2 d3 d4 d5 d6 d7 df f0 f1 f2 f3 f4 f5 f6
  refine (number38 _ M.out.m.ln).mono ?_
  rintro e V2 ⟨rfl, hl, hg⟩
  have M := Kp.mk (M.out.call hl hg)
  clear hl hg
  obtain ⟨d0, d1, d2, d3, d4, d5, d6, d7, df⟩ := M.out.cells
  have f0 := df 0
  have f1 := df 1
  have f2 := df 2
  have f3 := df 3
  have f4 := df 4
  have f5 := df 5
  have f6 := df 6
  have M : Kp (M2 W B p W.heap.size V1.heap.size _ (c8 5 ((numS (nextS s).2).1) 0 ((numS (numS (nextS s).2).2).1) 0 0 0 0) (V2.setCell ⟨V1.heap.size, 3, none⟩ (.int .i64 (numS (numS (nextS s).2).2).1))) := ⟨M.out.set (Nat.le_refl _) 3 _⟩
  have M : Kp (M2 W B p W.heap.size V1.heap.size _ (c8 6 ((numS (nextS s).2).1) 0 ((numS (numS (nextS s).2).2).1) 0 0 0 0) ((V2.setCell ⟨V1.heap.size, 3, none⟩ (.int .i64 (numS (numS (nextS s).2).2).1)).setCell ⟨V1.heap.size, 0, none⟩ (.int .i64 6))) := ⟨M.out.set (Nat.le_refl _) 0 _⟩
  go_wp2_with fail
  try clear d0 d1 d2 d3 d4 d5 d6 d7 df f0 f1 f2 f3 f4 f5 f6
  refine (number38 _ M.out.m.ln).mono ?_
  rintro e V3 ⟨rfl, hl, hg⟩
  have M := Kp.mk (M.out.call hl hg)
  clear hl hg
  obtain ⟨d0, d1, d2, d3, d4, d5, d6, d7, df⟩ := M.out.cells
  have f0 := df 0
  have f1 := df 1
  have f2 := df 2
  have f3 := df 3
  have f4 := df 4
  have f5 := df 5
  have f6 := df 6
  have M : Kp (M2 W B p W.heap.size V1.heap.size _ (c8 6 ((numS (nextS s).2).1) 0 ((numS (numS (nextS s).2).2).1) ((numS (numS (numS (nextS s).2).2).2).1) 0 0 0) (V3.setCell ⟨V1.heap.size, 4, none⟩ (.int .i64 (numS (numS (numS (nextS s).2).2).2).1))) := ⟨M.out.set (Nat.le_refl _) 4 _⟩
  obtain ⟨e0, e1, e2, e3, e4, e5, e6, e7, ef⟩ := M.out.cells
  have MR := M.out.m.r
  have KF := M.out.fin (Nat.le_refl _)
  go_wp2_with ((with_reducible refine gate_op (op := .store 36 (.tmp 2) (.tmp 59)) rfl ?_); go_must (refine wpList_store_row rfl 36 (.tmp 2) (.tmp 59) rfl W.heap.size _ rfl rfl 36 (c8 0 0 0 0 0 0 0 0) MR (by kernel_rfl) rfl (by simp [Value.oneCell']) ?_))
  obtain ⟨k1, k2, k3⟩ := KF
  exact bodyPost_ret (v := .agg (c8 6 ((numS (nextS s).2).1) 0 ((numS (numS (nextS s).2).2).1) ((numS (numS (numS (nextS s).2).2).2).1) 0 0 0)) (results_row rfl _ _ W.heap.size 36 _ (0, 0) _ rfl k1 Tryd.underlying36 rfl (by kernel_rfl)) rfl ⟨by rw [HE.out]; rfl, by rw [HE.out]; exact k2, k3⟩

set_option maxRecDepth 100000 in
set_option maxHeartbeats 4000000 in
theorem instr_read {B p : Nat} {s : St} (W : World) (h : LnAt B p s W) (hw : (nextS s).1 = [114, 101, 97, 100]) : Calls Tryd.prog 24 #[.pointer (some ⟨p, 0, none⟩)] W fun e W' => e = .returned (insS s).1.V ∧ LnAt B p (insS s).2 W' ∧ W.grownBy W' (some p) := by
  have M := Kp.mk (M1.start h)
  clear h
  have HE := Kp.mk (show insS s = (⟨7, (numS (numS (nextS s).2).2).1, 0, (numS (numS (numS (nextS s).2).2).2).1, 0, (numS (nextS s).2).1, 0, 0⟩, (numS (numS (numS (nextS s).2).2).2).2) by simp only [insS, hw]; rfl)
  have q0 : ((bstr (nextS s).1).toList == [109, 97, 112]) = false := by rw [bstr_list, hw]; rfl
  have q1 : ((bstr (nextS s).1).toList == [117, 110, 109, 97, 112]) = false := by rw [bstr_list, hw]; rfl
  have q2 : ((bstr (nextS s).1).toList == [112, 114, 111, 116, 101, 99, 116]) = false := by rw [bstr_list, hw]; rfl
  have q3 : ((bstr (nextS s).1).toList == [108, 111, 99, 107]) = false := by rw [bstr_list, hw]; rfl
  have q4 : ((bstr (nextS s).1).toList == [117, 110, 108, 111, 99, 107]) = false := by rw [bstr_list, hw]; rfl
  have q5 : ((bstr (nextS s).1).toList == [108, 111, 97, 100]) = false := by rw [bstr_list, hw]; rfl
  have q6 : ((bstr (nextS s).1).toList == [115, 116, 111, 114, 101]) = false := by rw [bstr_list, hw]; rfl
  have q7 : ((bstr (nextS s).1).toList == [114, 101, 97, 100]) = true := by rw [bstr_list, hw]; rfl
  have q8 : ((bstr (nextS s).1).toList == [119, 114, 105, 116, 101]) = false := by rw [bstr_list, hw]; rfl
  have q9 : ((bstr (nextS s).1).toList == [116, 114, 117, 110, 99, 97, 116, 101]) = false := by rw [bstr_list, hw]; rfl
  have q10 : ((bstr (nextS s).1).toList == [115, 121, 110, 99]) = false := by rw [bstr_list, hw]; rfl
  have q11 : ((bstr (nextS s).1).toList == [102, 111, 114, 107]) = false := by rw [bstr_list, hw]; rfl
  have q12 : ((bstr (nextS s).1).toList == [101, 120, 105, 116]) = false := by rw [bstr_list, hw]; rfl
  clear hw
  go_enter Tryd.func24, Tryd.ntmps24
  go_wp2_with fail
  refine (next36 _ M.out.ln).mono ?_
  rintro e V0 ⟨rfl, hl, hg⟩
  have M := Kp.mk (M.out.call hl hg)
  clear hl hg
  go_wp2_with fail
  refine (number38 _ M.out.ln).mono ?_
  rintro e V1 ⟨rfl, hl, hg⟩
  have M := Kp.mk (M.out.call hl hg)
  clear hl hg
  have M := Kp.mk (M.out.box (c8 7 0 0 0 0 ((numS (nextS s).2).1) 0 0))
  go_wp2_with fail
  try clear d0 d1 d2 d3 d4 d5 d6 d7 df f0 f1 f2 f3 f4 f5 f6
  refine (number38 _ M.out.m.ln).mono ?_
  rintro e V2 ⟨rfl, hl, hg⟩
  have M := Kp.mk (M.out.call hl hg)
  clear hl hg
  obtain ⟨d0, d1, d2, d3, d4, d5, d6, d7, df⟩ := M.out.cells
  have f0 := df 0
  have f1 := df 1
  have f2 := df 2
  have f3 := df 3
  have f4 := df 4
  have f5 := df 5
  have f6 := df 6
  have M : Kp (M2 W B p W.heap.size V1.heap.size _ (c8 7 ((numS (numS (nextS s).2).2).1) 0 0 0 ((numS (nextS s).2).1) 0 0) (V2.setCell ⟨V1.heap.size, 1, none⟩ (.int .i64 (numS (numS (nextS s).2).2).1))) := ⟨M.out.set (Nat.le_refl _) 1 _⟩
  go_wp2_with fail
  try clear d0 d1 d2 d3 d4 d5 d6 d7 df f0 f1 f2 f3 f4 f5 f6
  refine (number38 _ M.out.m.ln).mono ?_
  rintro e V3 ⟨rfl, hl, hg⟩
  have M := Kp.mk (M.out.call hl hg)
  clear hl hg
  obtain ⟨d0, d1, d2, d3, d4, d5, d6, d7, df⟩ := M.out.cells
  have f0 := df 0
  have f1 := df 1
  have f2 := df 2
  have f3 := df 3
  have f4 := df 4
  have f5 := df 5
  have f6 := df 6
  have M : Kp (M2 W B p W.heap.size V1.heap.size _ (c8 7 ((numS (numS (nextS s).2).2).1) 0 ((numS (numS (numS (nextS s).2).2).2).1) 0 ((numS (nextS s).2).1) 0 0) (V3.setCell ⟨V1.heap.size, 3, none⟩ (.int .i64 (numS (numS (numS (nextS s).2).2).2).1))) := ⟨M.out.set (Nat.le_refl _) 3 _⟩
  obtain ⟨e0, e1, e2, e3, e4, e5, e6, e7, ef⟩ := M.out.cells
  have MR := M.out.m.r
  have KF := M.out.fin (Nat.le_refl _)
  go_wp2_with ((with_reducible refine gate_op (op := .store 36 (.tmp 2) (.tmp 78)) rfl ?_); go_must (refine wpList_store_row rfl 36 (.tmp 2) (.tmp 78) rfl W.heap.size _ rfl rfl 36 (c8 0 0 0 0 0 0 0 0) MR (by kernel_rfl) rfl (by simp [Value.oneCell']) ?_))
  obtain ⟨k1, k2, k3⟩ := KF
  exact bodyPost_ret (v := .agg (c8 7 ((numS (numS (nextS s).2).2).1) 0 ((numS (numS (numS (nextS s).2).2).2).1) 0 ((numS (nextS s).2).1) 0 0)) (results_row rfl _ _ W.heap.size 36 _ (0, 0) _ rfl k1 Tryd.underlying36 rfl (by kernel_rfl)) rfl ⟨by rw [HE.out]; rfl, by rw [HE.out]; exact k2, k3⟩

set_option maxRecDepth 100000 in
set_option maxHeartbeats 4000000 in
theorem instr_write {B p : Nat} {s : St} (W : World) (h : LnAt B p s W) (hw : (nextS s).1 = [119, 114, 105, 116, 101]) : Calls Tryd.prog 24 #[.pointer (some ⟨p, 0, none⟩)] W fun e W' => e = .returned (insS s).1.V ∧ LnAt B p (insS s).2 W' ∧ W.grownBy W' (some p) := by
  have M := Kp.mk (M1.start h)
  clear h
  have HE := Kp.mk (show insS s = (⟨8, (numS (numS (nextS s).2).2).1, 0, (numS (numS (numS (nextS s).2).2).2).1, (numS (numS (numS (numS (nextS s).2).2).2).2).1, (numS (nextS s).2).1, 0, 0⟩, (numS (numS (numS (numS (nextS s).2).2).2).2).2) by simp only [insS, hw]; rfl)
  have q0 : ((bstr (nextS s).1).toList == [109, 97, 112]) = false := by rw [bstr_list, hw]; rfl
  have q1 : ((bstr (nextS s).1).toList == [117, 110, 109, 97, 112]) = false := by rw [bstr_list, hw]; rfl
  have q2 : ((bstr (nextS s).1).toList == [112, 114, 111, 116, 101, 99, 116]) = false := by rw [bstr_list, hw]; rfl
  have q3 : ((bstr (nextS s).1).toList == [108, 111, 99, 107]) = false := by rw [bstr_list, hw]; rfl
  have q4 : ((bstr (nextS s).1).toList == [117, 110, 108, 111, 99, 107]) = false := by rw [bstr_list, hw]; rfl
  have q5 : ((bstr (nextS s).1).toList == [108, 111, 97, 100]) = false := by rw [bstr_list, hw]; rfl
  have q6 : ((bstr (nextS s).1).toList == [115, 116, 111, 114, 101]) = false := by rw [bstr_list, hw]; rfl
  have q7 : ((bstr (nextS s).1).toList == [114, 101, 97, 100]) = false := by rw [bstr_list, hw]; rfl
  have q8 : ((bstr (nextS s).1).toList == [119, 114, 105, 116, 101]) = true := by rw [bstr_list, hw]; rfl
  have q9 : ((bstr (nextS s).1).toList == [116, 114, 117, 110, 99, 97, 116, 101]) = false := by rw [bstr_list, hw]; rfl
  have q10 : ((bstr (nextS s).1).toList == [115, 121, 110, 99]) = false := by rw [bstr_list, hw]; rfl
  have q11 : ((bstr (nextS s).1).toList == [102, 111, 114, 107]) = false := by rw [bstr_list, hw]; rfl
  have q12 : ((bstr (nextS s).1).toList == [101, 120, 105, 116]) = false := by rw [bstr_list, hw]; rfl
  clear hw
  go_enter Tryd.func24, Tryd.ntmps24
  go_wp2_with fail
  refine (next36 _ M.out.ln).mono ?_
  rintro e V0 ⟨rfl, hl, hg⟩
  have M := Kp.mk (M.out.call hl hg)
  clear hl hg
  go_wp2_with fail
  refine (number38 _ M.out.ln).mono ?_
  rintro e V1 ⟨rfl, hl, hg⟩
  have M := Kp.mk (M.out.call hl hg)
  clear hl hg
  have M := Kp.mk (M.out.box (c8 7 0 0 0 0 ((numS (nextS s).2).1) 0 0))
  go_wp2_with fail
  try clear d0 d1 d2 d3 d4 d5 d6 d7 df f0 f1 f2 f3 f4 f5 f6
  refine (number38 _ M.out.m.ln).mono ?_
  rintro e V2 ⟨rfl, hl, hg⟩
  have M := Kp.mk (M.out.call hl hg)
  clear hl hg
  obtain ⟨d0, d1, d2, d3, d4, d5, d6, d7, df⟩ := M.out.cells
  have f0 := df 0
  have f1 := df 1
  have f2 := df 2
  have f3 := df 3
  have f4 := df 4
  have f5 := df 5
  have f6 := df 6
  have M : Kp (M2 W B p W.heap.size V1.heap.size _ (c8 7 ((numS (numS (nextS s).2).2).1) 0 0 0 ((numS (nextS s).2).1) 0 0) (V2.setCell ⟨V1.heap.size, 1, none⟩ (.int .i64 (numS (numS (nextS s).2).2).1))) := ⟨M.out.set (Nat.le_refl _) 1 _⟩
  go_wp2_with fail
  try clear d0 d1 d2 d3 d4 d5 d6 d7 df f0 f1 f2 f3 f4 f5 f6
  refine (number38 _ M.out.m.ln).mono ?_
  rintro e V3 ⟨rfl, hl, hg⟩
  have M := Kp.mk (M.out.call hl hg)
  clear hl hg
  obtain ⟨d0, d1, d2, d3, d4, d5, d6, d7, df⟩ := M.out.cells
  have f0 := df 0
  have f1 := df 1
  have f2 := df 2
  have f3 := df 3
  have f4 := df 4
  have f5 := df 5
  have f6 := df 6
  have M : Kp (M2 W B p W.heap.size V1.heap.size _ (c8 7 ((numS (numS (nextS s).2).2).1) 0 ((numS (numS (numS (nextS s).2).2).2).1) 0 ((numS (nextS s).2).1) 0 0) (V3.setCell ⟨V1.heap.size, 3, none⟩ (.int .i64 (numS (numS (numS (nextS s).2).2).2).1))) := ⟨M.out.set (Nat.le_refl _) 3 _⟩
  have M : Kp (M2 W B p W.heap.size V1.heap.size _ (c8 8 ((numS (numS (nextS s).2).2).1) 0 ((numS (numS (numS (nextS s).2).2).2).1) 0 ((numS (nextS s).2).1) 0 0) ((V3.setCell ⟨V1.heap.size, 3, none⟩ (.int .i64 (numS (numS (numS (nextS s).2).2).2).1)).setCell ⟨V1.heap.size, 0, none⟩ (.int .i64 8))) := ⟨M.out.set (Nat.le_refl _) 0 _⟩
  go_wp2_with fail
  try clear d0 d1 d2 d3 d4 d5 d6 d7 df f0 f1 f2 f3 f4 f5 f6
  refine (number38 _ M.out.m.ln).mono ?_
  rintro e V4 ⟨rfl, hl, hg⟩
  have M := Kp.mk (M.out.call hl hg)
  clear hl hg
  obtain ⟨d0, d1, d2, d3, d4, d5, d6, d7, df⟩ := M.out.cells
  have f0 := df 0
  have f1 := df 1
  have f2 := df 2
  have f3 := df 3
  have f4 := df 4
  have f5 := df 5
  have f6 := df 6
  have M : Kp (M2 W B p W.heap.size V1.heap.size _ (c8 8 ((numS (numS (nextS s).2).2).1) 0 ((numS (numS (numS (nextS s).2).2).2).1) ((numS (numS (numS (numS (nextS s).2).2).2).2).1) ((numS (nextS s).2).1) 0 0) (V4.setCell ⟨V1.heap.size, 4, none⟩ (.int .i64 (numS (numS (numS (numS (nextS s).2).2).2).2).1))) := ⟨M.out.set (Nat.le_refl _) 4 _⟩
  obtain ⟨e0, e1, e2, e3, e4, e5, e6, e7, ef⟩ := M.out.cells
  have MR := M.out.m.r
  have KF := M.out.fin (Nat.le_refl _)
  go_wp2_with ((with_reducible refine gate_op (op := .store 36 (.tmp 2) (.tmp 78)) rfl ?_); go_must (refine wpList_store_row rfl 36 (.tmp 2) (.tmp 78) rfl W.heap.size _ rfl rfl 36 (c8 0 0 0 0 0 0 0 0) MR (by kernel_rfl) rfl (by simp [Value.oneCell']) ?_))
  obtain ⟨k1, k2, k3⟩ := KF
  exact bodyPost_ret (v := .agg (c8 8 ((numS (numS (nextS s).2).2).1) 0 ((numS (numS (numS (nextS s).2).2).2).1) ((numS (numS (numS (numS (nextS s).2).2).2).2).1) ((numS (nextS s).2).1) 0 0)) (results_row rfl _ _ W.heap.size 36 _ (0, 0) _ rfl k1 Tryd.underlying36 rfl (by kernel_rfl)) rfl ⟨by rw [HE.out]; rfl, by rw [HE.out]; exact k2, k3⟩

set_option maxRecDepth 100000 in
set_option maxHeartbeats 4000000 in
theorem instr_truncate {B p : Nat} {s : St} (W : World) (h : LnAt B p s W) (hw : (nextS s).1 = [116, 114, 117, 110, 99, 97, 116, 101]) : Calls Tryd.prog 24 #[.pointer (some ⟨p, 0, none⟩)] W fun e W' => e = .returned (insS s).1.V ∧ LnAt B p (insS s).2 W' ∧ W.grownBy W' (some p) := by
  have M := Kp.mk (M1.start h)
  clear h
  have HE := Kp.mk (show insS s = (⟨9, 0, (numS (numS (nextS s).2).2).1, 0, 0, (numS (nextS s).2).1, 0, 0⟩, (numS (numS (nextS s).2).2).2) by simp only [insS, hw]; rfl)
  have q0 : ((bstr (nextS s).1).toList == [109, 97, 112]) = false := by rw [bstr_list, hw]; rfl
  have q1 : ((bstr (nextS s).1).toList == [117, 110, 109, 97, 112]) = false := by rw [bstr_list, hw]; rfl
  have q2 : ((bstr (nextS s).1).toList == [112, 114, 111, 116, 101, 99, 116]) = false := by rw [bstr_list, hw]; rfl
  have q3 : ((bstr (nextS s).1).toList == [108, 111, 99, 107]) = false := by rw [bstr_list, hw]; rfl
  have q4 : ((bstr (nextS s).1).toList == [117, 110, 108, 111, 99, 107]) = false := by rw [bstr_list, hw]; rfl
  have q5 : ((bstr (nextS s).1).toList == [108, 111, 97, 100]) = false := by rw [bstr_list, hw]; rfl
  have q6 : ((bstr (nextS s).1).toList == [115, 116, 111, 114, 101]) = false := by rw [bstr_list, hw]; rfl
  have q7 : ((bstr (nextS s).1).toList == [114, 101, 97, 100]) = false := by rw [bstr_list, hw]; rfl
  have q8 : ((bstr (nextS s).1).toList == [119, 114, 105, 116, 101]) = false := by rw [bstr_list, hw]; rfl
  have q9 : ((bstr (nextS s).1).toList == [116, 114, 117, 110, 99, 97, 116, 101]) = true := by rw [bstr_list, hw]; rfl
  have q10 : ((bstr (nextS s).1).toList == [115, 121, 110, 99]) = false := by rw [bstr_list, hw]; rfl
  have q11 : ((bstr (nextS s).1).toList == [102, 111, 114, 107]) = false := by rw [bstr_list, hw]; rfl
  have q12 : ((bstr (nextS s).1).toList == [101, 120, 105, 116]) = false := by rw [bstr_list, hw]; rfl
  clear hw
  go_enter Tryd.func24, Tryd.ntmps24
  go_wp2_with fail
  refine (next36 _ M.out.ln).mono ?_
  rintro e V0 ⟨rfl, hl, hg⟩
  have M := Kp.mk (M.out.call hl hg)
  clear hl hg
  go_wp2_with fail
  refine (number38 _ M.out.ln).mono ?_
  rintro e V1 ⟨rfl, hl, hg⟩
  have M := Kp.mk (M.out.call hl hg)
  clear hl hg
  have M := Kp.mk (M.out.box (c8 9 0 0 0 0 ((numS (nextS s).2).1) 0 0))
  go_wp2_with fail
  try clear d0 d1 d2 d3 d4 d5 d6 d7 df f0 f1 f2 f3 f4 f5 f6
  refine (number38 _ M.out.m.ln).mono ?_
  rintro e V2 ⟨rfl, hl, hg⟩
  have M := Kp.mk (M.out.call hl hg)
  clear hl hg
  obtain ⟨d0, d1, d2, d3, d4, d5, d6, d7, df⟩ := M.out.cells
  have f0 := df 0
  have f1 := df 1
  have f2 := df 2
  have f3 := df 3
  have f4 := df 4
  have f5 := df 5
  have f6 := df 6
  have M : Kp (M2 W B p W.heap.size V1.heap.size _ (c8 9 0 ((numS (numS (nextS s).2).2).1) 0 0 ((numS (nextS s).2).1) 0 0) (V2.setCell ⟨V1.heap.size, 2, none⟩ (.int .i64 (numS (numS (nextS s).2).2).1))) := ⟨M.out.set (Nat.le_refl _) 2 _⟩
  obtain ⟨e0, e1, e2, e3, e4, e5, e6, e7, ef⟩ := M.out.cells
  have MR := M.out.m.r
  have KF := M.out.fin (Nat.le_refl _)
  go_wp2_with ((with_reducible refine gate_op (op := .store 36 (.tmp 2) (.tmp 87)) rfl ?_); go_must (refine wpList_store_row rfl 36 (.tmp 2) (.tmp 87) rfl W.heap.size _ rfl rfl 36 (c8 0 0 0 0 0 0 0 0) MR (by kernel_rfl) rfl (by simp [Value.oneCell']) ?_))
  obtain ⟨k1, k2, k3⟩ := KF
  exact bodyPost_ret (v := .agg (c8 9 0 ((numS (numS (nextS s).2).2).1) 0 0 ((numS (nextS s).2).1) 0 0)) (results_row rfl _ _ W.heap.size 36 _ (0, 0) _ rfl k1 Tryd.underlying36 rfl (by kernel_rfl)) rfl ⟨by rw [HE.out]; rfl, by rw [HE.out]; exact k2, k3⟩

set_option maxRecDepth 100000 in
set_option maxHeartbeats 4000000 in
theorem instr_sync {B p : Nat} {s : St} (W : World) (h : LnAt B p s W) (hw : (nextS s).1 = [115, 121, 110, 99]) : Calls Tryd.prog 24 #[.pointer (some ⟨p, 0, none⟩)] W fun e W' => e = .returned (insS s).1.V ∧ LnAt B p (insS s).2 W' ∧ W.grownBy W' (some p) := by
  have M := Kp.mk (M1.start h)
  clear h
  have HE := Kp.mk (show insS s = (⟨10, 0, 0, 0, 0, (numS (nextS s).2).1, 0, 0⟩, (numS (nextS s).2).2) by simp only [insS, hw]; rfl)
  have q0 : ((bstr (nextS s).1).toList == [109, 97, 112]) = false := by rw [bstr_list, hw]; rfl
  have q1 : ((bstr (nextS s).1).toList == [117, 110, 109, 97, 112]) = false := by rw [bstr_list, hw]; rfl
  have q2 : ((bstr (nextS s).1).toList == [112, 114, 111, 116, 101, 99, 116]) = false := by rw [bstr_list, hw]; rfl
  have q3 : ((bstr (nextS s).1).toList == [108, 111, 99, 107]) = false := by rw [bstr_list, hw]; rfl
  have q4 : ((bstr (nextS s).1).toList == [117, 110, 108, 111, 99, 107]) = false := by rw [bstr_list, hw]; rfl
  have q5 : ((bstr (nextS s).1).toList == [108, 111, 97, 100]) = false := by rw [bstr_list, hw]; rfl
  have q6 : ((bstr (nextS s).1).toList == [115, 116, 111, 114, 101]) = false := by rw [bstr_list, hw]; rfl
  have q7 : ((bstr (nextS s).1).toList == [114, 101, 97, 100]) = false := by rw [bstr_list, hw]; rfl
  have q8 : ((bstr (nextS s).1).toList == [119, 114, 105, 116, 101]) = false := by rw [bstr_list, hw]; rfl
  have q9 : ((bstr (nextS s).1).toList == [116, 114, 117, 110, 99, 97, 116, 101]) = false := by rw [bstr_list, hw]; rfl
  have q10 : ((bstr (nextS s).1).toList == [115, 121, 110, 99]) = true := by rw [bstr_list, hw]; rfl
  have q11 : ((bstr (nextS s).1).toList == [102, 111, 114, 107]) = false := by rw [bstr_list, hw]; rfl
  have q12 : ((bstr (nextS s).1).toList == [101, 120, 105, 116]) = false := by rw [bstr_list, hw]; rfl
  clear hw
  go_enter Tryd.func24, Tryd.ntmps24
  go_wp2_with fail
  refine (next36 _ M.out.ln).mono ?_
  rintro e V0 ⟨rfl, hl, hg⟩
  have M := Kp.mk (M.out.call hl hg)
  clear hl hg
  go_wp2_with fail
  refine (number38 _ M.out.ln).mono ?_
  rintro e V1 ⟨rfl, hl, hg⟩
  have M := Kp.mk (M.out.call hl hg)
  clear hl hg
  have MR := M.out.r
  have KF := M.out.fin (Nat.le_refl _) (c8 10 0 0 0 0 ((numS (nextS s).2).1) 0 0)
  go_wp2_with ((with_reducible refine gate_op (op := .store 36 (.tmp 2) (.tmp 92)) rfl ?_); go_must (refine wpList_store_row rfl 36 (.tmp 2) (.tmp 92) rfl W.heap.size _ rfl rfl 36 (c8 0 0 0 0 0 0 0 0) MR (by kernel_rfl) rfl (by simp [Value.oneCell']) ?_))
  obtain ⟨k1, k2, k3⟩ := KF
  exact bodyPost_ret (v := .agg (c8 10 0 0 0 0 ((numS (nextS s).2).1) 0 0)) (results_row rfl _ _ W.heap.size 36 _ (0, 0) _ rfl k1 Tryd.underlying36 rfl (by kernel_rfl)) rfl ⟨by rw [HE.out]; rfl, by rw [HE.out]; exact k2, k3⟩

set_option maxRecDepth 100000 in
set_option maxHeartbeats 4000000 in
theorem instr_fork {B p : Nat} {s : St} (W : World) (h : LnAt B p s W) (hw : (nextS s).1 = [102, 111, 114, 107]) : Calls Tryd.prog 24 #[.pointer (some ⟨p, 0, none⟩)] W fun e W' => e = .returned (insS s).1.V ∧ LnAt B p (insS s).2 W' ∧ W.grownBy W' (some p) := by
  have M := Kp.mk (M1.start h)
  clear h
  have HE := Kp.mk (show insS s = (⟨11, 0, 0, 0, (numS (nextS s).2).1, 0, 0, 0⟩, (numS (nextS s).2).2) by simp only [insS, hw]; rfl)
  have q0 : ((bstr (nextS s).1).toList == [109, 97, 112]) = false := by rw [bstr_list, hw]; rfl
  have q1 : ((bstr (nextS s).1).toList == [117, 110, 109, 97, 112]) = false := by rw [bstr_list, hw]; rfl
  have q2 : ((bstr (nextS s).1).toList == [112, 114, 111, 116, 101, 99, 116]) = false := by rw [bstr_list, hw]; rfl
  have q3 : ((bstr (nextS s).1).toList == [108, 111, 99, 107]) = false := by rw [bstr_list, hw]; rfl
  have q4 : ((bstr (nextS s).1).toList == [117, 110, 108, 111, 99, 107]) = false := by rw [bstr_list, hw]; rfl
  have q5 : ((bstr (nextS s).1).toList == [108, 111, 97, 100]) = false := by rw [bstr_list, hw]; rfl
  have q6 : ((bstr (nextS s).1).toList == [115, 116, 111, 114, 101]) = false := by rw [bstr_list, hw]; rfl
  have q7 : ((bstr (nextS s).1).toList == [114, 101, 97, 100]) = false := by rw [bstr_list, hw]; rfl
  have q8 : ((bstr (nextS s).1).toList == [119, 114, 105, 116, 101]) = false := by rw [bstr_list, hw]; rfl
  have q9 : ((bstr (nextS s).1).toList == [116, 114, 117, 110, 99, 97, 116, 101]) = false := by rw [bstr_list, hw]; rfl
  have q10 : ((bstr (nextS s).1).toList == [115, 121, 110, 99]) = false := by rw [bstr_list, hw]; rfl
  have q11 : ((bstr (nextS s).1).toList == [102, 111, 114, 107]) = true := by rw [bstr_list, hw]; rfl
  have q12 : ((bstr (nextS s).1).toList == [101, 120, 105, 116]) = false := by rw [bstr_list, hw]; rfl
  clear hw
  go_enter Tryd.func24, Tryd.ntmps24
  go_wp2_with fail
  refine (next36 _ M.out.ln).mono ?_
  rintro e V0 ⟨rfl, hl, hg⟩
  have M := Kp.mk (M.out.call hl hg)
  clear hl hg
  go_wp2_with fail
  refine (number38 _ M.out.ln).mono ?_
  rintro e V1 ⟨rfl, hl, hg⟩
  have M := Kp.mk (M.out.call hl hg)
  clear hl hg
  have MR := M.out.r
  have KF := M.out.fin (Nat.le_refl _) (c8 11 0 0 0 ((numS (nextS s).2).1) 0 0 0)
  go_wp2_with ((with_reducible refine gate_op (op := .store 36 (.tmp 2) (.tmp 97)) rfl ?_); go_must (refine wpList_store_row rfl 36 (.tmp 2) (.tmp 97) rfl W.heap.size _ rfl rfl 36 (c8 0 0 0 0 0 0 0 0) MR (by kernel_rfl) rfl (by simp [Value.oneCell']) ?_))
  obtain ⟨k1, k2, k3⟩ := KF
  exact bodyPost_ret (v := .agg (c8 11 0 0 0 ((numS (nextS s).2).1) 0 0 0)) (results_row rfl _ _ W.heap.size 36 _ (0, 0) _ rfl k1 Tryd.underlying36 rfl (by kernel_rfl)) rfl ⟨by rw [HE.out]; rfl, by rw [HE.out]; exact k2, k3⟩

set_option maxRecDepth 100000 in
set_option maxHeartbeats 4000000 in
theorem instr_exit {B p : Nat} {s : St} (W : World) (h : LnAt B p s W) (hw : (nextS s).1 = [101, 120, 105, 116]) : Calls Tryd.prog 24 #[.pointer (some ⟨p, 0, none⟩)] W fun e W' => e = .returned (insS s).1.V ∧ LnAt B p (insS s).2 W' ∧ W.grownBy W' (some p) := by
  have M := Kp.mk (M1.start h)
  clear h
  have HE := Kp.mk (show insS s = (⟨12, 0, 0, 0, 0, 0, 0, 0⟩, (nextS s).2) by simp only [insS, hw]; rfl)
  have q0 : ((bstr (nextS s).1).toList == [109, 97, 112]) = false := by rw [bstr_list, hw]; rfl
  have q1 : ((bstr (nextS s).1).toList == [117, 110, 109, 97, 112]) = false := by rw [bstr_list, hw]; rfl
  have q2 : ((bstr (nextS s).1).toList == [112, 114, 111, 116, 101, 99, 116]) = false := by rw [bstr_list, hw]; rfl
  have q3 : ((bstr (nextS s).1).toList == [108, 111, 99, 107]) = false := by rw [bstr_list, hw]; rfl
  have q4 : ((bstr (nextS s).1).toList == [117, 110, 108, 111, 99, 107]) = false := by rw [bstr_list, hw]; rfl
  have q5 : ((bstr (nextS s).1).toList == [108, 111, 97, 100]) = false := by rw [bstr_list, hw]; rfl
  have q6 : ((bstr (nextS s).1).toList == [115, 116, 111, 114, 101]) = false := by rw [bstr_list, hw]; rfl
  have q7 : ((bstr (nextS s).1).toList == [114, 101, 97, 100]) = false := by rw [bstr_list, hw]; rfl
  have q8 : ((bstr (nextS s).1).toList == [119, 114, 105, 116, 101]) = false := by rw [bstr_list, hw]; rfl
  have q9 : ((bstr (nextS s).1).toList == [116, 114, 117, 110, 99, 97, 116, 101]) = false := by rw [bstr_list, hw]; rfl
  have q10 : ((bstr (nextS s).1).toList == [115, 121, 110, 99]) = false := by rw [bstr_list, hw]; rfl
  have q11 : ((bstr (nextS s).1).toList == [102, 111, 114, 107]) = false := by rw [bstr_list, hw]; rfl
  have q12 : ((bstr (nextS s).1).toList == [101, 120, 105, 116]) = true := by rw [bstr_list, hw]; rfl
  clear hw
  go_enter Tryd.func24, Tryd.ntmps24
  go_wp2_with fail
  refine (next36 _ M.out.ln).mono ?_
  rintro e V0 ⟨rfl, hl, hg⟩
  have M := Kp.mk (M.out.call hl hg)
  clear hl hg
  have MR := M.out.r
  have KF := M.out.fin (Nat.le_refl _) (c8 12 0 0 0 0 0 0 0)
  go_wp2_with ((with_reducible refine gate_op (op := .store 36 (.tmp 2) (.tmp 100)) rfl ?_); go_must (refine wpList_store_row rfl 36 (.tmp 2) (.tmp 100) rfl W.heap.size _ rfl rfl 36 (c8 0 0 0 0 0 0 0 0) MR (by kernel_rfl) rfl (by simp [Value.oneCell']) ?_))
  obtain ⟨k1, k2, k3⟩ := KF
  exact bodyPost_ret (v := .agg (c8 12 0 0 0 0 0 0 0)) (results_row rfl _ _ W.heap.size 36 _ (0, 0) _ rfl k1 Tryd.underlying36 rfl (by kernel_rfl)) rfl ⟨by rw [HE.out]; rfl, by rw [HE.out]; exact k2, k3⟩

set_option maxRecDepth 100000 in
set_option maxHeartbeats 4000000 in
theorem instr_map {B p : Nat} {s : St} (W : World) (h : LnAt B p s W) (hw : (nextS s).1 = [109, 97, 112]) : Calls Tryd.prog 24 #[.pointer (some ⟨p, 0, none⟩)] W fun e W' => e = .returned (insS s).1.V ∧ LnAt B p (insS s).2 W' ∧ W.grownBy W' (some p) := by
  have M := Kp.mk (M1.start h)
  clear h
  have HE := Kp.mk (show insS s = mapS (nextS s).2 by simp only [insS, hw]; rfl)
  have q0 : ((bstr (nextS s).1).toList == [109, 97, 112]) = true := by rw [bstr_list, hw]; rfl
  have q1 : ((bstr (nextS s).1).toList == [117, 110, 109, 97, 112]) = false := by rw [bstr_list, hw]; rfl
  have q2 : ((bstr (nextS s).1).toList == [112, 114, 111, 116, 101, 99, 116]) = false := by rw [bstr_list, hw]; rfl
  have q3 : ((bstr (nextS s).1).toList == [108, 111, 99, 107]) = false := by rw [bstr_list, hw]; rfl
  have q4 : ((bstr (nextS s).1).toList == [117, 110, 108, 111, 99, 107]) = false := by rw [bstr_list, hw]; rfl
  have q5 : ((bstr (nextS s).1).toList == [108, 111, 97, 100]) = false := by rw [bstr_list, hw]; rfl
  have q6 : ((bstr (nextS s).1).toList == [115, 116, 111, 114, 101]) = false := by rw [bstr_list, hw]; rfl
  have q7 : ((bstr (nextS s).1).toList == [114, 101, 97, 100]) = false := by rw [bstr_list, hw]; rfl
  have q8 : ((bstr (nextS s).1).toList == [119, 114, 105, 116, 101]) = false := by rw [bstr_list, hw]; rfl
  have q9 : ((bstr (nextS s).1).toList == [116, 114, 117, 110, 99, 97, 116, 101]) = false := by rw [bstr_list, hw]; rfl
  have q10 : ((bstr (nextS s).1).toList == [115, 121, 110, 99]) = false := by rw [bstr_list, hw]; rfl
  have q11 : ((bstr (nextS s).1).toList == [102, 111, 114, 107]) = false := by rw [bstr_list, hw]; rfl
  have q12 : ((bstr (nextS s).1).toList == [101, 120, 105, 116]) = false := by rw [bstr_list, hw]; rfl
  clear hw
  go_enter Tryd.func24, Tryd.ntmps24
  go_wp2_with fail
  refine (next36 _ M.out.ln).mono ?_
  rintro e V0 ⟨rfl, hl, hg⟩
  have M := Kp.mk (M.out.call hl hg)
  clear hl hg
  go_wp2_with fail
  refine (mapping37 _ M.out.ln).mono ?_
  rintro e V1 ⟨rfl, hl, hg⟩
  have M := Kp.mk (M.out.call hl hg)
  clear hl hg
  generalize hms : mapS (nextS s).2 = ms at M HE
  obtain ⟨⟨y0, y1, y2, y3, y4, y5, y6, y7⟩, t2⟩ := ms
  unfold Ins.V
  dsimp only
  have MR := M.out.r
  have KF := M.out.fin (Nat.le_refl _) (c8 y0 y1 y2 y3 y4 y5 y6 y7)
  go_wp2_with ((with_reducible refine gate_op (op := .store 36 (.tmp 2) (.tmp 14)) rfl ?_); go_must (refine wpList_store_row rfl 36 (.tmp 2) (.tmp 14) rfl W.heap.size _ rfl rfl 36 (c8 0 0 0 0 0 0 0 0) MR (by kernel_rfl) rfl (by simp [Value.oneCell']) ?_))
  obtain ⟨k1, k2, k3⟩ := KF
  exact bodyPost_ret (v := .agg (c8 y0 y1 y2 y3 y4 y5 y6 y7)) (results_row rfl _ _ W.heap.size 36 _ (0, 0) _ rfl k1 Tryd.underlying36 rfl (by kernel_rfl)) rfl ⟨by rw [HE.out]; rfl, by rw [HE.out]; exact k2, k3⟩

set_option maxRecDepth 100000 in
set_option maxHeartbeats 4000000 in
theorem instr_none {B p : Nat} {s : St} (W : World) (h : LnAt B p s W) (hn0 : (nextS s).1 ≠ [109, 97, 112]) (hn1 : (nextS s).1 ≠ [117, 110, 109, 97, 112]) (hn2 : (nextS s).1 ≠ [112, 114, 111, 116, 101, 99, 116]) (hn3 : (nextS s).1 ≠ [108, 111, 99, 107]) (hn4 : (nextS s).1 ≠ [117, 110, 108, 111, 99, 107]) (hn5 : (nextS s).1 ≠ [108, 111, 97, 100]) (hn6 : (nextS s).1 ≠ [115, 116, 111, 114, 101]) (hn7 : (nextS s).1 ≠ [114, 101, 97, 100]) (hn8 : (nextS s).1 ≠ [119, 114, 105, 116, 101]) (hn9 : (nextS s).1 ≠ [116, 114, 117, 110, 99, 97, 116, 101]) (hn10 : (nextS s).1 ≠ [115, 121, 110, 99]) (hn11 : (nextS s).1 ≠ [102, 111, 114, 107]) (hn12 : (nextS s).1 ≠ [101, 120, 105, 116]) : Calls Tryd.prog 24 #[.pointer (some ⟨p, 0, none⟩)] W fun e W' => e = .returned (insS s).1.V ∧ LnAt B p (insS s).2 W' ∧ W.grownBy W' (some p) := by
  have M := Kp.mk (M1.start h)
  clear h
  have HE := Kp.mk (show insS s = (⟨0, 0, 0, 0, 0, 0, 0, 0⟩, ((nextS s).2.1, false)) by simp only [insS, if_neg hn0, if_neg hn1, if_neg hn2, if_neg hn3, if_neg hn4, if_neg hn5, if_neg hn6, if_neg hn7, if_neg hn8, if_neg hn9, if_neg hn10, if_neg hn11, if_neg hn12])
  have q0 : ((bstr (nextS s).1).toList == [109, 97, 112]) = false := by rw [bstr_list]; simpa using hn0
  have q1 : ((bstr (nextS s).1).toList == [117, 110, 109, 97, 112]) = false := by rw [bstr_list]; simpa using hn1
  have q2 : ((bstr (nextS s).1).toList == [112, 114, 111, 116, 101, 99, 116]) = false := by rw [bstr_list]; simpa using hn2
  have q3 : ((bstr (nextS s).1).toList == [108, 111, 99, 107]) = false := by rw [bstr_list]; simpa using hn3
  have q4 : ((bstr (nextS s).1).toList == [117, 110, 108, 111, 99, 107]) = false := by rw [bstr_list]; simpa using hn4
  have q5 : ((bstr (nextS s).1).toList == [108, 111, 97, 100]) = false := by rw [bstr_list]; simpa using hn5
  have q6 : ((bstr (nextS s).1).toList == [115, 116, 111, 114, 101]) = false := by rw [bstr_list]; simpa using hn6
  have q7 : ((bstr (nextS s).1).toList == [114, 101, 97, 100]) = false := by rw [bstr_list]; simpa using hn7
  have q8 : ((bstr (nextS s).1).toList == [119, 114, 105, 116, 101]) = false := by rw [bstr_list]; simpa using hn8
  have q9 : ((bstr (nextS s).1).toList == [116, 114, 117, 110, 99, 97, 116, 101]) = false := by rw [bstr_list]; simpa using hn9
  have q10 : ((bstr (nextS s).1).toList == [115, 121, 110, 99]) = false := by rw [bstr_list]; simpa using hn10
  have q11 : ((bstr (nextS s).1).toList == [102, 111, 114, 107]) = false := by rw [bstr_list]; simpa using hn11
  have q12 : ((bstr (nextS s).1).toList == [101, 120, 105, 116]) = false := by rw [bstr_list]; simpa using hn12
  clear hn0 hn1 hn2 hn3 hn4 hn5 hn6 hn7 hn8 hn9 hn10 hn11 hn12
  go_enter Tryd.func24, Tryd.ntmps24
  go_wp2_with fail
  refine (next36 _ M.out.ln).mono ?_
  rintro e V0 ⟨rfl, hl, hg⟩
  have M := Kp.mk (M.out.call hl hg)
  clear hl hg
  obtain ⟨A, cap, c0, c1, c2, c3⟩ := M.out.ln.fine
  have M := Kp.mk (M.out.bad (Nat.le_refl _))
  have MR := M.out.r
  have KF := M.out.fin (Nat.le_refl _) (c8 0 0 0 0 0 0 0 0)
  go_wp2_with ((with_reducible refine gate_op (op := .store 36 (.tmp 2) (.tmp 104)) rfl ?_); go_must (refine wpList_store_row rfl 36 (.tmp 2) (.tmp 104) rfl W.heap.size _ rfl rfl 36 (c8 0 0 0 0 0 0 0 0) MR (by kernel_rfl) rfl (by simp [Value.oneCell']) ?_))
  obtain ⟨k1, k2, k3⟩ := KF
  exact bodyPost_ret (v := .agg (c8 0 0 0 0 0 0 0 0)) (results_row rfl _ _ W.heap.size 36 _ (0, 0) _ rfl k1 Tryd.underlying36 rfl (by kernel_rfl)) rfl ⟨by rw [HE.out]; rfl, by rw [HE.out]; exact k2, k3⟩
theorem instr24 {B p : Nat} {s : St} (W : World) (h : LnAt B p s W) : Calls Tryd.prog 24 #[.pointer (some ⟨p, 0, none⟩)] W fun e W' => e = .returned (insS s).1.V ∧ LnAt B p (insS s).2 W' ∧ W.grownBy W' (some p) := by
  by_cases h0 : (nextS s).1 = [109, 97, 112]
  · exact instr_map W h h0
  by_cases h1 : (nextS s).1 = [117, 110, 109, 97, 112]
  · exact instr_unmap W h h1
  by_cases h2 : (nextS s).1 = [112, 114, 111, 116, 101, 99, 116]
  · exact instr_protect W h h2
  by_cases h3 : (nextS s).1 = [108, 111, 99, 107]
  · exact instr_lock W h h3
  by_cases h4 : (nextS s).1 = [117, 110, 108, 111, 99, 107]
  · exact instr_unlock W h h4
  by_cases h5 : (nextS s).1 = [108, 111, 97, 100]
  · exact instr_load W h h5
  by_cases h6 : (nextS s).1 = [115, 116, 111, 114, 101]
  · exact instr_store W h h6
  by_cases h7 : (nextS s).1 = [114, 101, 97, 100]
  · exact instr_read W h h7
  by_cases h8 : (nextS s).1 = [119, 114, 105, 116, 101]
  · exact instr_write W h h8
  by_cases h9 : (nextS s).1 = [116, 114, 117, 110, 99, 97, 116, 101]
  · exact instr_truncate W h h9
  by_cases h10 : (nextS s).1 = [115, 121, 110, 99]
  · exact instr_sync W h h10
  by_cases h11 : (nextS s).1 = [102, 111, 114, 107]
  · exact instr_fork W h h11
  by_cases h12 : (nextS s).1 = [101, 120, 105, 116]
  · exact instr_exit W h h12
  exact instr_none W h h0 h1 h2 h3 h4 h5 h6 h7 h8 h9 h10 h11 h12
end Go.Proofs.YtiomnlgnhdhffaaDoor
