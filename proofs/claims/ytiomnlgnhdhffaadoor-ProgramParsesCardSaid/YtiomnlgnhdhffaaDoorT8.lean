/-
  The region of the reference's instr that draws its order: whatever the order, it lays the built instruction into a new row. Conditions: none but what each theorem names.
-/
import Derived.Test.YtiomnlgnhdhffaaDoorT6
import Derived.Test.YtiomnlgnhdhffaaDoorB4
namespace Go.Proofs.YtiomnlgnhdhffaaDoor
open Go.RowKit
set_option linter.unusedVariables false
set_option linter.unusedSimpArgs false

noncomputable def r16 : Array Oper := opsOf Tryd.f26 16
theorem r16_size : r16.size = 9 := by kernel_rfl
theorem r16_dag : dagB r16 = true := by kernel_rfl
theorem r16_dstB : dstB r16 104 = true := by kernel_rfl
noncomputable def r16At (i : Nat) : Option (Option Tmp × Option (Nat × Bool) × List Nat) := (r16[i]?).map fun o => (o.dst, o.guard, waitsFor o)
abbrev r16D : List (Option (Option Tmp × Option (Nat × Bool) × List Nat)) := [some (some 87, none, []), some (some 88, none, []), some (some 89, none, []), some (some 90, none, []), some (some 91, none, [3]), some (some 92, none, [4]), some (some 93, none, [0, 1, 2, 5]), some (some 9, none, []), some (none, none, [7, 6, 6, 0, 1, 2, 3, 4, 5, 6, 7])]
abbrev r16O : List (Option Op) := [some (.move (.tmp 4)), some (.move (.tmp 7)), some (.load 71 (.tmp 6)), some (.move (.tmp 0)), some (.indexAddr 32 (.tmp 90) (.const (.int .i64 0))), some (.load 9 (.tmp 91)), some (.call { callee := .value (.func 43), args := #[.tmp 87, .tmp 88, .tmp 89, .tmp 92], argTypes := #[3, 3, 71, 9] }), some (.alloc 36), some (.store 36 (.tmp 9) (.tmp 93))]
theorem r16_dst : (List.range 9).map r16At = r16D := by kernel_rfl
theorem r16_ops : (List.range 9).map (fun i => (r16[i]?).map (·.op)) = r16O := by kernel_rfl
theorem r16_at {i : Nat} {o : Oper} (ho : r16[i]? = some o) : i < 9 ∧ r16D[i]? = some (some (o.dst, o.guard, waitsFor o)) ∧ r16O[i]? = some (some o.op) := by
  have hi : i < 9 := by
    have := (Array.getElem?_eq_some_iff.1 ho).1
    rw [r16_size] at this
    exact this
  refine ⟨hi, ?_, ?_⟩
  · rw [← r16_dst, List.getElem?_map, List.getElem?_range hi]
    simp [r16At, ho]
  · rw [← r16_ops, List.getElem?_map, List.getElem?_range hi]
    simp [ho]
theorem r16_off {t : Tmp} (ht : t = 0 ∨ t = 4 ∨ t = 6 ∨ t = 7) : ∀ (j : Nat) (o : Oper), r16[j]? = some o → o.dst ≠ some t := by
  intro j o ho
  obtain ⟨hi, hd, _⟩ := r16_at ho
  have hcase : j = 0 ∨ j = 1 ∨ j = 2 ∨ j = 3 ∨ j = 4 ∨ j = 5 ∨ j = 6 ∨ j = 7 ∨ j = 8 := by omega
  rcases ht with rfl | rfl | rfl | rfl <;> rcases hcase with rfl | rfl | rfl | rfl | rfl | rfl | rfl | rfl | rfl <;> simp at hd <;> simp [← hd.1]
theorem run_move (o : Oper) (a : Act) (w : World) (t : Tmp) (v : Value) (ho : o.op = .move (.tmp t)) (hp : a.eval (.tmp t) = v) : (execOp a.eval o).run Tryd.prog w = .ok (.value v) w := by
  unfold execOp
  simp only [ho, hp]
  go_simp
theorem run_index32 (o : Oper) (a : Act) (w : World) (b off n cap : Nat) (ho : o.op = .indexAddr 32 (.tmp 90) (.const (.int .i64 0))) (hp : a.eval (.tmp 90) = .slice (some ⟨b, off, none⟩) (n + 1) cap) : (execOp a.eval o).run Tryd.prog w = .ok (.value (.pointer (some ⟨b, off, none⟩))) w := by
  unfold execOp
  simp only [ho, hp]
  have : a.eval (.const (.int .i64 0)) = .int .i64 0 := rfl
  rw [this]
  go_simp
theorem run_load9 (o : Oper) (a : Act) (w : World) (p : Addr) (s : ByteArray) (ho : o.op = .load 9 (.tmp 91)) (hp : a.eval (.tmp 91) = .pointer (some p)) (hc : w.cell? p = some (.string s)) : (execOp a.eval o).run Tryd.prog w = .ok (.value (.string s)) w := by
  unfold execOp
  simp only [ho, hp]
  go_simp
theorem run_alloc36 (o : Oper) (a : Act) (w : World) (ho : o.op = .alloc 36) : (execOp a.eval o).run Tryd.prog w = .ok (.value (.pointer (some ⟨w.heap.size, 0, none⟩))) (w.alloc (.cells (c8 0 0 0 0 0 0 0 0) 36)) := by
  unfold execOp
  simp only [ho]
  go_simp
  rfl
theorem run_call43 (o : Oper) (a : Act) (w : World) (v1 v2 v3 v4 : Value) (ho : o.op = .call { callee := .value (.func 43), args := #[.tmp 87, .tmp 88, .tmp 89, .tmp 92], argTypes := #[3, 3, 71, 9] })
    (h1 : a.eval (.tmp 87) = v1) (h2 : a.eval (.tmp 88) = v2) (h3 : a.eval (.tmp 89) = v3) (h4 : a.eval (.tmp 92) = v4) : (execOp a.eval o).run Tryd.prog w = .ok (.enter 43 #[v1, v2, v3, v4]) w := by
  unfold execOp
  simp only [ho]
  have h2' := Tryd.func43
  have e1 : a.tmps[87]?.getD undef = v1 := by simpa [Act.eval] using h1
  have e2 : a.tmps[88]?.getD undef = v2 := by simpa [Act.eval] using h2
  have e3 : a.tmps[89]?.getD undef = v3 := by simpa [Act.eval] using h3
  have e4 : a.tmps[92]?.getD undef = v4 := by simpa [Act.eval] using h4
  go_simp
def r16val (o p : Int) (N : Array Value) (S : Value) (b off : Nat) (s : ByteArray) (X : Array Value) (g : Nat) : Nat → Value
  | 0 => .int .i64 o | 1 => .int .i64 p | 2 => .agg N | 3 => S | 4 => .pointer (some ⟨b, off, none⟩) | 5 => .string s | 6 => .agg X | 7 => .pointer (some ⟨g, 0, none⟩) | _ => undef
/-- The relation over the region. -/
structure R16 (a0 : Act) (w : World) (o p : Int) (N : Array Value) (S : Value) (b off : Nat) (s : ByteArray) (X : Array Value) (g : Nat) (l : Array Bool) (a : Act) (W : World) : Prop where
  sl : Sl r16 a0 (r16val o p N S b off s X g) l a
  ir : InR w N W
  st : W.cell? ⟨b, off, none⟩ = some (.string s)
  lt : b < w.heap.size
  row : l.getD 7 false = true → w.heap.size + 2 ≤ g ∧ W.heap[g]? = some (.cells (if l.getD 8 false = true then X else c8 0 0 0 0 0 0 0 0) 36 (0, 0))
section
variable {a0 : Act} {w : World} {o p : Int} {N : Array Value} {S : Value} {b off : Nat} {s : ByteArray} {X : Array Value} {g : Nat} {l : Array Bool} {a : Act} {W : World}
theorem R16.plain (R : R16 a0 w o p N S b off s X g l a W) (hn : a0.tmps.size = 104) (hl : l.size = r16.size) {i : Nat} {u : Oper} (ho : r16[i]? = some u) (hi : i < 7) {v : Value} {W' : World} (hb : Below W.heap.size W W')
    (hv : r16val o p N S b off s X g i = v) : R16 a0 w o p N S b off s X g (l.setIfInBounds i true) (a.put u.dst v) W' := by
  refine ⟨R.sl.step r16_dstB hn hl ho (fun j _ _ => rfl) (fun d _ => hv), R.ir.next hb, (hb.cell (p := ⟨b, off, none⟩) (Nat.lt_of_lt_of_le R.lt R.ir.below.size)).trans R.st, R.lt, fun h7 => ?_⟩
  rw [getD_set_ne false (by omega)] at h7 ⊢
  obtain ⟨h1, h2⟩ := R.row h7
  exact ⟨h1, (hb.block _ (lt_of_block h2)).trans h2⟩
theorem R16.alloc (R : R16 a0 w o p N S b off s X g l a W) (hn : a0.tmps.size = 104) (hl : l.size = r16.size) {u : Oper} (ho : r16[7]? = some u) (h8 : l.getD 8 false = false) :
    R16 a0 w o p N S b off s X W.heap.size (l.setIfInBounds 7 true) (a.put u.dst (.pointer (some ⟨W.heap.size, 0, none⟩))) (W.alloc (.cells (c8 0 0 0 0 0 0 0 0) 36)) := by
  have hb := below_new2 W (.cells (c8 0 0 0 0 0 0 0 0) 36)
  refine ⟨R.sl.step r16_dstB hn hl ho (fun j hb hj => ?_) (fun d _ => rfl), R.ir.next hb, (hb.cell (p := ⟨b, off, none⟩) (Nat.lt_of_lt_of_le R.lt R.ir.below.size)).trans R.st, R.lt, fun _ => ?_⟩
  · unfold r16val
    split <;> first | rfl | contradiction
  · rw [getD_set_ne false (by omega), h8]
    exact ⟨by have := lt_of_block R.ir.n; omega, heap_at rfl _⟩
theorem R16.store (R : R16 a0 w o p N S b off s X g l a W) (hn : a0.tmps.size = 104) (hl : l.size = r16.size) {u : Oper} (ho : r16[8]? = some u) (h7 : l.getD 7 false = true) (hdst : u.dst = none) :
    R16 a0 w o p N S b off s X g (l.setIfInBounds 8 true) (a.put u.dst undef) (W.setRow g X) := by
  have hlt : 8 < l.size := by rw [hl, r16_size]; omega
  obtain ⟨hg, hrow⟩ := R.row h7
  have hbg : b ≠ g := by have := R.lt; omega
  refine ⟨R.sl.step r16_dstB hn hl ho (fun j _ _ => rfl) (fun d hd => by rw [hdst] at hd; cases hd), ⟨?_, (setRow_other W _ _ _ (by omega)).trans R.ir.r, (setRow_other W _ _ _ (by omega)).trans R.ir.n⟩, (World.cell?_of_block (setRow_other W _ _ _ hbg)).trans R.st, R.lt, fun _ => ?_⟩
  · have h := R.ir.below
    refine ⟨h.os, h.tape, h.output, by have := h.size; simpa [World.setRow] using this, fun k hk => ?_⟩
    rw [setRow_other W _ _ _ (by omega)]
    exact h.block k hk
  · have e : (l.setIfInBounds 8 true).getD 8 false = true := by
      rw [Array.getD_eq_getD_getElem?, Array.getElem?_setIfInBounds_self_of_lt hlt]
      rfl
    rw [e, if_pos rfl]
    exact ⟨hg, setRow_heap W g _ _ 36 _ hrow⟩
theorem R16.ev (R : R16 a0 w o p N S b off s X g l a W) {j t : Nat} (h : (r16[j]?).map (·.dst) = some (some t)) (hb : l.getD j false = true) : a.eval (.tmp t) = r16val o p N S b off s X g j := by
  obtain ⟨u, h1, h2⟩ := Option.map_eq_some_iff.1 h
  exact R.sl.eval_on h1 h2 hb
end
set_option maxHeartbeats 2000000 in
theorem instr_region16 {id : Nat} {Q : Exit → Act → World → Prop} {a0 : Act} {w W0 : World} (o p n0 n1 n2 n3 n4 : Int) (b off n cap : Nat) (v : Wd) (x0 x1 x2 x3 x4 x5 x6 x7 : Int)
    (hn : a0.tmps.size = 104) (h0 : a0.tmps.getD 0 undef = .slice (some ⟨b, off, none⟩) (n + 1) cap) (h4 : a0.tmps.getD 4 undef = .int .i64 o) (h6 : a0.tmps.getD 6 undef = .pointer (some ⟨w.heap.size + 1, 0, none⟩)) (h7 : a0.tmps.getD 7 undef = .int .i64 p)
    (hir : InR w (n5 n0 n1 n2 n3 n4) W0) (hst : W0.cell? ⟨b, off, none⟩ = some (.string (bstr v))) (hlt : b < w.heap.size)
    (hbd : ∀ W, Calls Tryd.prog 43 #[.int .i64 o, .int .i64 p, .agg (n5 n0 n1 n2 n3 n4), .string (bstr v)] W fun e w' => e = .returned (insV x0 x1 x2 x3 x4 x5 x6 x7) ∧ Below W.heap.size W w')
    (hend : ∀ (g : Nat) (W : World), InR w (n5 n0 n1 n2 n3 n4) W → w.heap.size + 2 ≤ g → W.heap[g]? = some (.cells (c8 x0 x1 x2 x3 x4 x5 x6 x7) 36 (0, 0)) →
      Q .normal (lay r16 (r16val o p (n5 n0 n1 n2 n3 n4) (.slice (some ⟨b, off, none⟩) (n + 1) cap) b off (bstr v) (c8 x0 x1 x2 x3 x4 x5 x6 x7) g) (List.range 9) a0) W) :
    (Code.region id r16 true).wp Tryd.prog Q a0 W0 := by
  refine region_inv (by kernel_rfl) r16_dag (fun l a W => ∃ g, R16 a0 w o p (n5 n0 n1 n2 n3 n4) (.slice (some ⟨b, off, none⟩) (n + 1) cap) b off (bstr v) (c8 x0 x1 x2 x3 x4 x5 x6 x7) g l a W) ?_ ?_ ?_
  · refine ⟨0, Sl.start, hir.next (Below.refl _ _).drew, hst, hlt, fun hb => ?_⟩
    rw [Array.getD_eq_getD_getElem?, Array.getElem?_replicate] at hb
    split at hb <;> simp at hb
  · rintro l a W i u hl hok ⟨g, R⟩ ho hli hw
    obtain ⟨hi, hd, hop⟩ := r16_at ho
    have off0 := (R.sl.eval_off (r16_off (t := 0) (by simp))).trans h0
    have off4 := (R.sl.eval_off (r16_off (t := 4) (by simp))).trans h4
    have off6 := (R.sl.eval_off (r16_off (t := 6) (by simp))).trans h6
    have off7 := (R.sl.eval_off (r16_off (t := 7) (by simp))).trans h7
    have hrf := Below.refl W.heap.size W
    have hcase : i = 0 ∨ i = 1 ∨ i = 2 ∨ i = 3 ∨ i = 4 ∨ i = 5 ∨ i = 6 ∨ i = 7 ∨ i = 8 := by omega
    rcases hcase with rfl | rfl | rfl | rfl | rfl | rfl | rfl | rfl | rfl <;> simp at hd hop <;> obtain ⟨hd, hg, hwt⟩ := hd <;> refine wpOp_of ho hg.symm ?_
    · exact wp_value (run_move u a W 4 _ hop.symm off4) ⟨g, R.plain hn hl ho (by omega) hrf rfl⟩
    · exact wp_value (run_move u a W 7 _ hop.symm off7) ⟨g, R.plain hn hl ho (by omega) hrf rfl⟩
    · have hr := World.rangeAt_of_block R.ir.n 0 5
      refine wp_load_mid 71 (.tmp 6) hop.symm (w.heap.size + 1) 0 off6 _ _ hr Tryd.underlying71 rfl (by kernel_rfl) ?_
      exact ⟨g, R.plain hn hl ho (by omega) hrf rfl⟩
    · exact wp_value (run_move u a W 0 _ hop.symm off0) ⟨g, R.plain hn hl ho (by omega) hrf rfl⟩
    · have ev := R.ev (j := 3) (t := 90) (by kernel_rfl) (hw 3 (by rw [← hwt]; simp))
      exact wp_value (run_index32 u a W b off n cap hop.symm ev) ⟨g, R.plain hn hl ho (by omega) hrf rfl⟩
    · have ev := R.ev (j := 4) (t := 91) (by kernel_rfl) (hw 4 (by rw [← hwt]; simp))
      exact wp_value (run_load9 u a W _ _ hop.symm ev R.st) ⟨g, R.plain hn hl ho (by omega) hrf rfl⟩
    · have e1 := R.ev (j := 0) (t := 87) (by kernel_rfl) (hw 0 (by rw [← hwt]; simp))
      have e2 := R.ev (j := 1) (t := 88) (by kernel_rfl) (hw 1 (by rw [← hwt]; simp))
      have e3 := R.ev (j := 2) (t := 89) (by kernel_rfl) (hw 2 (by rw [← hwt]; simp))
      have e4 := R.ev (j := 5) (t := 92) (by kernel_rfl) (hw 5 (by rw [← hwt]; simp))
      exact wp_enter (run_call43 u a W _ _ _ _ hop.symm e1 e2 e3 e4) (hbd W) (fun w'' hb => ⟨g, R.plain hn hl ho (by omega) hb rfl⟩)
    · have h8 : l.getD 8 false = false := by
        cases hb : l.getD 8 false with
        | false => rfl
        | true =>
          exfalso
          have ho8 : r16[8]? = some r16[8] := Array.getElem?_eq_getElem (by rw [r16_size]; omega)
          obtain ⟨_, hd8, _⟩ := r16_at ho8
          have h7' := hok 8 _ ho8 hb 7 (by simp at hd8; rw [← hd8.2.2]; simp)
          rw [Array.getD_eq_getD_getElem?] at hli h7'
          cases hx : l[7]? with
          | none => rw [hx] at h7'; simp at h7'
          | some q => rw [hx] at hli h7'; simp at hli h7'; rw [hli] at h7'; cases h7'
      exact wp_value (run_alloc36 u a W hop.symm) ⟨_, R.alloc hn hl ho h8⟩
    · have e1 := R.ev (j := 7) (t := 9) (by kernel_rfl) (hw 7 (by rw [← hwt]; simp))
      have e2 := R.ev (j := 6) (t := 93) (by kernel_rfl) (hw 6 (by rw [← hwt]; simp))
      have hal := hw 7 (by rw [← hwt]; simp)
      have hns : l.getD 8 false = false := by
        rw [Array.getD_eq_getD_getElem?] at hli ⊢
        cases hx : l[8]? with
        | none => rfl
        | some v => rw [hx] at hli; simpa using hli
      have hr := (R.row hal).2
      rw [hns] at hr
      exact wp_store_row 36 (.tmp 9) (.tmp 93) hop.symm g _ e1 e2 36 (c8 0 0 0 0 0 0 0 0) hr (by kernel_rfl) rfl (by simp [c8, Value.oneCell']) ⟨g, R.store hn hl ho hal hd.symm⟩
  · rintro l a W hl hall ⟨g, R⟩
    rw [r16_size] at hall
    have e := R.sl.all r16_dstB hn (by rw [r16_size]; exact hall)
    rw [r16_size] at e
    rw [e]
    obtain ⟨hg, hr⟩ := R.row (hall 7 (by omega))
    rw [hall 8 (by omega), if_pos rfl] at hr
    exact hend g W R.ir hg hr
theorem r16_lay (v : Nat → Value) (a : Act) : lay r16 v (List.range 9) a = (((((((a.put (some 87) (v 0)).put (some 88) (v 1)).put (some 89) (v 2)).put (some 90) (v 3)).put (some 91) (v 4)).put (some 92) (v 5)).put (some 93) (v 6)).put (some 9) (v 7) := by
  have h0 : (r16[0]?).bind (·.dst) = some 87 := by kernel_rfl
  have h1 : (r16[1]?).bind (·.dst) = some 88 := by kernel_rfl
  have h2 : (r16[2]?).bind (·.dst) = some 89 := by kernel_rfl
  have h3 : (r16[3]?).bind (·.dst) = some 90 := by kernel_rfl
  have h4 : (r16[4]?).bind (·.dst) = some 91 := by kernel_rfl
  have h5 : (r16[5]?).bind (·.dst) = some 92 := by kernel_rfl
  have h6 : (r16[6]?).bind (·.dst) = some 93 := by kernel_rfl
  have h7 : (r16[7]?).bind (·.dst) = some 9 := by kernel_rfl
  have h8 : (r16[8]?).bind (·.dst) = none := by kernel_rfl
  have hr : List.range 9 = [0, 1, 2, 3, 4, 5, 6, 7, 8] := rfl
  rw [hr]
  simp only [lay, h0, h1, h2, h3, h4, h5, h6, h7, h8, put_none]
end Go.Proofs.YtiomnlgnhdhffaaDoor
