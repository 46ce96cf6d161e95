/-
  The region of the reference's instr that hands the built instruction to options. Conditions: none but what each theorem names.
-/
import Derived.Test.YtiomnlgnhdhffaaDoorT8
namespace Go.Proofs.YtiomnlgnhdhffaaDoor
open Go.RowKit
set_option linter.unusedVariables false
set_option linter.unusedSimpArgs false

noncomputable def r18 : Array Oper := opsOf Tryd.f26 18
theorem r18_size : r18.size = 9 := by kernel_rfl
theorem r18_dag : dagB r18 = true := by kernel_rfl
theorem r18_dstB : dstB r18 104 = true := by kernel_rfl
noncomputable def r18At (i : Nat) : Option (Option Tmp × Option (Nat × Bool) × List Nat) := (r18[i]?).map fun o => (o.dst, o.guard, waitsFor o)
abbrev r18D : List (Option (Option Tmp × Option (Nat × Bool) × List Nat)) := [some (some 96, none, []), some (some 97, none, []), some (some 98, none, []), some (some 99, none, [1, 2]), some (some 100, none, [0, 3]), some (some 101, none, [4]), some (some 102, none, [4]), some (none, none, [5, 4, 0, 1, 2, 3, 4, 5, 6]), some (some 3, none, [6, 7, 0, 1, 2, 3, 4, 5, 6, 7])]
abbrev r18O : List (Option Op) := [some (.load 36 (.tmp 9)), some (.move (.tmp 0)), some (.move (.tmp 5)), some (.slice 32 (.tmp 97) (some (.tmp 98)) none none), some (.call { callee := .value (.func 44), args := #[.tmp 96, .tmp 99], argTypes := #[36, 32] }), some (.extract (.tmp 100) 0), some (.extract (.tmp 100) 1), some (.store 36 (.tmp 2) (.tmp 101)), some (.assign (.tmp 102))]
theorem r18_dst : (List.range 9).map r18At = r18D := by kernel_rfl
theorem r18_ops : (List.range 9).map (fun i => (r18[i]?).map (·.op)) = r18O := by kernel_rfl
theorem r18_at {i : Nat} {o : Oper} (ho : r18[i]? = some o) : i < 9 ∧ r18D[i]? = some (some (o.dst, o.guard, waitsFor o)) ∧ r18O[i]? = some (some o.op) := by
  have hi : i < 9 := by
    have := (Array.getElem?_eq_some_iff.1 ho).1
    rw [r18_size] at this
    exact this
  refine ⟨hi, ?_, ?_⟩
  · rw [← r18_dst, List.getElem?_map, List.getElem?_range hi]
    simp [r18At, ho]
  · rw [← r18_ops, List.getElem?_map, List.getElem?_range hi]
    simp [ho]
theorem r18_off {t : Tmp} (ht : t = 0 ∨ t = 2 ∨ t = 5 ∨ t = 9) : ∀ (j : Nat) (o : Oper), r18[j]? = some o → o.dst ≠ some t := by
  intro j o ho
  obtain ⟨hi, hd, _⟩ := r18_at ho
  have hcase : j = 0 ∨ j = 1 ∨ j = 2 ∨ j = 3 ∨ j = 4 ∨ j = 5 ∨ j = 6 ∨ j = 7 ∨ j = 8 := by omega
  rcases ht with rfl | rfl | rfl | rfl <;> rcases hcase with rfl | rfl | rfl | rfl | rfl | rfl | rfl | rfl | rfl <;> simp at hd <;> simp [← hd.1]
theorem run_assign (o : Oper) (a : Act) (w : World) (t : Tmp) (v : Value) (ho : o.op = .assign (.tmp t)) (hp : a.eval (.tmp t) = v) : (execOp a.eval o).run Tryd.prog w = .ok (.value v) w := by
  unfold execOp
  simp only [ho, hp]
  go_simp
theorem run_extract (o : Oper) (a : Act) (w : World) (t : Tmp) (cs : Array Value) (i : Nat) (v : Value) (ho : o.op = .extract (.tmp t) i) (hp : a.eval (.tmp t) = .tuple cs) (hi : cs[i]? = some v) : (execOp a.eval o).run Tryd.prog w = .ok (.value v) w := by
  unfold execOp
  simp only [ho, hp]
  have hi' := hi
  go_simp
theorem run_slice32 (o : Oper) (a : Act) (w : World) (b off n cap : Nat) (ho : o.op = .slice 32 (.tmp 97) (some (.tmp 98)) none none) (hp : a.eval (.tmp 97) = .slice (some ⟨b, off, none⟩) (n + 4) cap) (h4 : a.eval (.tmp 98) = .int .i64 4) (hc : n + 4 ≤ cap) (hc2 : cap ≤ 9223372036854775807) :
    (execOp a.eval o).run Tryd.prog w = .ok (.value (.slice (if cap = 4 then some ⟨b, off, none⟩ else some ⟨b, off + 4, none⟩) n (cap - 4))) w := by
  unfold execOp
  simp only [ho, hp]
  have e4 : a.tmps[98]?.getD undef = .int .i64 4 := by simpa [Act.eval] using h4
  have hn4 : (4 : Int) ≤ ((n : Int) + 4) := by omega
  by_cases h : cap = 4
  · subst h
    obtain rfl : n = 0 := by omega
    go_simp
  · rw [if_neg h]
    go_simp
theorem run_call44 (o : Oper) (a : Act) (w : World) (v1 v2 : Value) (ho : o.op = .call { callee := .value (.func 44), args := #[.tmp 96, .tmp 99], argTypes := #[36, 32] })
    (h1 : a.eval (.tmp 96) = v1) (h2 : a.eval (.tmp 99) = v2) : (execOp a.eval o).run Tryd.prog w = .ok (.enter 44 #[v1, v2]) w := by
  unfold execOp
  simp only [ho]
  have h2' := Tryd.func44
  have e1 : a.tmps[96]?.getD undef = v1 := by simpa [Act.eval] using h1
  have e2 : a.tmps[99]?.getD undef = v2 := by simpa [Act.eval] using h2
  go_simp
def r18val (X : Array Value) (S S' : Value) (Y : Array Value) (q : Bool) : Nat → Value
  | 0 => .agg X | 1 => S | 2 => .int .i64 4 | 3 => S' | 4 => .tuple #[.agg Y, .bool q] | 5 => .agg Y | 6 => .bool q | 7 => undef | _ => .bool q
/-- The relation over the region. -/
structure R18 (a0 : Act) (w : World) (g : Nat) (X : Array Value) (S S' : Value) (Y : Array Value) (q : Bool) (l : Array Bool) (a : Act) (W : World) : Prop where
  sl : Sl r18 a0 (r18val X S S' Y q) l a
  below : Below w.heap.size w W
  x : W.heap[g]? = some (.cells X 36 (0, 0))
  lt : w.heap.size < g
  r : W.heap[w.heap.size]? = some (.cells (if l.getD 7 false = true then Y else c8 0 0 0 0 0 0 0 0) 36 (0, 0))
section
variable {a0 : Act} {w : World} {g : Nat} {X : Array Value} {S S' : Value} {Y : Array Value} {q : Bool} {l : Array Bool} {a : Act} {W : World}
theorem R18.plain (R : R18 a0 w g X S S' Y q l a W) (hn : a0.tmps.size = 104) (hl : l.size = r18.size) {i : Nat} {u : Oper} (ho : r18[i]? = some u) (hi : i ≠ 7) {v : Value} {W' : World} (hb : Below W.heap.size W W')
    (hv : r18val X S S' Y q i = v) : R18 a0 w g X S S' Y q (l.setIfInBounds i true) (a.put u.dst v) W' := by
  refine ⟨R.sl.step r18_dstB hn hl ho (fun j _ _ => rfl) (fun d _ => hv), R.below.trans (hb.mono R.below.size), (hb.block _ (lt_of_block R.x)).trans R.x, R.lt, ?_⟩
  rw [getD_set_ne false hi]
  exact (hb.block _ (lt_of_block R.r)).trans R.r
theorem R18.store (R : R18 a0 w g X S S' Y q l a W) (hn : a0.tmps.size = 104) (hl : l.size = r18.size) {u : Oper} (ho : r18[7]? = some u) (hdst : u.dst = none) :
    R18 a0 w g X S S' Y q (l.setIfInBounds 7 true) (a.put u.dst undef) (W.setRow w.heap.size Y) := by
  have hlt : 7 < l.size := by rw [hl, r18_size]; omega
  refine ⟨R.sl.step r18_dstB hn hl ho (fun j _ _ => rfl) (fun d hd => by rw [hdst] at hd; cases hd), ?_, (setRow_other W _ _ _ (by have := R.lt; omega)).trans R.x, R.lt, ?_⟩
  · have h := R.below
    refine ⟨h.os, h.tape, h.output, by have := h.size; simpa [World.setRow] using this, fun k hk => ?_⟩
    rw [setRow_other W _ _ _ (by omega)]
    exact h.block k hk
  · have e : (l.setIfInBounds 7 true).getD 7 false = true := by
      rw [Array.getD_eq_getD_getElem?, Array.getElem?_setIfInBounds_self_of_lt hlt]
      rfl
    rw [e, if_pos rfl]
    exact setRow_heap W _ _ _ 36 _ R.r
theorem R18.ev (R : R18 a0 w g X S S' Y q l a W) {j t : Nat} (h : (r18[j]?).map (·.dst) = some (some t)) (hb : l.getD j false = true) : a.eval (.tmp t) = r18val X S S' Y q j := by
  obtain ⟨u, h1, h2⟩ := Option.map_eq_some_iff.1 h
  exact R.sl.eval_on h1 h2 hb
end
set_option maxHeartbeats 2000000 in
theorem instr_region18 {id : Nat} {Q : Exit → Act → World → Prop} {a0 : Act} {w W0 : World} (b off n cap g : Nat) (x0 x1 x2 x3 x4 x5 x6 x7 y0 y1 y2 y3 y4 y5 y6 y7 : Int) (q : Bool)
    (hn : a0.tmps.size = 104) (h0 : a0.tmps.getD 0 undef = .slice (some ⟨b, off, none⟩) (n + 4) cap) (h2 : a0.tmps.getD 2 undef = .pointer (some ⟨w.heap.size, 0, none⟩)) (h5 : a0.tmps.getD 5 undef = .int .i64 4) (h9 : a0.tmps.getD 9 undef = .pointer (some ⟨g, 0, none⟩))
    (hbel : Below w.heap.size w W0) (hg : w.heap.size < g) (hx : W0.heap[g]? = some (.cells (c8 x0 x1 x2 x3 x4 x5 x6 x7) 36 (0, 0))) (hr : W0.heap[w.heap.size]? = some (.cells (c8 0 0 0 0 0 0 0 0) 36 (0, 0))) (hc : n + 4 ≤ cap) (hc2 : cap ≤ 9223372036854775807)
    (hcall : ∀ W, Below w.heap.size w W → Calls Tryd.prog 44 #[insV x0 x1 x2 x3 x4 x5 x6 x7, .slice (if cap = 4 then some ⟨b, off, none⟩ else some ⟨b, off + 4, none⟩) n (cap - 4)] W fun e w' => e = .returned (.tuple #[insV y0 y1 y2 y3 y4 y5 y6 y7, .bool q]) ∧ Below W.heap.size W w')
    (hend : ∀ (W : World), Below w.heap.size w W → W.heap[w.heap.size]? = some (.cells (c8 y0 y1 y2 y3 y4 y5 y6 y7) 36 (0, 0)) →
      Q .normal (lay r18 (r18val (c8 x0 x1 x2 x3 x4 x5 x6 x7) (.slice (some ⟨b, off, none⟩) (n + 4) cap) (.slice (if cap = 4 then some ⟨b, off, none⟩ else some ⟨b, off + 4, none⟩) n (cap - 4)) (c8 y0 y1 y2 y3 y4 y5 y6 y7) q) (List.range 9) a0) W) :
    (Code.region id r18 true).wp Tryd.prog Q a0 W0 := by
  refine region_inv (by kernel_rfl) r18_dag (fun l a W => R18 a0 w g (c8 x0 x1 x2 x3 x4 x5 x6 x7) (.slice (some ⟨b, off, none⟩) (n + 4) cap) (.slice (if cap = 4 then some ⟨b, off, none⟩ else some ⟨b, off + 4, none⟩) n (cap - 4)) (c8 y0 y1 y2 y3 y4 y5 y6 y7) q l a W) ?_ ?_ ?_
  · refine ⟨Sl.start, hbel.drew, hx, hg, ?_⟩
    have : (Array.replicate r18.size false).getD 7 false = false := by
      rw [Array.getD_eq_getD_getElem?, Array.getElem?_replicate]
      split <;> rfl
    rw [this]
    exact hr
  · rintro l a W i u hl hok R ho hli hw
    obtain ⟨hi, hd, hop⟩ := r18_at ho
    have off0 := (R.sl.eval_off (r18_off (t := 0) (by simp))).trans h0
    have off2 := (R.sl.eval_off (r18_off (t := 2) (by simp))).trans h2
    have off5 := (R.sl.eval_off (r18_off (t := 5) (by simp))).trans h5
    have off9 := (R.sl.eval_off (r18_off (t := 9) (by simp))).trans h9
    have hrf := Below.refl W.heap.size W
    have hcase : i = 0 ∨ i = 1 ∨ i = 2 ∨ i = 3 ∨ i = 4 ∨ i = 5 ∨ i = 6 ∨ i = 7 ∨ i = 8 := by omega
    rcases hcase with rfl | rfl | rfl | rfl | rfl | rfl | rfl | rfl | rfl <;> simp at hd hop <;> obtain ⟨hd, hg, hwt⟩ := hd <;> refine wpOp_of ho hg.symm ?_
    · exact wp_load_struct 9 hop.symm g 0 off9 _ _ 36 R.x rfl rfl (R.plain hn hl ho (by omega) hrf rfl)
    · exact wp_value (run_move u a W 0 _ hop.symm off0) (R.plain hn hl ho (by omega) hrf rfl)
    · exact wp_value (run_move u a W 5 _ hop.symm off5) (R.plain hn hl ho (by omega) hrf rfl)
    · have e1 := R.ev (j := 1) (t := 97) (by kernel_rfl) (hw 1 (by rw [← hwt]; simp))
      have e2 := R.ev (j := 2) (t := 98) (by kernel_rfl) (hw 2 (by rw [← hwt]; simp))
      exact wp_value (run_slice32 u a W b off n cap hop.symm e1 e2 hc hc2) (R.plain hn hl ho (by omega) hrf rfl)
    · have e1 := R.ev (j := 0) (t := 96) (by kernel_rfl) (hw 0 (by rw [← hwt]; simp))
      have e2 := R.ev (j := 3) (t := 99) (by kernel_rfl) (hw 3 (by rw [← hwt]; simp))
      exact wp_enter (run_call44 u a W _ _ hop.symm e1 e2) (hcall W R.below) (fun w'' hb => R.plain hn hl ho (by omega) hb rfl)
    · have e1 := R.ev (j := 4) (t := 100) (by kernel_rfl) (hw 4 (by rw [← hwt]; simp))
      exact wp_value (run_extract u a W 100 _ 0 _ hop.symm e1 rfl) (R.plain hn hl ho (by omega) hrf rfl)
    · have e1 := R.ev (j := 4) (t := 100) (by kernel_rfl) (hw 4 (by rw [← hwt]; simp))
      exact wp_value (run_extract u a W 100 _ 1 _ hop.symm e1 rfl) (R.plain hn hl ho (by omega) hrf rfl)
    · have e2 := R.ev (j := 5) (t := 101) (by kernel_rfl) (hw 5 (by rw [← hwt]; simp))
      have hns : l.getD 7 false = false := by
        rw [Array.getD_eq_getD_getElem?] at hli ⊢
        cases hx : l[7]? with
        | none => rfl
        | some v => rw [hx] at hli; simpa using hli
      have hr := R.r
      rw [hns] at hr
      exact wp_store_row 36 (.tmp 2) (.tmp 101) hop.symm w.heap.size _ off2 e2 36 (c8 0 0 0 0 0 0 0 0) hr (by kernel_rfl) rfl (by simp [c8, Value.oneCell']) (R.store hn hl ho hd.symm)
    · have e1 := R.ev (j := 6) (t := 102) (by kernel_rfl) (hw 6 (by rw [← hwt]; simp))
      exact wp_value (run_assign u a W 102 _ hop.symm e1) (R.plain hn hl ho (by omega) hrf rfl)
  · rintro l a W hl hall R
    rw [r18_size] at hall
    have e := R.sl.all r18_dstB hn (by rw [r18_size]; exact hall)
    rw [r18_size] at e
    rw [e]
    have hr := R.r
    rw [hall 7 (by omega), if_pos rfl] at hr
    exact hend W R.below hr
theorem r18_lay (v : Nat → Value) (a : Act) : lay r18 v (List.range 9) a = (((((((a.put (some 96) (v 0)).put (some 97) (v 1)).put (some 98) (v 2)).put (some 99) (v 3)).put (some 100) (v 4)).put (some 101) (v 5)).put (some 102) (v 6)).put (some 3) (v 8) := by
  have h0 : (r18[0]?).bind (·.dst) = some 96 := by kernel_rfl
  have h1 : (r18[1]?).bind (·.dst) = some 97 := by kernel_rfl
  have h2 : (r18[2]?).bind (·.dst) = some 98 := by kernel_rfl
  have h3 : (r18[3]?).bind (·.dst) = some 99 := by kernel_rfl
  have h4 : (r18[4]?).bind (·.dst) = some 100 := by kernel_rfl
  have h5 : (r18[5]?).bind (·.dst) = some 101 := by kernel_rfl
  have h6 : (r18[6]?).bind (·.dst) = some 102 := by kernel_rfl
  have h7 : (r18[7]?).bind (·.dst) = none := by kernel_rfl
  have h8 : (r18[8]?).bind (·.dst) = some 3 := by kernel_rfl
  have hr : List.range 9 = [0, 1, 2, 3, 4, 5, 6, 7, 8] := rfl
  rw [hr]
  simp only [lay, h0, h1, h2, h3, h4, h5, h6, h7, h8, put_none]
end Go.Proofs.YtiomnlgnhdhffaaDoor
