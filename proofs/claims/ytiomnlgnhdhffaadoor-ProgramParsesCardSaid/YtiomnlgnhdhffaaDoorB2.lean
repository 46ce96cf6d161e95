/-
  The region of program.check that draws its order. Conditions: none but what each theorem names.
-/
import Derived.Test.YtiomnlgnhdhffaaDoorB1
import Derived.Test.YtiomnlgnhdhffaaDoorInv
import Derived.Deep.MidRow
namespace Go.Proofs.YtiomnlgnhdhffaaDoor
open Go.RowKit
set_option linter.unusedVariables false

/-- The operations of region k of a body. -/
def opsIn : Code → Nat → Option (Array Oper)
  | .region id ops _, k => if id = k then some ops else none
  | .seq a b, k => (opsIn a k).orElse fun _ => opsIn b k
  | .cond _ a b, k => (opsIn a k).orElse fun _ => opsIn b k
  | .block _ b, k => opsIn b k
  | .loop b, k => opsIn b k
  | .scope b, k => opsIn b k
  | _, _ => none
def opsOf (f : Func) (k : Nat) : Array Oper := ((f.body.bind fun c => opsIn c k)).getD #[]

section
variable {P : Program} {ops : Array Oper} {Q : Exit → Act → World → Prop} {K : Act → World → Prop} {o : Oper} {a : Act} {w : World}
theorem wpOp_of {i : Nat} (ho : ops[i]? = some o) (hg : o.guard = none) (h : o.wp P a w K Q) : wpOp P ops Q i K a w := by
  unfold wpOp
  rw [ho]
  simp only [Region.wanted, hg, if_true]
  exact .inl h
theorem wp_alloc (e : TypeId) (ho : o.op = .alloc e) (zs : Array Value) (hz : ∀ w, (execOp a.eval o).run P w = .ok (.value (.pointer (some ⟨w.heap.size, 0, none⟩))) (w.alloc (.cells zs e))) 
    (h : K (a.put o.dst (.pointer (some ⟨w.heap.size, 0, none⟩))) (w.alloc (.cells zs e))) : o.wp P a w K Q := by
  unfold Oper.wp
  rw [hz]
  exact h
end

noncomputable def r4 : Array Oper := opsOf Tryd.f19 4
theorem r4_size : r4.size = 14 := by kernel_rfl
noncomputable def r4At (i : Nat) : Option (Option Tmp × Option (Nat × Bool) × List Nat) := (r4[i]?).map fun o => (o.dst, o.guard, waitsFor o)
theorem r4_dst : (List.range 14).map r4At = [some (some 19, none, []), some (some 20, none, [0]), some (some 21, none, []), some (some 22, none, [2]), some (some 23, none, [3, 1]), some (some 24, none, []), some (some 25, none, [5]), some (some 26, none, [6, 4]),
  some (some 5, none, []), some (some 6, none, []), some (some 7, none, []), some (none, none, [8, 1, 7, 0, 1, 8, 9, 10]), some (none, none, [9, 4, 11, 0, 1, 2, 3, 4, 8, 9, 10, 11]), some (none, none, [10, 7, 12, 0, 1, 2, 3, 4, 5, 6, 7, 8, 9, 10, 11, 12])] := by kernel_rfl
theorem r4_dag : dagB r4 = true := by kernel_rfl
theorem r4_dstB : dstB r4 75 = true := by kernel_rfl
theorem r4_ops : (List.range 14).map (fun i => (r4[i]?).map (·.op)) = [some (.load 36 (.tmp 1)), some (.call { callee := .value (.func 32), args := #[.tmp 19], argTypes := #[36] }), some (.fieldAddr 60 (.tmp 3) 0), some (.load 36 (.tmp 21)), some (.call { callee := .value (.func 32), args := #[.tmp 22], argTypes := #[36] }),
  some (.fieldAddr 60 (.tmp 3) 1), some (.load 36 (.tmp 24)), some (.call { callee := .value (.func 32), args := #[.tmp 25], argTypes := #[36] }), some (.alloc 63), some (.alloc 63), some (.alloc 63), some (.store 63 (.tmp 5) (.tmp 20)), some (.store 63 (.tmp 6) (.tmp 23)), some (.store 63 (.tmp 7) (.tmp 26))] := by kernel_rfl
/-- What the region's operation i is. -/
theorem r4_at {i : Nat} {o : Oper} (ho : r4[i]? = some o) : i < 14 ∧ ([some (some 19, none, []), some (some 20, none, [0]), some (some 21, none, []), some (some 22, none, [2]), some (some 23, none, [3, 1]), some (some 24, none, []), some (some 25, none, [5]), some (some 26, none, [6, 4]),
  some (some 5, none, []), some (some 6, none, []), some (some 7, none, []), some (none, none, [8, 1, 7, 0, 1, 8, 9, 10]), some (none, none, [9, 4, 11, 0, 1, 2, 3, 4, 8, 9, 10, 11]), some (none, none, [10, 7, 12, 0, 1, 2, 3, 4, 5, 6, 7, 8, 9, 10, 11, 12])] : List (Option (Option Tmp × Option (Nat × Bool) × List Nat)))[i]? = some (some (o.dst, o.guard, waitsFor o)) ∧
  ([some (.load 36 (.tmp 1)), some (.call { callee := .value (.func 32), args := #[.tmp 19], argTypes := #[36] }), some (.fieldAddr 60 (.tmp 3) 0), some (.load 36 (.tmp 21)), some (.call { callee := .value (.func 32), args := #[.tmp 22], argTypes := #[36] }),
  some (.fieldAddr 60 (.tmp 3) 1), some (.load 36 (.tmp 24)), some (.call { callee := .value (.func 32), args := #[.tmp 25], argTypes := #[36] }), some (.alloc 63), some (.alloc 63), some (.alloc 63), some (.store 63 (.tmp 5) (.tmp 20)), some (.store 63 (.tmp 6) (.tmp 23)), some (.store 63 (.tmp 7) (.tmp 26))] : List (Option Op))[i]? = some (some o.op) := by
  have hi : i < 14 := by
    have := (Array.getElem?_eq_some_iff.1 ho).1
    rw [r4_size] at this
    exact this
  refine ⟨hi, ?_, ?_⟩
  · rw [← r4_dst, List.getElem?_map, List.getElem?_range hi]
    simp [r4At, ho]
  · rw [← r4_ops, List.getElem?_map, List.getElem?_range hi]
    simp [ho]

theorem run_alloc63 (o : Oper) (a : Act) (w : World) (ho : o.op = .alloc 63) : (execOp a.eval o).run Tryd.prog w = .ok (.value (.pointer (some ⟨w.heap.size, 0, none⟩))) (w.alloc (.cells #[.int .i64 0, .int .i64 0, .int .i64 0, .int .i64 0, .int .i64 0, .int .i64 0, .int .i64 0] 63)) := by
  unfold execOp
  simp only [ho]
  go_simp
theorem run_field0 (o : Oper) (a : Act) (w : World) (p : Nat) (ho : o.op = .fieldAddr 60 (.tmp 3) 0) (hp : a.eval (.tmp 3) = .pointer (some ⟨p, 0, none⟩)) : (execOp a.eval o).run Tryd.prog w = .ok (.value (.pointer (some ⟨p, 0, none⟩))) w := by
  unfold execOp
  simp only [ho, hp]
  go_simp
theorem run_field1 (o : Oper) (a : Act) (w : World) (p : Nat) (ho : o.op = .fieldAddr 60 (.tmp 3) 1) (hp : a.eval (.tmp 3) = .pointer (some ⟨p, 0, none⟩)) : (execOp a.eval o).run Tryd.prog w = .ok (.value (.pointer (some ⟨p, 8, none⟩))) w := by
  unfold execOp
  simp only [ho, hp]
  go_simp
theorem run_call32 (o : Oper) (a : Act) (w : World) (t : Tmp) (v : Value) (ho : o.op = .call { callee := .value (.func 32), args := #[.tmp t], argTypes := #[36] }) (hp : a.eval (.tmp t) = v) : (execOp a.eval o).run Tryd.prog w = .ok (.enter 32 #[v]) w := by
  unfold execOp
  simp only [ho]
  have h2 := Tryd.func32
  have hp' : a.tmps[t]?.getD undef = v := by simpa [Act.eval] using hp
  go_simp
section
variable {ops : Array Oper} {Q : Exit → Act → World → Prop} {K : Act → World → Prop} {o : Oper} {a : Act} {w : World}
theorem wp_value {v : Value} {w' : World} (h : (execOp a.eval o).run Tryd.prog w = .ok (.value v) w') (hk : K (a.put o.dst v) w') : o.wp Tryd.prog a w K Q := by
  unfold Oper.wp
  rw [h]
  exact hk
theorem wp_enter {f : FuncId} {args : Array Value} {v : Value} {w' : World} (h : (execOp a.eval o).run Tryd.prog w = .ok (.enter f args) w') (hc : Calls Tryd.prog f args w' fun e w'' => e = .returned v ∧ Below w'.heap.size w' w'')
    (hk : ∀ w'', Below w'.heap.size w' w'' → K (a.put o.dst v) w'') : o.wp Tryd.prog a w K Q := by
  unfold Oper.wp
  rw [h]
  refine hc.mono ?_
  rintro e w'' ⟨rfl, hb⟩
  exact hk w'' hb
end
abbrev z7 : Array Value := #[.int .i64 0, .int .i64 0, .int .i64 0, .int .i64 0, .int .i64 0, .int .i64 0, .int .i64 0]
/-- What stays over the region: the instruction's block and the limits'. -/
structure CkI (B : Nat) (w : World) (p1 p3 : Nat) (X L : Array Value) (W : World) : Prop where
  below : Below w.heap.size w W
  size : B ≤ W.heap.size
  le : w.heap.size ≤ B
  lt1 : p1 < B
  lt3 : p3 < B
  x : W.heap[p1]? = some (.cells X 36 (0, 0))
  l : W.heap[p3]? = some (.cells L 60 (0, 0))
theorem CkI.next {B : Nat} {w W W' : World} {p1 p3 : Nat} {X L : Array Value} (h : CkI B w p1 p3 X L W) (hb : Below B W W') : CkI B w p1 p3 X L W' :=
  ⟨h.below.trans (hb.mono h.le), Nat.le_trans h.size hb.size, h.le, h.lt1, h.lt3, by rw [hb.block _ h.lt1]; exact h.x, by rw [hb.block _ h.lt3]; exact h.l⟩
theorem CkI.call {B : Nat} {w W W' : World} {p1 p3 : Nat} {X L : Array Value} (h : CkI B w p1 p3 X L W) (hb : Below W.heap.size W W') : CkI B w p1 p3 X L W' := h.next (hb.mono h.size)

def r4val (p3 : Nat) (X F1 L1 F2 L2 F3 : Value) (p : Nat → Nat) : Nat → Value
  | 0 => X | 1 => F1 | 2 => .pointer (some ⟨p3, 0, none⟩) | 3 => L1 | 4 => F2 | 5 => .pointer (some ⟨p3, 8, none⟩) | 6 => L2 | 7 => F3
  | 8 => .pointer (some ⟨p 0, 0, none⟩) | 9 => .pointer (some ⟨p 1, 0, none⟩) | 10 => .pointer (some ⟨p 2, 0, none⟩) | _ => undef
/-- The relation over the region. -/
structure R4 (a0 : Act) (B : Nat) (w : World) (p1 p3 : Nat) (X L F1 F2 F3 : Array Value) (L1 L2 : Array Value) (p : Nat → Nat) (l : Array Bool) (a : Act) (W : World) : Prop where
  sl : Sl r4 a0 (r4val p3 (.agg X) (.agg F1) (.agg L1) (.agg F2) (.agg L2) (.agg F3) p) l a
  ck : CkI B w p1 p3 X L W
  row : ∀ q, q < 3 → l.getD (8 + q) false = true → B ≤ p q ∧ W.heap[p q]? = some (.cells (if l.getD (11 + q) false = true then (if q = 0 then F1 else if q = 1 then F2 else F3) else z7) 63 (0, 0))
  ne : ∀ q r, q < 3 → r < 3 → q ≠ r → l.getD (8 + q) false = true → l.getD (8 + r) false = true → p q ≠ p r

theorem fields_call (X : Array Value) (a b c d e f g h : Int) (hX : X = #[.int .i64 a, .int .i64 b, .int .i64 c, .int .i64 d, .int .i64 e, .int .i64 f, .int .i64 g, .int .i64 h]) (w : World) :
    Calls Tryd.prog 32 #[.agg X] w fun r w' => r = .returned (.agg #[.int .i64 b, .int .i64 c, .int .i64 d, .int .i64 e, .int .i64 f, .int .i64 g, .int .i64 h]) ∧ Below w.heap.size w w' := by
  subst hX
  exact fields32 a b c d e f g h w
end Go.Proofs.YtiomnlgnhdhffaaDoor
