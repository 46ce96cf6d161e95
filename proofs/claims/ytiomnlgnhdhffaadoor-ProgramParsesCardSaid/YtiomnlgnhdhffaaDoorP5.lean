/-
  The call of strings.SplitSeq; the walk of program.Parse. Conditions: none but what each theorem names.
-/
import Derived.Test.YtiomnlgnhdhffaaDoorP4
namespace Go.Proofs.YtiomnlgnhdhffaaDoor
open Go.RowKit Go.Shelf
attribute [local go_sem] Oper.semAt_some
set_option linter.unusedVariables false
set_option linter.unusedSimpArgs false

def sqW (s : ByteArray) (c : UInt8) (w : World) : World := ((w.alloc (.cells #[.string s] 9)).alloc (.cells #[.string ⟨#[c]⟩] 9)).alloc (.cells #[.int .i64 0] 3)
def sqV (b : Nat) : Value := .func (.func 55) #[] #[.pointer (some ⟨b + 1, 0, none⟩), .pointer (some ⟨b, 0, none⟩), .pointer (some ⟨b + 2, 0, none⟩)]
theorem seq35 (s : ByteArray) (c : UInt8) (w : World) : Calls Tryd.prog 35 #[.string s, .string ⟨#[c]⟩, .int .i64 0] w fun e w' => e = .returned (sqV w.heap.size) ∧ w' = sqW s c w := by
  go_enter Tryd.func35, Tryd.ntmps35
  go_wp2
  go_ret
  exact ⟨rfl, rfl⟩
theorem seq23 (s : ByteArray) (c : UInt8) (w : World) : Calls Tryd.prog 23 #[.string s, .string ⟨#[c]⟩] w fun e w' => e = .returned (sqV w.heap.size) ∧ w' = sqW s c w := by
  go_enter Tryd.func23, Tryd.ntmps23
  go_wp2_with (go_at_call 35; refine (seq35 _ _ _).mono ?_; rintro e w' ⟨rfl, rfl⟩)
  go_ret
  exact ⟨rfl, rfl⟩
theorem bstr_eta (s : ByteArray) : bstr s.data.toList = s := by cases s; simp [bstr]
theorem sqW_at (s : ByteArray) (c : UInt8) (w : World) : SqAt w.heap.size c s.data.toList (sqW s c w) := by
  refine ⟨?_, ?_, ?_⟩
  · rw [bstr_eta]
    exact heap_keep (heap_keep (heap_at rfl _) _) _
  · exact heap_keep (heap_at (by simp) _) _
  · exact heap_at (by simp) _
theorem sqW_size (s : ByteArray) (c : UInt8) (w : World) : (sqW s c w).heap.size = w.heap.size + 3 := by simp [sqW]
theorem sqW_below (s : ByteArray) (c : UInt8) (w : World) : Below w.heap.size w (sqW s c w) := (((Below.refl _ w).alloc (Nat.le_refl _) _).alloc (by simp) _).alloc (by simp; omega) _

/-! ### What Parse computes. -/
def wordsOf (l : List UInt8) : List Wd := (cutAt 32 l).filter (fun w => !w.isEmpty)
inductive LR where
  | skip
  | bad (e : Int)
  | ins (x : Ins)
def lineW (ws : List Wd) : LR := match ws with
  | [] => .skip
  | w :: t => if w.headD 0 = 35 then .skip else if (insS (w :: t, true)).2.2 = false ∨ (insS (w :: t, true)).2.1 ≠ [] then .bad 4 else if chkI (insS (w :: t, true)).1 ≠ 0 then .bad 2 else .ins (insS (w :: t, true)).1
def parL : List ByteArray → Nat → List Ins → List Ins × Int × Int
  | [], _, c => if 48 < c.length then ([], 0, 9) else (c, 0, 0)
  | x :: r, k, c => match lineW (wordsOf x.data.toList) with
    | .skip => parL r (k + 1) c
    | .bad e => ([], (k : Int) + 1, e)
    | .ins i => parL r (k + 1) (c ++ [i])
def parT (text : ByteArray) : List Ins × Int × Int := if 4000 < text.size then ([], 0, 9) else parL (frags 10 text.data.toList) 0 []
theorem parL_skip {pre : List ByteArray} {x : ByteArray} {c : List Ins} (h : ∀ rest, parL (pre ++ rest) 0 [] = parL rest pre.length c) (hx : lineW (wordsOf x.data.toList) = .skip) : ∀ rest, parL (pre ++ [x] ++ rest) 0 [] = parL rest (pre ++ [x]).length c := by
  intro rest
  rw [List.append_assoc, h, List.singleton_append, parL, hx]
  simp
theorem parL_ins {pre : List ByteArray} {x : ByteArray} {c : List Ins} {i : Ins} (h : ∀ rest, parL (pre ++ rest) 0 [] = parL rest pre.length c) (hx : lineW (wordsOf x.data.toList) = .ins i) : ∀ rest, parL (pre ++ [x] ++ rest) 0 [] = parL rest (pre ++ [x]).length (c ++ [i]) := by
  intro rest
  rw [List.append_assoc, h, List.singleton_append, parL, hx]
  simp
theorem parL_bad {pre : List ByteArray} {x : ByteArray} {c : List Ins} {e : Int} (h : ∀ rest, parL (pre ++ rest) 0 [] = parL rest pre.length c) (hx : lineW (wordsOf x.data.toList) = .bad e) : ∀ rest, parL (pre ++ [x] ++ rest) 0 [] = ([], (pre.length : Int) + 1, e) := by
  intro rest
  rw [List.append_assoc, h, List.singleton_append, parL, hx]

/-! ### The memory of Parse. -/
def insC (x : Ins) : List Value := [.int .i64 x.op, .int .i64 x.page, .int .i64 x.count, .int .i64 x.index, .int .i64 x.value, .int .i64 x.file, .int .i64 x.prot, .int .i64 x.flags]
def codeC (c : List Ins) : List Value := c.flatMap insC
theorem codeC_len (c : List Ins) : (codeC c).length = c.length * 8 := by
  induction c with
  | nil => rfl
  | cons x c ih =>
    simp only [codeC, List.flatMap_cons, List.length_append, List.length_cons] at *
    rw [ih]
    simp [insC]
    omega
theorem codeC_snoc (c : List Ins) (x : Ins) : codeC (c ++ [x]) = codeC c ++ insC x := by simp [codeC]
/-- The results' boxes and the code's row, all below B. -/
structure OutI (w : World) (code : List Ins) (k : Int) (B : Nat) (W : World) : Prop where
  below : Below w.heap.size w W
  size : B ≤ W.heap.size
  lo : w.heap.size + 6 ≤ B
  kc : W.heap[w.heap.size + 1]? = some (.cells #[.int .i64 k] 3 (0, 0))
  er : W.heap[w.heap.size + 2]? = some (.cells #[.int .i64 0] 3 (0, 0))
  code : ∃ v, W.heap[w.heap.size]? = some (.cells #[v] 22 (0, 0)) ∧ W.ownsRow (w.heap.size + 6) 36 8 v code.length (codeC code) ∧ ∀ g, v.ownBlock = some g → g < B
theorem own_move {W W' : World} {base : Nat} {e : TypeId} {size n : Nat} {v : Value} {xs : List Value} (h : W.ownsRow base e size v n xs) (hk : ∀ g, v.ownBlock = some g → W'.heap[g]? = W.heap[g]?) : W'.ownsRow base e size v n xs := by
  rcases h with ⟨h1, h2 | ⟨g, cap, cur, rfl, h3, h4, h5⟩⟩
  · exact ⟨h1, .inl h2⟩
  · exact ⟨h1, .inr ⟨g, cap, cur, rfl, h3, (hk g rfl).trans h4, h5⟩⟩
theorem own_cells {W : World} {base : Nat} {e : TypeId} {size n : Nat} {v : Value} {xs : List Value} (h : W.ownsRow base e size v n xs) : ∀ g, v.ownBlock = some g → base ≤ g ∧ ∃ cs, W.heap[g]? = some (.cells cs e (0, 0)) := by
  intro g hg
  rcases h.2 with ⟨rfl, _⟩ | ⟨g', cap, cur, rfl, h3, h4, _⟩
  · cases hg
  · cases hg
    exact ⟨h3, _, h4⟩
theorem OutI.weak {w W : World} {code : List Ins} {k : Int} {B B' : Nat} (h : OutI w code k B W) (h1 : B ≤ B') (h2 : B' ≤ W.heap.size) : OutI w code k B' W :=
  ⟨h.below, h2, Nat.le_trans h.lo h1, h.kc, h.er, by obtain ⟨v, a, b, c⟩ := h.code; exact ⟨v, a, b, fun g hg => Nat.lt_of_lt_of_le (c g hg) h1⟩⟩
theorem OutI.grown {w W W' : World} {code : List Ins} {k : Int} {B : Nat} {row : Option Nat} (h : OutI w code k B W) (hg : W.grownBy W' row)
    (hrow : ∀ r, row = some r → w.heap.size + 3 ≤ r ∧ (r = w.heap.size + 3 ∨ B ≤ r ∨ ∃ o : Obj, W.heap[r]? = some o ∧ o.isCells = false)) : OutI w code k B W' := by
  have ne : ∀ q, q < w.heap.size + 3 → some q ≠ row := fun q hq e => by have := (hrow q e.symm).1; omega
  have mv : ∀ q o, q < w.heap.size + 3 → W.heap[q]? = some o → W'.heap[q]? = some o := fun q o hq ho => (hg.block q (lt_of_block ho) (ne q hq)).trans ho
  refine ⟨h.below.grown hg h.below.size (fun r e => by have := (hrow r e).1; omega), Nat.le_trans h.size hg.size, h.lo, mv _ _ (by omega) h.kc, mv _ _ (by omega) h.er, ?_⟩
  obtain ⟨v, a, b, c⟩ := h.code
  refine ⟨v, mv _ _ (by omega) a, own_move b (fun g hgv => ?_), c⟩
  obtain ⟨h6, cs, hcs⟩ := own_cells b g hgv
  refine hg.block g (lt_of_block hcs) (fun e => ?_)
  have hgB := c g hgv
  rcases (hrow g e.symm).2 with h3 | h3 | ⟨o, ho, hc⟩
  · omega
  · omega
  · rw [hcs] at ho
    cases ho
    cases hc
/-- Within a round: what the round must keep. -/
structure RB (w W1 : World) (code : List Ins) (k : Int) (P : Nat) (W : World) : Prop where
  out : OutI w code k P W
  ks : KeepsFrom (w.heap.size + 6) W1 W
  sq : SqKp (w.heap.size + 3) W1 W
  at1 : W1.heap.size ≤ P
theorem RB.grown {w W1 W W' : World} {code : List Ins} {k : Int} {P : Nat} {row : Option Nat} (h : RB w W1 code k P W) (hg : W.grownBy W' row) (hrow : ∀ r, row = some r → P ≤ r) : RB w W1 code k P W' := by
  have hlo := h.out.lo
  have hat := h.at1
  have hsz := h.out.size
  have ne : ∀ q, q < P → some q ≠ row := fun q hq e => by have := hrow q e.symm; omega
  refine ⟨h.out.grown hg (fun r e => ⟨by have := hrow r e; omega, .inr (.inl (hrow r e))⟩), ⟨Nat.le_trans h.ks.size hg.size, fun q o hB ho hc => ?_⟩, ⟨?_, ?_, ?_⟩, hat⟩
  · have h1 := h.ks.same q o hB ho hc
    have := lt_of_block ho
    exact (hg.block q (lt_of_block h1) (ne q (by omega))).trans h1
  · exact (hg.block _ (by omega) (ne _ (by omega))).trans h.sq.1
  · exact (hg.block _ (by omega) (ne _ (by omega))).trans h.sq.2.1
  · exact (hg.block _ (by omega) (ne _ (by omega))).trans h.sq.2.2
/-- .. and the words that have been collected. -/
structure InI (w W1 : World) (code : List Ins) (k : Int) (P : Nat) (ws : List Wd) (W : World) : Prop where
  rb : RB w W1 code k P W
  row : ∃ v, W.heap[P]? = some (.cells #[v, .bool true] 45 (0, 0)) ∧ W.ownsRow (P + 4) 9 1 v ws.length (ws.map fun x => .string (bstr x))
theorem InI.grown {w W1 W W' : World} {code : List Ins} {k : Int} {P : Nat} {ws : List Wd} {row : Option Nat} (h : InI w W1 code k P ws W) (hg : W.grownBy W' row) (hrow : ∀ r, row = some r → P < r ∧ (r < P + 4 ∨ ∃ o : Obj, W.heap[r]? = some o ∧ o.isCells = false)) : InI w W1 code k P ws W' := by
  refine ⟨h.rb.grown hg (fun r e => Nat.le_of_lt (hrow r e).1), ?_⟩
  obtain ⟨v, a, b⟩ := h.row
  refine ⟨v, (hg.block P (lt_of_block a) (fun e => by have := (hrow P e.symm).1; omega)).trans a, own_move b (fun g hgv => ?_)⟩
  obtain ⟨h6, cs, hcs⟩ := own_cells b g hgv
  refine hg.block g (lt_of_block hcs) (fun e => ?_)
  rcases (hrow g e.symm).2 with h3 | ⟨o, ho, hc⟩
  · omega
  · rw [hcs] at ho
    cases ho
    cases hc

end Go.Proofs.YtiomnlgnhdhffaaDoor
