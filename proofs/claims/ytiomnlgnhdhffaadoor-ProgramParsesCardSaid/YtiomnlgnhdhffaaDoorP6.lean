/-
  The walk of program.Parse. Conditions: none but what each theorem names.
-/
import Derived.Test.YtiomnlgnhdhffaaDoorP5
import Derived.Maps.AppendAt
namespace Go.Proofs.YtiomnlgnhdhffaaDoor
open Go.RowKit Go.Shelf
attribute [local go_sem] Oper.semAt_some
set_option linter.unusedVariables false
set_option linter.unusedSimpArgs false

theorem InI.more {w W1 W W' : World} {code : List Ins} {k : Int} {P : Nat} {ws : List Wd} {v v' : Value} {x : Wd} {o : Obj} (h : InI w W1 code k P ws W) (hv : W.heap[P]? = some (.cells #[v, .bool true] 45 (0, 0))) (ho : W.ownsRow (P + 4) 9 1 v ws.length (ws.map fun x => .string (bstr x)))
    (hown : W'.ownsRow (P + 4) 9 1 v' (ws.length + 1) ((ws.map fun x => .string (bstr x)) ++ [.string (bstr x)])) (hg : (W.alloc o).grownBy W' v.ownBlock) : InI w W1 code k P (ws ++ [x]) (W'.setCell ⟨P, 0, none⟩ v') := by
  have hP : W'.heap[P]? = some (.cells #[v, .bool true] 45 (0, 0)) := by
    have h1 := heap_keep hv o
    refine (hg.block P (lt_of_block h1) (fun e => ?_)).trans h1
    have := (own_cells ho P e.symm).1
    omega
  refine ⟨((h.rb.grown (World.grownBy_alloc W o none) (fun r e => by cases e)).grown hg (fun r e => by have := (own_cells ho r e).1; omega)).grown (setCell_grown _ P 0 v') (fun r e => by cases e; exact Nat.le_refl _), v', by rw [setCell_row _ hP]; rfl, ?_⟩
  have := own_move (W' := W'.setCell ⟨P, 0, none⟩ v') hown (fun g hgv => Below.heap_setCell W' ⟨P, 0, none⟩ v' g (by have := (own_cells hown g hgv).1; simp; omega))
  simpa using this
theorem InI.p {w W1 W : World} {code : List Ins} {k : Int} {P : Nat} {ws : List Wd} (h : InI w W1 code k P ws W) : ∃ v, Kp (W.heap[P]? = some (.cells #[v, .bool true] 45 (0, 0))) ∧ Kp (W.ownsRow (P + 4) 9 1 v ws.length (ws.map fun x => .string (bstr x))) ∧ W.cell? ⟨P, 0, none⟩ = some v ∧ W.cell? ⟨P, 1, none⟩ = some (.bool true) ∧ W.frozen? ⟨P, 0, none⟩ = false ∧ W.frozen? ⟨P, 1, none⟩ = false := by
  obtain ⟨v, a, b⟩ := h.row
  refine ⟨v, ⟨a⟩, ⟨b⟩, ?_, ?_, ?_, ?_⟩
  · rw [cell_of_row _ _ _ _ _ _ a]; rfl
  · rw [cell_of_row _ _ _ _ _ _ a]; rfl
  · simp [World.frozen?, a]
  · simp [World.frozen?, a]
theorem OutI.c {w W : World} {code : List Ins} {k : Int} {B : Nat} (h : OutI w code k B W) : W.cell? ⟨w.heap.size + 1, 0, none⟩ = some (.int .i64 k) ∧ W.frozen? ⟨w.heap.size + 1, 0, none⟩ = false ∧ W.cell? ⟨w.heap.size + 2, 0, none⟩ = some (.int .i64 0) ∧ W.frozen? ⟨w.heap.size + 2, 0, none⟩ = false := by
  refine ⟨?_, ?_, ?_, ?_⟩
  · rw [cell_of_row _ _ _ _ _ _ h.kc]; rfl
  · simp [World.frozen?, h.kc]
  · rw [cell_of_row _ _ _ _ _ _ h.er]; rfl
  · simp [World.frozen?, h.er]
/-- The line's number goes up. -/
theorem OutI.step {w W : World} {code : List Ins} {k k' : Int} {B : Nat} (h : OutI w code k B W) : OutI w code k' B (W.setCell ⟨w.heap.size + 1, 0, none⟩ (.int .i64 k')) := by
  have oth : ∀ q, q ≠ w.heap.size + 1 → (W.setCell ⟨w.heap.size + 1, 0, none⟩ (.int .i64 k')).heap[q]? = W.heap[q]? := fun q hq => Below.heap_setCell W ⟨w.heap.size + 1, 0, none⟩ _ q (by simpa using hq)
  refine ⟨h.below.setCell (p := ⟨w.heap.size + 1, 0, none⟩) (by simp) _, by simpa [World.setCell] using h.size, h.lo, by rw [setCell_row _ h.kc]; rfl, (oth _ (by omega)).trans h.er, ?_⟩
  obtain ⟨v, a, b, c⟩ := h.code
  exact ⟨v, (oth _ (by omega)).trans a, own_move b (fun g hg => oth g (by have := (own_cells b g hg).1; omega)), c⟩

/-- Between two rounds of Parse. -/
def PI (w : World) (pre : List ByteArray) (W : World) : Prop := ∃ code, (∀ rest, parL (pre ++ rest) 0 [] = parL rest pre.length code) ∧ code.length ≤ pre.length ∧ OutI w code pre.length W.heap.size W
/-- A round has returned. -/
def PX (w : World) (c : Code) (pre : List ByteArray) (W : World) : Prop := c = .ret ∧ ∃ k e : Int, (∀ rest, parL (pre ++ rest) 0 [] = ([], k, e)) ∧ Below w.heap.size w W ∧
  W.heap[w.heap.size]? = some (.cells #[.slice none 0 0] 22 (0, 0)) ∧ W.heap[w.heap.size + 1]? = some (.cells #[.int .i64 k] 3 (0, 0)) ∧ W.heap[w.heap.size + 2]? = some (.cells #[.int .i64 e] 3 (0, 0))
theorem PI.grown {w W W' : World} {pre : List ByteArray} {row : Option Nat} (h : PI w pre W) (hg : W.grownBy W' row) (hrow : ∀ r, row = some r → w.heap.size + 3 ≤ r ∧ (r = w.heap.size + 3 ∨ ∃ o : Obj, W.heap[r]? = some o ∧ o.isCells = false)) : PI w pre W' := by
  obtain ⟨code, h1, h2, h3⟩ := h
  have := h3.grown hg (fun r e => ⟨(hrow r e).1, (hrow r e).2.elim .inl (fun h => .inr (.inr h))⟩)
  exact ⟨code, h1, h2, this.weak hg.size (Nat.le_refl _)⟩
theorem PX.grown {w W W' : World} {c : Code} {pre : List ByteArray} {row : Option Nat} (h : PX w c pre W) (hg : W.grownBy W' row) (hrow : ∀ r, row = some r → w.heap.size + 3 ≤ r) : PX w c pre W' := by
  obtain ⟨hc, k, e, h1, h2, h3, h4, h5⟩ := h
  have mv : ∀ q o, q < w.heap.size + 3 → W.heap[q]? = some o → W'.heap[q]? = some o := fun q o hq ho => (hg.block q (lt_of_block ho) (fun e => by have := hrow q e.symm; omega)).trans ho
  exact ⟨hc, k, e, h1, h2.grown hg h2.size (fun r e => by have := hrow r e; omega), mv _ _ (by omega) h3, mv _ _ (by omega) h4, mv _ _ (by omega) h5⟩

theorem cutAt_len (c : UInt8) : ∀ l, (cutAt c l).length ≤ l.length + 1
  | [] => by simp [cutAt]
  | b :: l => by
    have ih := cutAt_len c l
    unfold cutAt
    split
    · simp; omega
    · cases h : cutAt c l with
      | nil => exact absurd h (cutAt_ne c l)
      | cons f r => rw [h] at ih; simp at ih ⊢; omega
theorem frags_pre {pre : List ByteArray} {x : ByteArray} {c : UInt8} {l : List UInt8} (h : pre ++ [x] <+: frags c l) (hl : ¬ 4000 < l.length) : pre.length ≤ 4001 := by
  have h1 := h.length_le
  have h2 := cutAt_len c l
  simp [frags] at h1
  omega
theorem InI.start {w W : World} {code : List Ins} {k : Int} (h : OutI w code k W.heap.size W) (k' : Int) (x : ByteArray) : InI w W code k' W.heap.size [] (sqW x 32 ((W.setCell ⟨w.heap.size + 1, 0, none⟩ (.int .i64 k')).alloc (.cells #[.slice none 0 0, .bool true] 45))) := by
  have hs := h.step (k' := k')
  have hlo := h.lo
  have hsz : (W.setCell ⟨w.heap.size + 1, 0, none⟩ (.int .i64 k')).heap.size = W.heap.size := by simp [World.setCell]
  have oth : ∀ q, q ≠ w.heap.size + 1 → (W.setCell ⟨w.heap.size + 1, 0, none⟩ (.int .i64 k')).heap[q]? = W.heap[q]? := fun q hq => Below.heap_setCell W ⟨w.heap.size + 1, 0, none⟩ _ q (by simpa using hq)
  have old : ∀ q o, W.heap[q]? = some o → q ≠ w.heap.size + 1 → (sqW x 32 ((W.setCell ⟨w.heap.size + 1, 0, none⟩ (.int .i64 k')).alloc (.cells #[.slice none 0 0, .bool true] 45))).heap[q]? = some o := fun q o hq hne =>
    heap_keep (heap_keep (heap_keep (heap_keep ((oth q hne).trans hq) _) _) _) _
  refine ⟨⟨?_, ⟨by simp [sqW, hsz]; omega, fun q o hB ho _ => old q o ho (by omega)⟩, ⟨?_, ?_, ?_⟩, Nat.le_refl _⟩, .slice none 0 0, ?_, World.ownsRow_nil _ _ _ _⟩
  · exact (((hs.grown (World.grownBy_alloc _ _ none) (fun r e => by cases e)).grown (World.grownBy_alloc _ _ none) (fun r e => by cases e)).grown (World.grownBy_alloc _ _ none) (fun r e => by cases e)).grown (World.grownBy_alloc _ _ none) (fun r e => by cases e)
  · have : w.heap.size + 3 < W.heap.size := by omega
    rw [Array.getElem?_eq_getElem this]
    exact old _ _ (Array.getElem?_eq_getElem this) (by omega)
  · have : w.heap.size + 3 + 1 < W.heap.size := by omega
    rw [Array.getElem?_eq_getElem this]
    exact old _ _ (Array.getElem?_eq_getElem this) (by omega)
  · have : w.heap.size + 3 + 2 < W.heap.size := by omega
    rw [Array.getElem?_eq_getElem this]
    exact old _ _ (Array.getElem?_eq_getElem this) (by omega)
  · exact heap_keep (heap_keep (heap_keep (heap_at hsz.symm _) _) _) _
def wdsOf (ys : List ByteArray) : List Wd := (ys.map fun y => y.data.toList).filter (fun w => !w.isEmpty)
theorem wdsOf_frags (l : List UInt8) : wdsOf (frags 32 l) = wordsOf l := by
  unfold wdsOf frags wordsOf
  rw [List.map_map]
  have : (fun y : ByteArray => y.data.toList) ∘ bstr = id := by funext l; simp [bstr]
  rw [this, List.map_id]
theorem wdsOf_nil (ys : List ByteArray) {y : ByteArray} (h : y.data.toList = []) : wdsOf (ys ++ [y]) = wdsOf ys := by simp [wdsOf, h]
theorem wdsOf_snoc (ys : List ByteArray) {y : ByteArray} (h : y.data.toList ≠ []) : wdsOf (ys ++ [y]) = wdsOf ys ++ [y.data.toList] := by
  have : (!y.data.toList.isEmpty) = true := by cases hy : y.data.toList with | nil => exact absurd hy h | cons a t => rfl
  unfold wdsOf
  rw [List.map_append, List.filter_append]
  congr 1
  rw [List.map_singleton, List.filter_cons, if_pos this]
  rfl
theorem wdsOf_len (ys : List ByteArray) : (wdsOf ys).length ≤ ys.length := by
  have := List.length_filter_le (fun w : Wd => !w.isEmpty) (ys.map fun y => y.data.toList)
  simpa [wdsOf] using this
theorem cutAt_mem (c : UInt8) : ∀ (l f : List UInt8), f ∈ cutAt c l → f.length ≤ l.length
  | [], f, h => by simp [cutAt] at h; simp [h]
  | b :: l, f, h => by
    unfold cutAt at h
    split at h
    · rcases List.mem_cons.1 h with rfl | h
      · simp
      · have := cutAt_mem c l f h; simp; omega
    · cases hc : cutAt c l with
      | nil => exact absurd hc (cutAt_ne c l)
      | cons g r =>
        rw [hc] at h
        rcases List.mem_cons.1 h with rfl | h
        · have := cutAt_mem c l g (by rw [hc]; exact List.mem_cons_self)
          simp; omega
        · have := cutAt_mem c l f (by rw [hc]; exact List.mem_cons_of_mem _ h)
          simp; omega
theorem frag_len {pre : List ByteArray} {x : ByteArray} {c : UInt8} {l : List UInt8} (h : pre ++ [x] <+: frags c l) : x.data.toList.length ≤ l.length := by
  have hm : x ∈ frags c l := h.subset (by simp)
  obtain ⟨f, hf, rfl⟩ := List.mem_map.1 hm
  have := cutAt_mem c l f hf
  simpa [bstr] using this
theorem pre_len {pre : List ByteArray} {x : ByteArray} {c : UInt8} {l : List UInt8} (h : pre ++ [x] <+: frags c l) : pre.length ≤ l.length := by
  have h1 := h.length_le
  have h2 := cutAt_len c l
  simp [frags] at h1
  omega
theorem keeps_grown {B : Nat} {V V' : World} {row : Option Nat} (hg : V.grownBy V' row) (hrow : ∀ r, row = some r → r < B ∨ ∃ o : Obj, V.heap[r]? = some o ∧ o.isCells = true) : KeepsFrom B V V' :=
  ⟨hg.size, fun q o hB ho hc => (hg.block q (lt_of_block ho) (fun e => by
    rcases hrow q e.symm with h | ⟨o', h1, h2⟩
    · omega
    · rw [ho] at h1
      cases h1
      rw [hc] at h2
      cases h2)).trans ho⟩
theorem sq_grown {b : Nat} {V V' : World} {row : Option Nat} (hg : V.grownBy V' row) (hs : b + 2 < V.heap.size) (hrow : ∀ r, row = some r → r < b ∨ b + 2 < r) : SqKp b V V' :=
  ⟨hg.block _ (by omega) (fun e => by have := hrow _ e.symm; omega), hg.block _ (by omega) (fun e => by have := hrow _ e.symm; omega), hg.block _ (by omega) (fun e => by have := hrow _ e.symm; omega)⟩
theorem inner_post {W W' : World} {P : Nat} {ws : List Wd} {v v' : Value} {o : Obj} (hz : P + 4 ≤ W.heap.size) (ho : W.ownsRow (P + 4) 9 1 v ws.length (ws.map fun x => .string (bstr x)))
    (hg : (W.alloc o).grownBy W' v.ownBlock) : KeepsFrom (P + 4) W (W'.setCell ⟨P, 0, none⟩ v') ∧ SqKp (P + 1) W (W'.setCell ⟨P, 0, none⟩ v') := by
  have hz2 : P + 4 ≤ (W.alloc o).heap.size := by simp; omega
  have hz3 : P + 4 ≤ W'.heap.size := Nat.le_trans hz2 hg.size
  have oc := own_cells ho
  refine ⟨((keeps_grown (World.grownBy_alloc W o none) (fun r e => by cases e)).trans (keeps_grown hg (fun r e => ?_))).trans (keeps_grown (setCell_grown W' P 0 v') (fun r e => by cases e; exact .inl (by omega))), ?_⟩
  · obtain ⟨_, cs, hcs⟩ := oc r e
    exact .inr ⟨_, heap_keep hcs _, rfl⟩
  · have a := sq_grown (b := P + 1) (World.grownBy_alloc W o none) (by omega) (fun r e => by cases e)
    have b := sq_grown (b := P + 1) hg (by omega) (fun r e => by have := (oc r e).1; omega)
    have c := sq_grown (b := P + 1) (setCell_grown W' P 0 v') (by omega) (fun r e => by cases e; omega)
    exact ⟨(c.1.trans b.1).trans a.1, (c.2.1.trans b.2.1).trans a.2.1, (c.2.2.trans b.2.2).trans a.2.2⟩
theorem after_word {w W1 W W' : World} {code : List Ins} {k : Int} {P : Nat} {ws : List Wd} {v v' : Value} {x : Wd} {o : Obj} (h : InI w W1 code k P ws W) (hv : W.heap[P]? = some (.cells #[v, .bool true] 45 (0, 0))) (ho : W.ownsRow (P + 4) 9 1 v ws.length (ws.map fun x => .string (bstr x))) (hz : P + 4 ≤ W.heap.size)
    (hown : W'.ownsRow (P + 4) 9 1 v' (ws.length + 1) ((ws.map fun x => .string (bstr x)) ++ [.string (bstr x)])) (hg : (W.alloc o).grownBy W' v.ownBlock) :
    InI w W1 code k P (ws ++ [x]) (W'.setCell ⟨P, 0, none⟩ v') ∧ (KeepsFrom (P + 4) W (W'.setCell ⟨P, 0, none⟩ v') ∧ SqKp (P + 1) W (W'.setCell ⟨P, 0, none⟩ v')) ∧ P + 4 ≤ (W'.setCell ⟨P, 0, none⟩ v').heap.size ∧ W'.heap[P]? = some (.cells #[v, .bool true] 45 (0, 0)) := by
  refine ⟨h.more hv ho hown hg, inner_post hz ho hg, ?_, ?_⟩
  · have := hg.size
    simp [World.setCell] at this ⊢
    omega
  · have h1 := heap_keep hv o
    exact (hg.block P (lt_of_block h1) (fun e => by have := (own_cells ho P e.symm).1; omega)).trans h1
theorem box_cells {p : Nat} {v : Value} {f : Bool} {W : World} (h : W.heap[p]? = some (.cells #[v, .bool f] 45 (0, 0))) :
    W.cell? ⟨p, 0, none⟩ = some v ∧ W.cell? ⟨p, 1, none⟩ = some (.bool f) ∧ W.frozen? ⟨p, 0, none⟩ = false ∧ W.frozen? ⟨p, 1, none⟩ = false := by
  refine ⟨?_, ?_, ?_, ?_⟩
  · rw [cell_of_row _ _ _ _ _ _ h]; rfl
  · rw [cell_of_row _ _ _ _ _ _ h]; rfl
  · simp [World.frozen?, h]
  · simp [World.frozen?, h]
theorem InI.ln {w W1 W : World} {code : List Ins} {k : Int} {P : Nat} {ws : List Wd} (h : InI w W1 code k P ws W) (hl : ws.length ≤ 4611686018427387904) (hP : P < W.heap.size) : LnAt W.heap.size P (ws, true) W := by
  obtain ⟨v, a, b⟩ := h.row
  have b0 := b
  rcases b.2 with ⟨rfl, h0⟩ | ⟨g, cap, cur, rfl, h3, h4, h5, h6, h7, h8⟩
  · obtain rfl : ws = [] := List.eq_nil_of_length_eq_zero h0
    exact ⟨none, 0, a, Nat.le_refl _, by omega, ⟨by simp, fun h => absurd rfl h⟩, hP, Nat.le_refl _, fun ad hA => by cases hA⟩
  · refine ⟨_, cap, a, h5, h6, ⟨hl, fun _ => ⟨_, rfl, lt_of_block h4, fun j x hx => ?_⟩⟩, hP, Nat.le_refl _, fun ad hA _ => ?_⟩
    · exact b0.cells (g := g) rfl j _ (by simp [hx])
    · cases hA
      exact ⟨by simp; omega, lt_of_block h4⟩
theorem words_ne (l : List UInt8) : ∀ w ∈ wordsOf l, w ≠ [] := by
  intro w hw
  have := (List.mem_filter.1 hw).2
  rintro rfl
  simp at this
theorem RB.post {w W1 V : World} {code : List Ins} {P : Nat} {pre : List ByteArray} {x : ByteArray} (h : RB w W1 code ((pre.length : Int) + 1) P V) (hs : ∀ rest, parL (pre ++ [x] ++ rest) 0 [] = parL rest (pre ++ [x]).length code) (hc : code.length ≤ pre.length) :
    KeepsFrom (w.heap.size + 6) W1 V ∧ SqKp (w.heap.size + 3) W1 V ∧ PI w (pre ++ [x]) V := by
  refine ⟨h.ks, h.sq, code, hs, by simp; omega, ?_⟩
  have h2 := h.out.weak h.out.size (Nat.le_refl _)
  have e : (((pre ++ [x]).length : Nat) : Int) = (pre.length : Int) + 1 := by simp
  rw [e]
  exact h2
theorem OutI.cv {w W : World} {code : List Ins} {k : Int} {B : Nat} (h : OutI w code k B W) : ∃ v, W.cell? ⟨w.heap.size, 0, none⟩ = some v ∧ W.frozen? ⟨w.heap.size, 0, none⟩ = false ∧ Kp (W.heap[w.heap.size]? = some (.cells #[v] 22 (0, 0))) ∧ Kp (W.ownsRow (w.heap.size + 6) 36 8 v code.length (codeC code)) := by
  obtain ⟨v, a, b, _⟩ := h.code
  refine ⟨v, ?_, ?_, ⟨a⟩, ⟨b⟩⟩
  · rw [cell_of_row _ _ _ _ _ _ a]; rfl
  · simp [World.frozen?, a]
theorem RB.fail {w W1 V : World} {code : List Ins} {k k' e : Int} {P : Nat} {pre : List ByteArray} (h : RB w W1 code k P V) (hs : ∀ rest, parL (pre ++ rest) 0 [] = ([], k', e)) :
    KeepsFrom (w.heap.size + 6) W1 (((V.setCell ⟨w.heap.size, 0, none⟩ (.slice none 0 0)).setCell ⟨w.heap.size + 1, 0, none⟩ (.int .i64 k')).setCell ⟨w.heap.size + 2, 0, none⟩ (.int .i64 e)).drew ∧
    PX w .ret pre (((V.setCell ⟨w.heap.size, 0, none⟩ (.slice none 0 0)).setCell ⟨w.heap.size + 1, 0, none⟩ (.int .i64 k')).setCell ⟨w.heap.size + 2, 0, none⟩ (.int .i64 e)).drew := by
  obtain ⟨v, hv, _, _⟩ := h.out.code
  have e0 : ∀ q, q ≠ w.heap.size → (V.setCell ⟨w.heap.size, 0, none⟩ (.slice none 0 0)).heap[q]? = V.heap[q]? := fun q hq => Below.heap_setCell V ⟨w.heap.size, 0, none⟩ _ q (by simpa using hq)
  have e1 : ∀ q, q ≠ w.heap.size + 1 → ((V.setCell ⟨w.heap.size, 0, none⟩ (.slice none 0 0)).setCell ⟨w.heap.size + 1, 0, none⟩ (.int .i64 k')).heap[q]? = (V.setCell ⟨w.heap.size, 0, none⟩ (.slice none 0 0)).heap[q]? := fun q hq => Below.heap_setCell _ ⟨w.heap.size + 1, 0, none⟩ _ q (by simpa using hq)
  have e2 : ∀ q, q ≠ w.heap.size + 2 → (((V.setCell ⟨w.heap.size, 0, none⟩ (.slice none 0 0)).setCell ⟨w.heap.size + 1, 0, none⟩ (.int .i64 k')).setCell ⟨w.heap.size + 2, 0, none⟩ (.int .i64 e)).heap[q]? = ((V.setCell ⟨w.heap.size, 0, none⟩ (.slice none 0 0)).setCell ⟨w.heap.size + 1, 0, none⟩ (.int .i64 k')).heap[q]? := fun q hq => Below.heap_setCell _ ⟨w.heap.size + 2, 0, none⟩ _ q (by simpa using hq)
  refine ⟨(((h.ks.trans (keeps_grown (setCell_grown V w.heap.size 0 _) (fun r e => by cases e; exact .inl (by omega)))).trans (keeps_grown (setCell_grown _ (w.heap.size + 1) 0 _) (fun r e => by cases e; exact .inl (by omega)))).trans (keeps_grown (setCell_grown _ (w.heap.size + 2) 0 _) (fun r e => by cases e; exact .inl (by omega)))).trans (keeps_grown (row := none) ⟨rfl, rfl, rfl, Nat.le_refl _, fun _ _ _ => rfl⟩ (fun r e => by cases e)), rfl, k', e, hs, ?_, ?_, ?_, ?_⟩
  · exact below_drewN (((h.out.below.setCell (p := ⟨w.heap.size, 0, none⟩) (Nat.le_refl _) _).setCell (p := ⟨w.heap.size + 1, 0, none⟩) (by simp) _).setCell (p := ⟨w.heap.size + 2, 0, none⟩) (by simp) _) 1
  · refine (e2 _ (by omega)).trans ((e1 _ (by omega)).trans ?_)
    rw [setCell_row _ hv]; rfl
  · refine (e2 _ (by omega)).trans ?_
    rw [setCell_row _ ((e0 _ (by omega)).trans h.out.kc)]; rfl
  · show (((V.setCell ⟨w.heap.size, 0, none⟩ (.slice none 0 0)).setCell ⟨w.heap.size + 1, 0, none⟩ (.int .i64 k')).setCell ⟨w.heap.size + 2, 0, none⟩ (.int .i64 e)).heap[w.heap.size + 2]? = _
    rw [setCell_row _ ((e1 _ (by omega)).trans ((e0 _ (by omega)).trans h.out.er))]; rfl
theorem grown_of_below {V V' : World} (h : Below V.heap.size V V') : V.grownBy V' none := ⟨h.os, h.tape, h.output, h.size, fun k hk _ => h.block k hk⟩
theorem row_new (w : World) (t : TypeId) (news : List Value) : ∀ j u, news[j]? = some u → (w.alloc (.cells news.toArray t)).cell? ((⟨w.heap.size, 0, none⟩ : Addr).add j) = some u := by
  intro j u hj
  rw [Go.WideShapes.add_plain, Nat.zero_add, cell_of_row _ _ _ _ _ _ (heap_at rfl _)]
  simpa using hj
theorem infoS36 : (Tryd.prog.info? 36).map (fun i => (i.zero, i.size, i.bytes)) = some (some (.agg #[.int .i64 0, .int .i64 0, .int .i64 0, .int .i64 0, .int .i64 0, .int .i64 0, .int .i64 0, .int .i64 0]), 8, 64) := by kernel_rfl
theorem RB.more {w W1 V V' : World} {code : List Ins} {k : Int} {P : Nat} {v v' : Value} {y : Ins} {o : Obj} (h : RB w W1 code k P V) (hv : V.heap[w.heap.size]? = some (.cells #[v] 22 (0, 0))) (ho : V.ownsRow (w.heap.size + 6) 36 8 v code.length (codeC code))
    (hown : V'.ownsRow (w.heap.size + 6) 36 8 v' (code.length + 1) (codeC code ++ insC y)) (hg : (V.alloc o).grownBy V' v.ownBlock) (hc : code.length + 1 ≤ 5000) :
    KeepsFrom (w.heap.size + 6) W1 (V'.setCell ⟨w.heap.size, 0, none⟩ v') ∧ SqKp (w.heap.size + 3) W1 (V'.setCell ⟨w.heap.size, 0, none⟩ v') ∧ OutI w (code ++ [y]) k (V'.setCell ⟨w.heap.size, 0, none⟩ v').heap.size (V'.setCell ⟨w.heap.size, 0, none⟩ v') := by
  have oc := own_cells ho
  have hlo := h.out.lo
  have hsz : (V.alloc o).heap.size = V.heap.size + 1 := by simp
  have hs1 := h.out.size
  have hs2 := hg.size
  have step : ∀ q ob, V.heap[q]? = some ob → q < w.heap.size + 6 → V'.heap[q]? = some ob := fun q ob hq hlt => (hg.block q (by have := lt_of_block hq; omega) (fun e => by have := (oc q e.symm).1; omega)).trans (heap_keep hq o)
  have oth : ∀ q, q ≠ w.heap.size → (V'.setCell ⟨w.heap.size, 0, none⟩ v').heap[q]? = V'.heap[q]? := fun q hq => Below.heap_setCell V' ⟨w.heap.size, 0, none⟩ _ q (by simpa using hq)
  have hb1 : Below w.heap.size w V' := (h.out.below.alloc h.out.below.size o).grown hg (by have := h.out.below.size; omega) (fun r e => by have := (oc r e).1; omega)
  have hz : (V'.setCell ⟨w.heap.size, 0, none⟩ v').heap.size = V'.heap.size := by simp [World.setCell]
  refine ⟨((h.ks.trans (keeps_grown (World.grownBy_alloc V o none) (fun r e => by cases e))).trans (keeps_grown hg (fun r e => ?_))).trans (keeps_grown (setCell_grown V' w.heap.size 0 v') (fun r e => by cases e; exact .inl (by omega))), ⟨?_, ?_, ?_⟩, ⟨hb1.setCell (p := ⟨w.heap.size, 0, none⟩) (Nat.le_refl _) _, Nat.le_refl _, by rw [hz]; omega, (oth _ (by omega)).trans (step _ _ h.out.kc (by omega)), (oth _ (by omega)).trans (step _ _ h.out.er (by omega)), v', ?_, ?_, ?_⟩⟩
  · obtain ⟨_, cs, hcs⟩ := oc r e
    exact .inr ⟨_, heap_keep hcs _, rfl⟩
  · have q1 : w.heap.size + 3 < V.heap.size := by omega
    rw [oth _ (by omega), step _ _ (Array.getElem?_eq_getElem q1) (by omega), ← Array.getElem?_eq_getElem q1]
    exact h.sq.1
  · have q1 : w.heap.size + 3 + 1 < V.heap.size := by omega
    rw [oth _ (by omega), step _ _ (Array.getElem?_eq_getElem q1) (by omega), ← Array.getElem?_eq_getElem q1]
    exact h.sq.2.1
  · have q1 : w.heap.size + 3 + 2 < V.heap.size := by omega
    rw [oth _ (by omega), step _ _ (Array.getElem?_eq_getElem q1) (by omega), ← Array.getElem?_eq_getElem q1]
    exact h.sq.2.2
  · rw [setCell_row _ (step _ _ hv (by omega))]; rfl
  · rw [List.length_append, codeC_snoc]
    exact own_move hown (fun g hgv => oth g (by have := (own_cells hown g hgv).1; omega))
  · intro g hgv
    obtain ⟨_, cs, hcs⟩ := own_cells hown g hgv
    rw [hz]
    exact lt_of_block hcs
theorem ins_cells {W : World} {X : Nat} {x0 x1 x2 x3 x4 x5 x6 x7 : Int} (h : W.heap[X]? = some (.cells #[.int .i64 x0, .int .i64 x1, .int .i64 x2, .int .i64 x3, .int .i64 x4, .int .i64 x5, .int .i64 x6, .int .i64 x7] 36 (0, 0))) : W.cell? ⟨X, 0, none⟩ = some (.int .i64 x0) ∧ W.cell? ⟨X, 1, none⟩ = some (.int .i64 x1) ∧ W.cell? ⟨X, 2, none⟩ = some (.int .i64 x2) ∧ W.cell? ⟨X, 3, none⟩ = some (.int .i64 x3) ∧
    W.cell? ⟨X, 4, none⟩ = some (.int .i64 x4) ∧ W.cell? ⟨X, 5, none⟩ = some (.int .i64 x5) ∧ W.cell? ⟨X, 6, none⟩ = some (.int .i64 x6) ∧ W.cell? ⟨X, 7, none⟩ = some (.int .i64 x7) := by
  refine ⟨?_, ?_, ?_, ?_, ?_, ?_, ?_, ?_⟩
  all_goals rw [cell_of_row _ _ _ _ _ _ h]; rfl
theorem one_cell {W : World} {p : Nat} {v : Value} {t : TypeId} (h : W.heap[p]? = some (.cells #[v] t (0, 0))) : W.cell? ⟨p, 0, none⟩ = some v ∧ W.frozen? ⟨p, 0, none⟩ = false := by
  refine ⟨?_, ?_⟩
  · rw [cell_of_row _ _ _ _ _ _ h]; rfl
  · simp [World.frozen?, h]
theorem code_keep {w V V' : World} {v : Value} {code : List Ins} {o : Obj} (hv : V.heap[w.heap.size]? = some (.cells #[v] 22 (0, 0))) (ho : V.ownsRow (w.heap.size + 6) 36 8 v code.length (codeC code)) (hg : (V.alloc o).grownBy V' v.ownBlock) : V'.heap[w.heap.size]? = some (.cells #[v] 22 (0, 0)) :=
  (hg.block w.heap.size (lt_of_block (heap_keep hv o)) (fun e => by have := (own_cells ho _ e.symm).1; omega)).trans (heap_keep hv o)
theorem PI.more {w V : World} {code : List Ins} {y : Ins} {pre : List ByteArray} {x : ByteArray} (hs : ∀ rest, parL (pre ++ [x] ++ rest) 0 [] = parL rest (pre ++ [x]).length (code ++ [y])) (hc : code.length ≤ pre.length) (h : OutI w (code ++ [y]) ((pre.length : Int) + 1) V.heap.size V) : PI w (pre ++ [x]) V := by
  refine ⟨code ++ [y], hs, by simp; omega, ?_⟩
  have e : (((pre ++ [x]).length : Nat) : Int) = (pre.length : Int) + 1 := by simp
  rw [e]
  exact h
theorem load_one {ty : TypeId} {d : TypeDesc} (hu : Tryd.prog.underlying ty = some d) (hd : (match d with | .struct _ | .array _ _ => false | _ => true) = true) {W : World} {a : Addr} {v : Value} (h : W.cell? a = some v) : (loadVar ty a).run Tryd.prog W = .ok v W := by
  have hagg : (isAgg ty).run Tryd.prog W = .ok false W := by
    unfold isAgg
    rw [Sem.run_bind, run_underlying hu W]
    cases d <;> simp_all
  simp [loadVar, Sem.run_bind, hagg, h, go_sem]
theorem results_cells3 {fn : Func} (h : fn.results = #[.cell 2 22, .cell 3 3, .cell 4 3]) (tmps : Array Value) {W : World} {a b c : Nat} {va vb vc : Value} (h2 : tmps.getD 2 undef = .pointer (some ⟨a, 0, none⟩)) (h3 : tmps.getD 3 undef = .pointer (some ⟨b, 0, none⟩)) (h4 : tmps.getD 4 undef = .pointer (some ⟨c, 0, none⟩))
    (ca : W.cell? ⟨a, 0, none⟩ = some va) (cb : W.cell? ⟨b, 0, none⟩ = some vb) (cc : W.cell? ⟨c, 0, none⟩ = some vc) : (results fn tmps).run Tryd.prog W = .ok (.tuple #[va, vb, vc]) W := by
  have h2' : tmps[2]?.getD undef = .pointer (some ⟨a, 0, none⟩) := by simpa using h2
  have h3' : tmps[3]?.getD undef = .pointer (some ⟨b, 0, none⟩) := by simpa using h3
  have h4' : tmps[4]?.getD undef = .pointer (some ⟨c, 0, none⟩) := by simpa using h4
  simp [results, h, h2', h3', h4', asAddr, load_one Tryd.underlying22 rfl ca, load_one Tryd.underlying3 rfl cb, load_one Tryd.underlying3 rfl cc]
theorem put_keep {W : World} {D : Nat} {o o' : Obj} (hK : W.heap[D]? = some o) (hc : o.isCells = false) {q : Nat} {cs : Array Value} {t : TypeId} (hq : W.heap[q]? = some (.cells cs t (0, 0))) : (W.putObj D o').heap[q]? = some (.cells cs t (0, 0)) :=
  (World.putObj_heap_other (fun e => by rw [e] at hq; rw [hK] at hq; cases hq; cases hc)).trans hq
theorem put_below {w W : World} {D : Nat} {o o' : Obj} (h : Below w.heap.size w W) (hD : w.heap.size ≤ D) (hK : W.heap[D]? = some o) : Below w.heap.size w (W.putObj D o') :=
  h.grown (grownBy_putObj' W D o') h.size (fun r e => by cases e; exact hD)
theorem Ins.cellsC (x : Ins) : x.cells = insC x := rfl
theorem codeC_get : ∀ (c : List Ins) (j i : Nat) (x : Ins) (v : Value), c[j]? = some x → (insC x)[i]? = some v → (codeC c)[j * 8 + i]? = some v
  | [], j, i, x, v, h, _ => by simp at h
  | y :: c, 0, i, x, v, h, hv => by
    simp only [List.getElem?_cons_zero, Option.some.injEq] at h
    subst h
    have hi : i < 8 := by have := (List.getElem?_eq_some_iff.1 hv).1; simpa [insC] using this
    simp only [codeC, List.flatMap_cons, Nat.zero_mul, Nat.zero_add]
    rw [List.getElem?_append_left (by simpa [insC] using hi)]
    exact hv
  | y :: c, j + 1, i, x, v, h, hv => by
    have ih := codeC_get c j i x v (by simpa using h) hv
    simp only [codeC, List.flatMap_cons] at ih ⊢
    have hl : (insC y).length = 8 := rfl
    rw [List.getElem?_append_right (by omega), hl, show (j + 1) * 8 + i - 8 = j * 8 + i by omega]
    exact ih
/-- The code's row reads as a program. -/
theorem code_at {W : World} {base : Nat} {v : Value} {code : List Ins} (h : W.ownsRow base 36 8 v code.length (codeC code)) : ∃ A cap, v = .slice A code.length cap ∧ code.length ≤ cap ∧ InsAt W A code := by
  have h0 := h
  rcases h.2 with ⟨rfl, h1⟩ | ⟨g, cap, cur, rfl, h3, h4, h5, h6, h7, h8⟩
  · obtain rfl : code = [] := List.eq_nil_of_length_eq_zero h1
    exact ⟨none, 0, rfl, Nat.le_refl _, fun h => absurd rfl h⟩
  · refine ⟨_, cap, rfl, h5, fun _ => ⟨g, 0, rfl, lt_of_block h4, fun j x hx i u hu => ?_⟩⟩
    have := h0.cells (g := g) rfl (j * 8 + i) u (codeC_get code j i x u hx (by rw [← Ins.cellsC]; exact hu))
    rw [Go.WideShapes.add_plain] at this
    rw [Nat.zero_add, ← this]
    simp
theorem fin3 {w W : World} {v : Value} {k e : Int} (a : Value) (b c : Int) (hv : W.heap[w.heap.size]? = some (.cells #[v] 22 (0, 0))) (hk : W.heap[w.heap.size + 1]? = some (.cells #[.int .i64 k] 3 (0, 0))) (he : W.heap[w.heap.size + 2]? = some (.cells #[.int .i64 e] 3 (0, 0))) (hbel : Below w.heap.size w W) :
    (((W.setCell ⟨w.heap.size, 0, none⟩ a).setCell ⟨w.heap.size + 1, 0, none⟩ (.int .i64 b)).setCell ⟨w.heap.size + 2, 0, none⟩ (.int .i64 c)).heap[w.heap.size]? = some (.cells #[a] 22 (0, 0)) ∧
    (((W.setCell ⟨w.heap.size, 0, none⟩ a).setCell ⟨w.heap.size + 1, 0, none⟩ (.int .i64 b)).setCell ⟨w.heap.size + 2, 0, none⟩ (.int .i64 c)).heap[w.heap.size + 1]? = some (.cells #[.int .i64 b] 3 (0, 0)) ∧
    (((W.setCell ⟨w.heap.size, 0, none⟩ a).setCell ⟨w.heap.size + 1, 0, none⟩ (.int .i64 b)).setCell ⟨w.heap.size + 2, 0, none⟩ (.int .i64 c)).heap[w.heap.size + 2]? = some (.cells #[.int .i64 c] 3 (0, 0)) ∧
    (∀ q, w.heap.size + 3 ≤ q → (((W.setCell ⟨w.heap.size, 0, none⟩ a).setCell ⟨w.heap.size + 1, 0, none⟩ (.int .i64 b)).setCell ⟨w.heap.size + 2, 0, none⟩ (.int .i64 c)).heap[q]? = W.heap[q]?) ∧
    Below w.heap.size w (((W.setCell ⟨w.heap.size, 0, none⟩ a).setCell ⟨w.heap.size + 1, 0, none⟩ (.int .i64 b)).setCell ⟨w.heap.size + 2, 0, none⟩ (.int .i64 c)) := by
  have e0 : ∀ q, q ≠ w.heap.size → (W.setCell ⟨w.heap.size, 0, none⟩ a).heap[q]? = W.heap[q]? := fun q hq => Below.heap_setCell W ⟨w.heap.size, 0, none⟩ _ q (by simpa using hq)
  have e1 : ∀ q, q ≠ w.heap.size + 1 → ((W.setCell ⟨w.heap.size, 0, none⟩ a).setCell ⟨w.heap.size + 1, 0, none⟩ (.int .i64 b)).heap[q]? = (W.setCell ⟨w.heap.size, 0, none⟩ a).heap[q]? := fun q hq => Below.heap_setCell _ ⟨w.heap.size + 1, 0, none⟩ _ q (by simpa using hq)
  have e2 : ∀ q, q ≠ w.heap.size + 2 → (((W.setCell ⟨w.heap.size, 0, none⟩ a).setCell ⟨w.heap.size + 1, 0, none⟩ (.int .i64 b)).setCell ⟨w.heap.size + 2, 0, none⟩ (.int .i64 c)).heap[q]? = ((W.setCell ⟨w.heap.size, 0, none⟩ a).setCell ⟨w.heap.size + 1, 0, none⟩ (.int .i64 b)).heap[q]? := fun q hq => Below.heap_setCell _ ⟨w.heap.size + 2, 0, none⟩ _ q (by simpa using hq)
  refine ⟨?_, ?_, ?_, fun q hq => (e2 _ (by omega)).trans ((e1 _ (by omega)).trans (e0 _ (by omega))), ((hbel.setCell (p := ⟨w.heap.size, 0, none⟩) (Nat.le_refl _) _).setCell (p := ⟨w.heap.size + 1, 0, none⟩) (by simp) _).setCell (p := ⟨w.heap.size + 2, 0, none⟩) (by simp) _⟩
  · refine (e2 _ (by omega)).trans ((e1 _ (by omega)).trans ?_)
    rw [setCell_row _ hv]; rfl
  · refine (e2 _ (by omega)).trans ?_
    rw [setCell_row _ ((e0 _ (by omega)).trans hk)]; rfl
  · rw [setCell_row _ ((e1 _ (by omega)).trans ((e0 _ (by omega)).trans he))]; rfl
theorem infoS9 : (Tryd.prog.info? 9).map (fun i => (i.zero, i.size, i.bytes)) = some (some (.string ⟨#[]⟩), 1, 16) := by kernel_rfl
def ParPost (text : ByteArray) (w : World) (e : Ending) (w' : World) : Prop := ∃ A cap, e = .returned (.tuple #[.slice A (parT text).1.length cap, .int .i64 (parT text).2.1, .int .i64 (parT text).2.2]) ∧ InsAt w' A (parT text).1 ∧ (parT text).1.length ≤ cap ∧ Below w.heap.size w w'
set_option maxRecDepth 100000 in
set_option maxHeartbeats 8000000 in
theorem parse13 (text : ByteArray) (w : World) : Calls Tryd.prog 13 #[.string text] w fun e w' => ParPost text w e w' := by
  by_cases htx : 4000 < text.size
  · have HE := Kp.mk (show parT text = ([], 0, 9) by rw [parT, if_pos htx])
    go_enter Tryd.func13, Tryd.ntmps13
    go_wp2
    exact bodyPost_ret (v := .tuple #[.slice none 0 0, .int .i64 0, .int .i64 9]) (results_cells3 rfl _ rfl rfl rfl (one_cell (t := 22) (heap_keep (heap_keep (heap_at rfl _) _) _)).1 (one_cell (t := 3) (heap_keep (heap_at (by simp) _) _)).1 (one_cell (t := 3) (heap_at (by simp) _)).1) rfl
      ⟨none, 0, by rw [HE.out]; rfl, by rw [HE.out]; exact fun h => absurd rfl h, by rw [HE.out]; exact Nat.le_refl _, (((Below.refl _ w).alloc (Nat.le_refl _) _).alloc (by simp) _).alloc (by simp; omega) _⟩
  · refine (callsIn_wide (n := 10)).1 ?_
    refine callsIn_of_wp_marks Tryd.func13 rfl trivial ?_ rfl
    simp only [Tryd.ntmps13, List.size_toArray, List.length_cons, List.length_nil, Nat.reduceAdd, Nat.reduceSub, Array.replicate_succ, Array.replicate_zero, List.push_toArray, List.append_toArray, List.nil_append, List.cons_append]
    have h1 : 1 ≤ 10 := by omega
    have h9 : 1 ≤ 10 - 1 - 1 := by omega
    gi_wp2_with (first | (refine ⟨trivial, ?_⟩; gi_at_call 23; refine (callsIn_wide.2 (seq23 _ _ _)).mono ?_; rintro e w' ⟨rfl, rfl⟩))
    have HQ := Kp.mk (sqW_at text 10 (((w.alloc (.cells #[.slice none 0 0] 22)).alloc (.cells #[.int .i64 0] 3)).alloc (.cells #[.int .i64 0] 3)))
    have H0 : Kp (PI w [] (sqW text 10 (((w.alloc (.cells #[.slice none 0 0] 22)).alloc (.cells #[.int .i64 0] 3)).alloc (.cells #[.int .i64 0] 3)))) := by
      refine ⟨[], fun rest => rfl, Nat.le_refl _, ?_⟩
      have hw : Below w.heap.size w (((w.alloc (.cells #[.slice none 0 0] 22)).alloc (.cells #[.int .i64 0] 3)).alloc (.cells #[.int .i64 0] 3)) := (((Below.refl _ w).alloc (Nat.le_refl _) _).alloc (by simp) _).alloc (by simp; omega) _
      refine ⟨hw.trans ((sqW_below _ _ _).mono (by simp; omega)), Nat.le_refl _, by simp [sqW], ?_, ?_, .slice none 0 0, ?_, World.ownsRow_nil _ _ _ _, fun g hg => by cases hg⟩
      · exact heap_keep (heap_keep (heap_keep (heap_keep (heap_at (by simp) _) _) _) _) _
      · exact heap_keep (heap_keep (heap_keep (heap_at (by simp) _) _) _) _
      · exact heap_keep (heap_keep (heap_keep (heap_keep (heap_keep (heap_at rfl _) _) _) _) _) _
    simp only [World.size_alloc, Nat.add_assoc, Nat.reduceAdd] at HQ
    have hsz : (sqW text 10 (((w.alloc (.cells #[.slice none 0 0] 22)).alloc (.cells #[.int .i64 0] 3)).alloc (.cells #[.int .i64 0] 3))).heap.size = w.heap.size + 6 := by simp [sqW]
    revert HQ H0 hsz
    generalize sqW text 10 (((w.alloc (.cells #[.slice none 0 0] 22)).alloc (.cells #[.int .i64 0] 3)).alloc (.cells #[.int .i64 0] 3)) = w0
    intro H0 HQ hsz
    have hd : decide ((4000 : Int) < (text.size : Int)) = false := by simp; omega
    simp only [Nat.add_assoc, Nat.reduceAdd, hd]
    refine wpIn_rangeB_out (F := Fence.wide) (n := 10) rfl h1 (gf := 55) (lb := #[.pointer (some ⟨w.heap.size + 3 + 1, 0, none⟩), .pointer (some ⟨w.heap.size + 3, 0, none⟩), .pointer (some ⟨w.heap.size + 3 + 2, 0, none⟩)]) rfl trivial (enters_of Tryd.func55 (by kernel_rfl) rfl)
      (encs := fun x : ByteArray => #[.string x]) (Kp := SqKp (w.heap.size + 3)) (xs := frags 10 text.data.toList) (b := w.heap.size + 3) (by omega) (splitSeq55 9 (by omega) (w.heap.size + 3) 10 text.data.toList (by simp; omega) w0 HQ.out) ?kt ?kb (fun _ => rfl)
      (PI w) (PX w) ?hI ?hIb ?hIx H0.out
      (fun x => { tmps := #[.string text, undef, .pointer (some ⟨w.heap.size, 0, none⟩), .pointer (some ⟨w.heap.size + 1, 0, none⟩), .pointer (some ⟨w.heap.size + 2, 0, none⟩), .string x, undef, undef, undef, .string text, .int .i64 text.size, .bool false, .string text, sqV (w.heap.size + 3), .string x, undef, undef, undef, undef, undef, undef, undef, undef, undef, undef, undef, undef, undef, undef, undef, undef, undef, undef, undef, undef, undef, undef, undef, undef, undef, undef, undef, undef, undef, undef, undef, undef, undef, undef, undef, undef, undef, undef, undef, undef, undef, undef, undef, undef, undef, undef, undef, undef, undef], defers := [] }) ?assign ?body ?done ?stop
    case kt => exact fun h k => ⟨k.1.trans h.1, k.2.1.trans h.2.1, k.2.2.trans h.2.2⟩
    case kb =>
      intro W l o o' hl ho _ _
      exact ⟨World.putObj_heap_other (by omega), World.putObj_heap_other (by omega), World.putObj_heap_other (by omega)⟩
    case hI => exact fun s A B row hs hg hr => PI.grown hs hg (fun r e => ⟨by have := (hr r e).1; omega, .inr (hr r e).2⟩)
    case hIb => exact fun s A B hs hg => PI.grown hs hg (fun r e => by cases e; exact ⟨Nat.le_refl _, .inl rfl⟩)
    case hIx => exact fun c s A B row hs hg hr => PX.grown hs hg (fun r e => by have := (hr r e).1; omega)
    case assign =>
      intro l x W K hK
      gi_wp2
      exact hK
    case done =>
      intro D W hD hi hK
      obtain ⟨code, hc1, hc2, hO⟩ := hi
      have hp : parT text = parL [] (frags 10 text.data.toList).length code := by
        have := hc1 []
        rw [List.append_nil] at this
        rw [parT, if_neg htx, this]
      obtain ⟨o1, o2, o3, o4⟩ := hO.c
      obtain ⟨cv, o5, o6, HCv, HCo⟩ := hO.cv
      by_cases h48 : 48 < code.length
      · have HE := Kp.mk (show parT text = ([], 0, 9) by rw [hp, parL, if_pos h48])
        obtain ⟨A, cap, rfl, hcap, hA⟩ := code_at HCo.out
        have hbel := hO.below
        have HF := Kp.mk (fin3 (.slice none 0 0) 0 9 HCv.out hO.kc hO.er hbel)
        clear hO hc1 hp hA
        gi_wp2
        have hK' := (HF.out.2.2.2.1 D (by omega)).trans hK
        refine ⟨by simp, .inl ⟨_, _, rfl, run_takeDeferred hK', ?_⟩⟩
        have e0 := one_cell (put_keep (o' := .deferred none) hK' rfl HF.out.1)
        have e1 := one_cell (put_keep (o' := .deferred none) hK' rfl HF.out.2.1)
        have e2 := one_cell (put_keep (o' := .deferred none) hK' rfl HF.out.2.2.1)
        exact ⟨_, results_cells3 rfl _ rfl rfl rfl e0.1 e1.1 e2.1, none, 0, by rw [HE.out]; rfl, by rw [HE.out]; exact fun h => absurd rfl h, by rw [HE.out]; exact Nat.le_refl _, put_below HF.out.2.2.2.2 (by omega) hK'⟩
      · have HE := Kp.mk (show parT text = (code, 0, 0) by rw [hp, parL, if_neg h48])
        obtain ⟨A, cap, rfl, hcap, hA⟩ := code_at HCo.out
        have hbel := hO.below
        have HF := Kp.mk (fin3 (.slice A code.length cap) 0 0 HCv.out hO.kc hO.er hbel)
        clear hO hc1 hp hA
        gi_wp2
        have hK' := (HF.out.2.2.2.1 D (by omega)).trans hK
        refine ⟨by simp, .inl ⟨_, _, rfl, run_takeDeferred hK', ?_⟩⟩
        have e0 := one_cell (put_keep (o' := .deferred none) hK' rfl HF.out.1)
        have e1 := one_cell (put_keep (o' := .deferred none) hK' rfl HF.out.2.1)
        have e2 := one_cell (put_keep (o' := .deferred none) hK' rfl HF.out.2.2.1)
        have hown := own_move HCo.out (fun g hg => by
          obtain ⟨h6, cs, hcs⟩ := own_cells HCo.out g hg
          exact (put_keep (o' := .deferred none) hK' rfl ((HF.out.2.2.2.1 g (by omega)).trans hcs)).trans hcs.symm)
        obtain ⟨A', cap', hv', hcap', hA'⟩ := code_at hown
        cases hv'
        exact ⟨_, results_cells3 rfl _ rfl rfl rfl e0.1 e1.1 e2.1, A, cap, by rw [HE.out], by rw [HE.out]; exact hA', by rw [HE.out]; exact hcap, put_below HF.out.2.2.2.2 (by omega) hK'⟩
    case stop =>
      rintro D c pre W hD hpre ⟨rfl, k, e, hres, hbel, c0, c1, c2⟩ hK
      have HE := Kp.mk (show parT text = ([], k, e) by
        obtain ⟨rest, hrest⟩ := hpre
        rw [parT, if_neg htx, ← hrest]
        exact hres rest)
      clear hres
      gi_wp2
      refine ⟨by simp, .inl ⟨_, _, rfl, run_takeDeferred hK, ?_⟩⟩
      have e0 := one_cell (put_keep (o' := .deferred none) hK rfl c0)
      have e1 := one_cell (put_keep (o' := .deferred none) hK rfl c1)
      have e2 := one_cell (put_keep (o' := .deferred none) hK rfl c2)
      exact ⟨_, results_cells3 rfl _ rfl rfl rfl e0.1 e1.1 e2.1, none, 0, by rw [HE.out]; rfl, by rw [HE.out]; exact fun h => absurd rfl h, by rw [HE.out]; exact Nat.le_refl _, put_below hbel (by omega) hK⟩
    case body =>
      intro l pre x W hl ⟨r', hr'⟩ hi hpre
      obtain ⟨code, hc1, hc2, hO⟩ := hi
      have HO := Kp.mk hO
      obtain ⟨o1, o2, o3, o4⟩ := hO.c
      clear hO
      have hlen : pre.length ≤ 4001 := frags_pre hpre (fun h => htx (by rw [Array.length_toList] at h; exact h))
      have hxl := frag_len hpre
      have hxl : x.data.toList.length ≤ 4000 := by rw [Array.length_toList] at hxl ⊢; have h4 : text.data.size = text.size := rfl; rw [Array.length_toList] at hxl; omega
      have HC1 := Kp.mk hc1
      clear hc1
      have HR := Kp.mk hr'
      have HP := Kp.mk hpre
      have HL := Kp.mk hl
      clear hr' hpre hl hd
      gi_wp2_with (first | (refine ⟨trivial, ?_⟩; gi_at_call 23; refine (CallsIn.inRound l (callsIn_wide.2 (seq23 _ _ _))).mono ?_; rintro e w' ⟨rfl, rfl⟩))
      have HI := Kp.mk (InI.start HO.out ((pre.length : Int) + 1) x)
      have hlo := HO.out.lo
      have hws := HO.out.size
      clear o1 o2 o3 o4
      have HS2 := Kp.mk (sqW_at x 32 ((W.setCell ⟨w.heap.size + 1, 0, none⟩ (.int .i64 ((pre.length : Int) + 1))).alloc (.cells #[.slice none 0 0, .bool true] 45)))
      have hz2 : (sqW x 32 ((W.setCell ⟨w.heap.size + 1, 0, none⟩ (.int .i64 ((pre.length : Int) + 1))).alloc (.cells #[.slice none 0 0, .bool true] 45))).heap.size = W.heap.size + 4 := by simp [sqW, World.setCell]
      have hz3 : ((W.setCell ⟨w.heap.size + 1, 0, none⟩ (.int .i64 ((pre.length : Int) + 1))).alloc (.cells #[.slice none 0 0, .bool true] 45)).heap.size = W.heap.size + 1 := by simp [World.setCell]
      have hrec : (sqW x 32 ((W.setCell ⟨w.heap.size + 1, 0, none⟩ (.int .i64 ((pre.length : Int) + 1))).alloc (.cells #[.slice none 0 0, .bool true] 45))).heap[l]? = some (.loop r') := HI.out.rb.ks.same l _ (by have := HL.out; omega) HR.out rfl
      rw [hz3] at HS2
      revert HI HS2 hz2 hrec
      generalize sqW x 32 ((W.setCell ⟨w.heap.size + 1, 0, none⟩ (.int .i64 ((pre.length : Int) + 1))).alloc (.cells #[.slice none 0 0, .bool true] 45)) = w2
      intro HI HS2 hz2 hrec
      clear hz3
      refine wpIn_rangeB_in (F := Fence.wide.inRound l) (n := 10 - 1 - 1) (w := w2) (l₀ := l) (r₀ := r') rfl hrec h9 (gf := 55) (lb := #[.pointer (some ⟨W.heap.size + 1 + 1, 0, none⟩), .pointer (some ⟨W.heap.size + 1, 0, none⟩), .pointer (some ⟨W.heap.size + 1 + 2, 0, none⟩)]) rfl trivial (enters_of Tryd.func55 (by kernel_rfl) rfl)
        (encs := fun x : ByteArray => #[.string x]) (Kp := SqKp (W.heap.size + 1)) (xs := frags 32 x.data.toList) (b := W.heap.size + 1) (by omega) (splitSeq55 7 (by omega) (W.heap.size + 1) 32 x.data.toList ?xlen w2 HS2.out) ?kt2 ?kb2 (fun _ => rfl)
        (fun ys V => InI w W code ((pre.length : Int) + 1) W.heap.size (wdsOf ys) V ∧ W.heap.size + 4 ≤ V.heap.size) (fun _ _ _ => False) ?hI2 ?hIb2 (fun _ _ _ _ _ h _ _ => h) ⟨HI.out, by omega⟩
        (fun y => { tmps := #[.string text, undef, .pointer (some ⟨w.heap.size, 0, none⟩), .pointer (some ⟨w.heap.size + 1, 0, none⟩), .pointer (some ⟨w.heap.size + 2, 0, none⟩), .string x, .pointer (some ⟨W.heap.size, 0, none⟩), .string y, undef, .string text, .int .i64 text.size, .bool false, .string text, sqV (w.heap.size + 3), .string x,
          .int .i64 pre.length, .int .i64 ((pre.length : Int) + 1), .agg #[.slice none 0 0, .bool true], .string x, sqV (W.heap.size + 1), .string y, undef, undef, undef, undef, undef, undef, undef, undef, undef, undef, undef, undef, undef, undef, undef, undef, undef, undef, undef, undef, undef, undef, undef, undef, undef, undef, undef, undef, undef, undef, undef, undef, undef, undef, undef, undef, undef, undef, undef, undef, undef, undef, undef], defers := [] }) ?assign2 ?body2 ?done2 (fun _ _ _ _ h => h.elim)
      case xlen => omega
      case kt2 => exact fun h k => ⟨k.1.trans h.1, k.2.1.trans h.2.1, k.2.2.trans h.2.2⟩
      case kb2 =>
        intro V l o o' hl ho _ _
        exact ⟨World.putObj_heap_other (by omega), World.putObj_heap_other (by omega), World.putObj_heap_other (by omega)⟩
      case hI2 => exact fun s A B row hs hg hr => ⟨InI.grown hs.1 hg (fun r e => ⟨by have := (hr r e).1; omega, .inr (hr r e).2⟩), Nat.le_trans hs.2 hg.size⟩
      case hIb2 => exact fun s A B hs hg => ⟨InI.grown hs.1 hg (fun r e => by cases e; exact ⟨by omega, .inl (by omega)⟩), Nat.le_trans hs.2 hg.size⟩
      case assign2 =>
        intro l2 y V K hK
        gi_wp2
        exact hK
      case body2 =>
        intro l2 ys y V hl2 _ hi2 hpre2
        obtain ⟨hi2, hzV⟩ := hi2
        have HI2 := Kp.mk hi2
        obtain ⟨v, HPc, HPo, p0, p1, p2, p3⟩ := hi2.p
        clear hi2
        have hyl : (wdsOf ys).length ≤ 4001 := by
          have a := wdsOf_len ys
          have b := pre_len hpre2
          omega
        clear hpre2
        obtain ⟨wl, rfl⟩ : ∃ wl, y = bstr wl := ⟨y.data.toList, (bstr_eta y).symm⟩
        have hbl : (bstr wl).data.toList = wl := by simp [bstr]
        cases wl with
        | nil =>
          have HW := Kp.mk (wdsOf_nil ys hbl)
          have q1 : (bstr []).toList.isEmpty = true := by rw [bstr_list]; rfl
          clear hbl
          gi_wp2
          exact ⟨KeepsFrom.refl _ _, ⟨rfl, rfl, rfl⟩, by rw [HW.out]; exact HI2.out, hzV⟩
        | cons a t =>
          have HW := Kp.mk (show wdsOf (ys ++ [bstr (a :: t)]) = wdsOf ys ++ [a :: t] by rw [wdsOf_snoc ys (by rw [hbl]; simp), hbl])
          have q1 : (bstr (a :: t)).toList.isEmpty = false := by rw [bstr_list]; rfl
          clear hbl
          obtain ⟨i0, hi, hz0, hz1, hz2'⟩ := info_parts infoS9
          have HB := Kp.mk (World.size_alloc V (.cells #[.string (bstr (a :: t))] 9))
          gi_wp2_with (first | (gi_at_builtin; go_loud (refine wpListIn_append_own _ rfl _ _ 32 rfl (W.heap.size + 4) 9 i0 (.string ⟨#[]⟩) 1 16 Tryd.underlying32 hi hz0 hz1 hz2' rfl (by decide) _ _ _ rfl (HPo.out.alloc _) ⟨V.heap.size, 0, none⟩ 1 1 [.string (bstr (a :: t))] rfl rfl (cell_one_new _ _ _) (by simp [Value.oneCell']) (by simp only [maxLen]; omega) (by omega) (by rw [HB.out]; omega) ?_); intro v' V1 hown hgrow _; have HA := Kp.mk (after_word HI2.out HPc.out HPo.out hzV hown hgrow); obtain ⟨g', cap', rfl⟩ := ownsRow_succ hown; clear hown hgrow p0 p1 p2 p3; obtain ⟨p0, p1, p2, p3⟩ := box_cells HA.out.2.2.2))
          exact ⟨by rw [hz2]; exact HA.out.2.1.1, HA.out.2.1.2, by rw [HW.out]; exact HA.out.1, HA.out.2.2.1⟩
      case done2 =>
        intro V hV
        obtain ⟨hI, hzV⟩ := hV
        rw [wdsOf_frags] at hI
        have HI := Kp.mk hI
        have hwl : (wordsOf x.data.toList).length ≤ 4001 := by
          have a := cutAt_len 32 x.data.toList
          have b := List.length_filter_le (fun w : Wd => !w.isEmpty) (cutAt 32 x.data.toList)
          unfold wordsOf
          omega
        have HLn := Kp.mk (hI.ln (by omega) (by omega))
        clear hI
        have HNe := Kp.mk (words_ne x.data.toList)
        generalize hws2 : wordsOf x.data.toList = ws at HI hwl HLn HNe
        have HWs := Kp.mk hws2
        clear hws2
        cases ws with
        | nil =>
          have HSk := Kp.mk (parL_skip HC1.out (by rw [HWs.out]; rfl))
          obtain ⟨A, cap, c0, c1, c2, c3⟩ := HLn.out.fine
          simp only [List.length_nil] at c0
          gi_wp2
          exact HI.out.rb.post HSk.out hc2
        | cons w1 t =>
          have HLn0 := Kp.mk HLn.out
          obtain ⟨A, cap, h1c, h2c, h2c', h3c, h4c, h5c, h6c⟩ := HLn.out
          obtain ⟨c0, c1, c2, c3⟩ := LnAt.cells h1c
          obtain ⟨b, off, rfl, c4⟩ := h3c.head
          clear h1c h2c h2c' h3c h4c h5c h6c
          simp only [List.length_cons] at c0 hwl
          cases w1 with
          | nil => exact absurd rfl (HNe.out [] (by simp))
          | cons a u =>
            have hx0 : ∀ V, (Instr.index 9 (.string (bstr (a :: u))) (.int .i64 0)).run Tryd.prog V = .ok (.int .u8 (a.toNat : Int)) V := fun V => index_at (a :: u) (i := 0) rfl V
            have hc1' : (0 : Int) < ((t.length : Int) + 1) := by omega
            by_cases ha : a = 35
            · subst ha
              have HSk := Kp.mk (parL_skip HC1.out (by rw [HWs.out]; rfl))
              gi_wp2
              all_goals exact HI.out.rb.post HSk.out hc2
            · have hne : ¬ ((a.toNat : Int) = 35) := by
                intro e
                apply ha
                apply UInt8.toNat_inj.1
                have : a.toNat = 35 := by omega
                rw [this]
                rfl
              have hbeq : ((a.toNat : Int) == 35) = false := by simpa using hne
              generalize hr : insS ((a :: u) :: t, true) = r
              have HRR0 := Kp.mk hr
              clear hr
              obtain ⟨⟨y0, y1, y2, y3, y4, y5, y6, y7⟩, rest, fine⟩ := r
              have HRR := HRR0
              by_cases hbad : fine = false ∨ rest ≠ []
              · have HX := Kp.mk (parL_bad HC1.out (show lineW (wordsOf x.data.toList) = .bad 4 by
                  rw [HWs.out, lineW, if_neg (by simpa using ha), HRR.out, if_pos hbad]))
                cases fine with
                | false =>
                  clear hbad
                  gi_wp2_with (first | (refine ⟨trivial, ?_⟩; gi_at_call 24; refine (CallsIn.inRound l (callsIn_wide.2 (instr24 V HLn0.out))).mono ?_; rintro e V1 ⟨rfl, hl1, hg1⟩; rw [HRR.out] at hl1 ⊢; have HL1 := Kp.mk hl1; have HB1 := Kp.mk ((HI.out.rb.grown hg1 (fun r e => by cases e; exact Nat.le_refl _)).grown (World.grownBy_alloc V1 (.cells #[.int .i64 y0, .int .i64 y1, .int .i64 y2, .int .i64 y3, .int .i64 y4, .int .i64 y5, .int .i64 y6, .int .i64 y7] 36) none) (fun r e => by cases e)); clear hl1 hg1 c0 c1 c2 c3 c4; obtain ⟨A1, cap1, f0, f1, f2, f3⟩ := (HL1.out.next (World.grownBy_alloc V1 (.cells #[.int .i64 y0, .int .i64 y1, .int .i64 y2, .int .i64 y3, .int .i64 y4, .int .i64 y5, .int .i64 y6, .int .i64 y7] 36) none)).fine; obtain ⟨g1, g2, g3, g4⟩ := HB1.out.out.c; obtain ⟨cv, g5, g6, HCv, HCo⟩ := HB1.out.out.cv))
                  gi_region
                  all_goals gi_wp2
                  all_goals first | exact HB1.out.fail HX.out | (rw [hsz]; exact HB1.out.fail HX.out)
                | true =>
                  cases rest with
                  | nil => exact absurd hbad (by simp)
                  | cons r0 rr =>
                    clear hbad
                    have hc2' : (0 : Int) < ((rr.length : Int) + 1) := by omega
                    gi_wp2_with (first | (refine ⟨trivial, ?_⟩; gi_at_call 24; refine (CallsIn.inRound l (callsIn_wide.2 (instr24 V HLn0.out))).mono ?_; rintro e V1 ⟨rfl, hl1, hg1⟩; rw [HRR.out] at hl1 ⊢; have HL1 := Kp.mk hl1; have HB1 := Kp.mk ((HI.out.rb.grown hg1 (fun r e => by cases e; exact Nat.le_refl _)).grown (World.grownBy_alloc V1 (.cells #[.int .i64 y0, .int .i64 y1, .int .i64 y2, .int .i64 y3, .int .i64 y4, .int .i64 y5, .int .i64 y6, .int .i64 y7] 36) none) (fun r e => by cases e)); clear hl1 hg1 c0 c1 c2 c3 c4; obtain ⟨A1, cap1, f0, f1, f2, f3⟩ := (HL1.out.next (World.grownBy_alloc V1 (.cells #[.int .i64 y0, .int .i64 y1, .int .i64 y2, .int .i64 y3, .int .i64 y4, .int .i64 y5, .int .i64 y6, .int .i64 y7] 36) none)).fine; obtain ⟨g1, g2, g3, g4⟩ := HB1.out.out.c; obtain ⟨cv, g5, g6, HCv, HCo⟩ := HB1.out.out.cv; simp only [List.length_cons] at f0))
                    gi_region
                    all_goals gi_wp2
                    all_goals first | exact HB1.out.fail HX.out | (rw [hsz]; exact HB1.out.fail HX.out)
              · obtain ⟨rfl, rfl⟩ : fine = true ∧ rest = [] := by
                  cases fine <;> simp at hbad ⊢
                  exact hbad
                clear hbad
                generalize hck : chkI ⟨y0, y1, y2, y3, y4, y5, y6, y7⟩ = ck
                have HCK := Kp.mk hck
                clear hck
                by_cases hz0 : ck = 0
                · have HX := Kp.mk (parL_ins HC1.out (show lineW (wordsOf x.data.toList) = .ins ⟨y0, y1, y2, y3, y4, y5, y6, y7⟩ by
                    rw [HWs.out, lineW, if_neg (by simpa using ha), HRR.out, if_neg (by simp), if_neg (by rw [HCK.out]; simpa using hz0)]))
                  subst hz0
                  obtain ⟨i0, hi, hq0, hq1, hq2⟩ := info_parts infoS36
                  gi_wp2_with (first | (refine ⟨trivial, ?_⟩; gi_at_call 24; refine (CallsIn.inRound l (callsIn_wide.2 (instr24 V HLn0.out))).mono ?_; rintro e V1 ⟨rfl, hl1, hg1⟩; rw [HRR.out] at hl1 ⊢; have HL1 := Kp.mk hl1; have HB1 := Kp.mk ((HI.out.rb.grown hg1 (fun r e => by cases e; exact Nat.le_refl _)).grown (World.grownBy_alloc V1 (.cells #[.int .i64 y0, .int .i64 y1, .int .i64 y2, .int .i64 y3, .int .i64 y4, .int .i64 y5, .int .i64 y6, .int .i64 y7] 36) none) (fun r e => by cases e)); clear hl1 hg1 c0 c1 c2 c3 c4; obtain ⟨A1, cap1, f0, f1, f2, f3⟩ := (HL1.out.next (World.grownBy_alloc V1 (.cells #[.int .i64 y0, .int .i64 y1, .int .i64 y2, .int .i64 y3, .int .i64 y4, .int .i64 y5, .int .i64 y6, .int .i64 y7] 36) none)).fine; obtain ⟨g1, g2, g3, g4⟩ := HB1.out.out.c; obtain ⟨cv, g5, g6, HCv, HCo⟩ := HB1.out.out.cv; simp only [List.length_nil] at f0) | (refine ⟨trivial, ?_⟩; gi_at_call 19; refine (CallsIn.inRound l (callsIn_wide.2 (check19 ⟨y0, y1, y2, y3, y4, y5, y6, y7⟩ _))).mono ?_; rintro e V2 ⟨rfl, hb2⟩; rw [HCK.out]; have HB2 := Kp.mk (HB1.out.grown (grown_of_below hb2) (fun r e => by cases e)); obtain ⟨z0, z1, z2, z3, z4, z5, z6, z7⟩ := ins_cells ((hb2.block V1.heap.size (by simp)).trans (heap_at rfl _)); clear hb2 f0 f1 f2 f3 g1 g2 g3 g4 g5 g6; obtain ⟨cv2, g5, g6, HCv2, HCo2⟩ := HB2.out.out.cv; have HZ := Kp.mk HB2.out.out.below.size) | (gi_at_builtin; refine wpListIn_append_own _ rfl _ _ 22 rfl (w.heap.size + 6) 36 i0 (.agg #[.int .i64 0, .int .i64 0, .int .i64 0, .int .i64 0, .int .i64 0, .int .i64 0, .int .i64 0, .int .i64 0]) 8 64 Tryd.underlying22 hi hq0 hq1 hq2 rfl (by decide) _ _ _ rfl (HCo2.out.alloc _) ⟨V2.heap.size, 0, none⟩ 1 1 (insC ⟨y0, y1, y2, y3, y4, y5, y6, y7⟩) rfl rfl (row_new _ _ _) (by simp [insC, Value.oneCell']) (by simp only [maxLen]; omega) (by omega) (by have h7 := HB2.out.out.lo; have h8 := HB2.out.out.size; simp; omega) ?_; intro v' V3 hown hgrow _; have HA := Kp.mk (HB2.out.more HCv2.out HCo2.out hown hgrow (by omega)); obtain ⟨g', cap', rfl⟩ := ownsRow_succ hown; obtain ⟨p0, p1⟩ := one_cell (code_keep HCv2.out HCo2.out hgrow); clear hown hgrow g5 g6))
                  first | exact ⟨HA.out.1, HA.out.2.1, PI.more HX.out hc2 HA.out.2.2⟩ | (rw [hsz]; exact ⟨HA.out.1, HA.out.2.1, PI.more HX.out hc2 HA.out.2.2⟩)
                · have HX := Kp.mk (parL_bad HC1.out (show lineW (wordsOf x.data.toList) = .bad 2 by
                    rw [HWs.out, lineW, if_neg (by simpa using ha), HRR.out, if_neg (by simp), if_pos (by rw [HCK.out]; exact hz0)]))
                  gi_wp2_with (first | (refine ⟨trivial, ?_⟩; gi_at_call 24; refine (CallsIn.inRound l (callsIn_wide.2 (instr24 V HLn0.out))).mono ?_; rintro e V1 ⟨rfl, hl1, hg1⟩; rw [HRR.out] at hl1 ⊢; have HL1 := Kp.mk hl1; have HB1 := Kp.mk ((HI.out.rb.grown hg1 (fun r e => by cases e; exact Nat.le_refl _)).grown (World.grownBy_alloc V1 (.cells #[.int .i64 y0, .int .i64 y1, .int .i64 y2, .int .i64 y3, .int .i64 y4, .int .i64 y5, .int .i64 y6, .int .i64 y7] 36) none) (fun r e => by cases e)); clear hl1 hg1 c0 c1 c2 c3 c4; obtain ⟨A1, cap1, f0, f1, f2, f3⟩ := (HL1.out.next (World.grownBy_alloc V1 (.cells #[.int .i64 y0, .int .i64 y1, .int .i64 y2, .int .i64 y3, .int .i64 y4, .int .i64 y5, .int .i64 y6, .int .i64 y7] 36) none)).fine; obtain ⟨g1, g2, g3, g4⟩ := HB1.out.out.c; obtain ⟨cv, g5, g6, HCv, HCo⟩ := HB1.out.out.cv; simp only [List.length_nil] at f0) | (refine ⟨trivial, ?_⟩; gi_at_call 19; refine (CallsIn.inRound l (callsIn_wide.2 (check19 ⟨y0, y1, y2, y3, y4, y5, y6, y7⟩ _))).mono ?_; rintro e V2 ⟨rfl, hb2⟩; rw [HCK.out]; have HB2 := Kp.mk (HB1.out.grown (grown_of_below hb2) (fun r e => by cases e)); clear hb2 f0 f1 f2 f3 g1 g2 g3 g4 g5 g6; obtain ⟨g1, g2, g3, g4⟩ := HB2.out.out.c; obtain ⟨cv2, g5, g6, HCv2, HCo2⟩ := HB2.out.out.cv))
                  gi_region
                  all_goals gi_wp2
                  all_goals first | exact HB2.out.fail HX.out | (rw [hsz]; exact HB2.out.fail HX.out)
end Go.Proofs.YtiomnlgnhdhffaaDoor
