/-
  The walk of the reference's instr. Conditions: the words lie as said.
-/
import Derived.Test.YtiomnlgnhdhffaaDoorT5
namespace Go.Proofs.YtiomnlgnhdhffaaDoor
open Go.RowKit
set_option linter.unusedVariables false
set_option linter.unusedSimpArgs false

/-- The array of the numbers of the words below k. -/
def nA (ws : List Wd) (k : Nat) : Array Value := n5 (numA ws k 0) (numA ws k 1) (numA ws k 2) (numA ws k 3) (numA ws k 4)
theorem nA_next (ws : List Wd) {k : Nat} (h0 : 1 ≤ k) (h : k < 5) : (nA ws k).setIfInBounds k (.int .i64 (refN (ws.getD k []))) = nA ws (k + 1) := by
  have : k = 1 ∨ k = 2 ∨ k = 3 ∨ k = 4 := by omega
  rcases this with rfl | rfl | rfl | rfl <;> rfl
theorem nA_one (ws : List Wd) : nA ws 1 = n5 0 0 0 0 0 := rfl
/-- The memory of instr: the result's row, the numbers' row. -/
structure InR (w : World) (n : Array Value) (W : World) : Prop where
  below : Below w.heap.size w W
  r : W.heap[w.heap.size]? = some (.cells (c8 0 0 0 0 0 0 0 0) 36 (0, 0))
  n : W.heap[w.heap.size + 1]? = some (.cells n 71 (0, 0))
theorem InR.start (w : World) : InR w (n5 0 0 0 0 0) ((w.alloc (.cells (c8 0 0 0 0 0 0 0 0) 36)).alloc (.cells (n5 0 0 0 0 0) 71)) :=
  ⟨((Below.refl _ _).alloc (Nat.le_refl _) _).alloc (by simp) _, heap_keep (heap_at rfl _) _, heap_at (by simp) _⟩
section
variable {w W W' : World} {n : Array Value}
theorem InR.next (h : InR w n W) (hb : Below W.heap.size W W') : InR w n W' :=
  ⟨h.below.trans (hb.mono h.below.size), (hb.block _ (lt_of_block h.r)).trans h.r, (hb.block _ (lt_of_block h.n)).trans h.n⟩
theorem InR.set (h : InR w n W) (i : Nat) (v : Value) : InR w (n.setIfInBounds i v) (W.setCell ⟨w.heap.size + 1, i, none⟩ v) :=
  ⟨h.below.setCell (p := ⟨w.heap.size + 1, i, none⟩) (by simp) v, (Below.heap_setCell W _ _ _ (by simp)).trans h.r, setCell_row v h.n⟩
theorem InR.fz (h : InR w n W) (i : Nat) : W.frozen? ⟨w.heap.size + 1, i, none⟩ = false := by simp [World.frozen?, h.n]
theorem InR.cell (h : InR w n W) {i : Nat} {v : Value} (hi : n[i]? = some v) : W.cell? ⟨w.heap.size + 1, i, none⟩ = some v := by
  rw [cell_of_row _ _ _ _ _ _ h.n]; exact hi
theorem InR.fin (h : InR w n W) (y : Array Value) : (W.setRow w.heap.size y).heap[w.heap.size]? = some (.cells y 36 (0, 0)) ∧ Below w.heap.size w (W.setRow w.heap.size y) := by
  refine ⟨setRow_heap W _ _ _ 36 _ h.r, ⟨h.below.os, h.below.tape, h.below.output, by have := h.below.size; simpa [World.setRow] using this, fun k hk => ?_⟩⟩
  rw [setRow_other W _ _ _ (by omega)]
  exact h.below.block k hk
end
theorem rng_ite {c : Prop} [Decidable c] {a b : Int × Int} (ha : a = (0, 0) ∨ (1 ≤ a.1 ∧ a.1 ≤ 12 ∧ 1 ≤ a.2 ∧ a.2 ≤ 5 ∧ (a.1 = 1 → a.2 = 4) ∧ (a.1 = 3 → a.2 = 4))) (hb : b = (0, 0) ∨ (1 ≤ b.1 ∧ b.1 ≤ 12 ∧ 1 ≤ b.2 ∧ b.2 ≤ 5 ∧ (b.1 = 1 → b.2 = 4) ∧ (b.1 = 3 → b.2 = 4))) :
    (if c then a else b) = (0, 0) ∨ (1 ≤ (if c then a else b).1 ∧ (if c then a else b).1 ≤ 12 ∧ 1 ≤ (if c then a else b).2 ∧ (if c then a else b).2 ≤ 5 ∧ ((if c then a else b).1 = 1 → (if c then a else b).2 = 4) ∧ ((if c then a else b).1 = 3 → (if c then a else b).2 = 4)) := by
  by_cases h : c
  · simp only [if_pos h]; exact ha
  · simp only [if_neg h]; exact hb
theorem below_new2 (W : World) (o : Obj) : Below W.heap.size W (W.alloc o) := (Below.refl _ _).alloc (Nat.le_refl _) o
theorem opR_rng (w : Wd) : (opR w = (0, 0)) ∨ (1 ≤ (opR w).1 ∧ (opR w).1 ≤ 12 ∧ 1 ≤ (opR w).2 ∧ (opR w).2 ≤ 5 ∧ ((opR w).1 = 1 → (opR w).2 = 4) ∧ ((opR w).1 = 3 → (opR w).2 = 4)) := by
  unfold opR
  by_cases h0 : w = [109, 97, 112]
  · rw [if_pos h0]; exact .inr (by decide)
  rw [if_neg h0]
  repeat' (first | exact .inl rfl | exact .inr (by decide) | (refine rng_ite ?_ ?_))
def InsPost (R : Ins × Bool) (w : World) (e : Ending) (w' : World) : Prop := e = .returned (.tuple #[R.1.V, .bool R.2]) ∧ Below w.heap.size w w'

set_option maxRecDepth 100000 in
set_option maxHeartbeats 8000000 in
/-- A line whose words are not as many as its operation has. -/
theorem instr_no (v : Wd) (t : List Wd) (A : Option Addr) (cap : Nat) (w : World) (hs : StrsAt w A (v :: t)) (hlen : t.length ≤ 1000000)
    (hbad : (opR v).1 = 0 ∨ (t.length : Int) + 1 < (opR v).2 ∨ ((opR v).2 < (t.length : Int) + 1 ∧ (opR v).1 ≠ 1)) :
    Calls Tryd.prog 26 #[.slice A (t.length + 1) cap] w fun e w' => e = .returned (.tuple #[zI.V, .bool false]) ∧ Below w.heap.size w w' := by
  obtain ⟨b, off, rfl, hv0⟩ := hs.head
  have hc0 : (w.alloc (.cells #[.int .i64 0, .int .i64 0, .int .i64 0, .int .i64 0, .int .i64 0, .int .i64 0, .int .i64 0, .int .i64 0] 36)).cell? ⟨b, off, none⟩ = some (.string (bstr v)) := by
    obtain ⟨b', off', he, hc⟩ := (hs.below (below_new2 w (.cells (c8 0 0 0 0 0 0 0 0) 36))).head
    cases he; exact hc
  have OP := Kp.mk (fun W => op40 v W)
  have hop := opR_rng v
  generalize opR v = on at OP hop hbad
  obtain ⟨o, n⟩ := on
  simp only at OP hop hbad
  have HR := Kp.mk (show (w.alloc (.cells (c8 0 0 0 0 0 0 0 0) 36)).heap[w.heap.size]? = some (.cells (c8 0 0 0 0 0 0 0 0) 36 (0, 0)) from heap_at rfl _)
  clear hs hv0
  by_cases h0 : o = 0
  · have q0 : (o == 0) = true := by simpa using h0
    clear hbad hop
    subst h0
    go_enter Tryd.func26, Tryd.ntmps26
    go_wp2_with (first | (go_at_call 40; refine (OP.out _).mono ?_; rintro e w' ⟨rfl, rfl⟩) | fail)
    exact bodyPost_ret (v := .tuple #[.agg (c8 0 0 0 0 0 0 0 0), .bool false]) (results_row_tmp rfl _ _ w.heap.size 36 _ (0, 0) _ _ rfl rfl (heap_at rfl _) Tryd.underlying36 rfl (by kernel_rfl)) rfl ⟨rfl, below_new2 _ _⟩
  have q0 : (o == 0) = false := by simpa using h0
  by_cases h1 : (t.length : Int) + 1 < n
  · clear hbad hop
    go_enter Tryd.func26, Tryd.ntmps26
    go_wp2_with (first | (go_at_call 40; refine (OP.out _).mono ?_; rintro e w' ⟨rfl, rfl⟩) | fail)
    exact bodyPost_ret (v := .tuple #[.agg (c8 0 0 0 0 0 0 0 0), .bool false]) (results_row_tmp rfl _ _ w.heap.size 36 _ (0, 0) _ _ rfl rfl (heap_at rfl _) Tryd.underlying36 rfl (by kernel_rfl)) rfl ⟨rfl, below_new2 _ _⟩
  · obtain ⟨h2, h3⟩ : n < (t.length : Int) + 1 ∧ o ≠ 1 := by omega
    have q3 : (o != 1) = true := by simpa using h3
    clear hbad hop
    go_enter Tryd.func26, Tryd.ntmps26
    go_wp2_with (first | (go_at_call 40; refine (OP.out _).mono ?_; rintro e w' ⟨rfl, rfl⟩) | fail)
    exact bodyPost_ret (v := .tuple #[.agg (c8 0 0 0 0 0 0 0 0), .bool false]) (results_row_tmp rfl _ _ w.heap.size 36 _ (0, 0) _ _ rfl rfl (heap_at rfl _) Tryd.underlying36 rfl (by kernel_rfl)) rfl ⟨rfl, below_new2 _ _⟩
end Go.Proofs.YtiomnlgnhdhffaaDoor
