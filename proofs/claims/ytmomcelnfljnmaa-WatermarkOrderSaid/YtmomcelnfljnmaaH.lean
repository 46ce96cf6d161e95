/-
  The walk of WatermarkLevels. Conditions: none but what each theorem names.
-/
import Derived.Test.YtmomcelnfljnmaaG
import Derived.Deep.RegionHeld3
namespace Go.Proofs.Ytmomcelnfljnmaa
open Go.RowKit
set_option linter.unusedVariables false

theorem levelsR' (x y z e : Int) {c m : Int} {w : World} (hr : lvl c m = (x, y, z, e)) :
    Calls Try.prog 14 #[.int .i64 c, .int .i64 m] w fun e' w' => e' = .returned (.tuple #[.agg #[.int .i64 x, .int .i64 y, .int .i64 z], .int .i64 e]) ∧ Below w.heap.size w w' := by
  have h := levels14 c m w
  rw [lvlV, hr] at h
  exact h

/-- Three cells of a block. -/
def C3 (w : World) (p : Nat) (a b c : Int) : Prop := w.heap[p]? = some (.cells #[.int .i64 a, .int .i64 b, .int .i64 c] 23 (0, 0))
theorem C3.next {w w1 : World} {p : Nat} {a b c : Int} (h : C3 w p a b c) (hb : Below w.heap.size w w1) : C3 w1 p a b c := by
  unfold C3
  rw [hb.block _ (lt_of_block h)]
  exact h
theorem C3.alloc {w : World} {p : Nat} {a b c : Int} (h : C3 w p a b c) (o : Obj) : C3 (w.alloc o) p a b c := heap_keep h o
theorem C3.c {w : World} {p : Nat} {a b c : Int} (h : C3 w p a b c) : w.cell? ⟨p, 0, none⟩ = some (.int .i64 a) ∧ w.cell? ⟨p, 1, none⟩ = some (.int .i64 b) ∧ w.cell? ⟨p, 2, none⟩ = some (.int .i64 c) := by
  unfold C3 at h
  refine ⟨?_, ?_, ?_⟩ <;> simp [World.cell?, h]
theorem lvl_chk {c m x y z : Int} (h : lvl c m = (x, y, z, 0)) : chk x y z = 0 := by
  unfold lvl at h
  split at h
  · simp at h
  · rename_i hc
    simp only [Bool.or_eq_true, Bool.not_eq_true', decide_eq_true_eq, not_or] at hc
    have := inB_true (n := c) (by simpa using hc.1.1)
    simp only [Prod.mk.injEq, and_true] at h
    obtain ⟨rfl, rfl, rfl⟩ := h
    unfold chk inB
    split <;> split <;> simp <;> omega
theorem lvl_err (c m : Int) : (lvl c m).2.2.2 = 0 ∨ (lvl c m).2.2.2 = 2 := by
  unfold lvl; split <;> simp

/-- What the statement's own blocks hold, over the calls. -/
structure L3I (w : World) (p5 p7 p9 : Nat) (a b d x y z : Int) (W : World) : Prop where
  below : Below w.heap.size w W
  A : C3 W p5 a b d
  M : C3 W p7 x y z
  N : C3 W p9 x y z
theorem L3I.next {w W W' : World} {p5 p7 p9 : Nat} {a b d x y z : Int} (h : L3I w p5 p7 p9 a b d x y z W) (hb : Below W.heap.size W W') : L3I w p5 p7 p9 a b d x y z W' :=
  ⟨h.below.trans (hb.mono h.below.size), h.A.next hb, h.M.next hb, h.N.next hb⟩
theorem L3I.s {w W : World} {p5 p7 p9 : Nat} {a b d x y z : Int} (h : L3I w p5 p7 p9 a b d x y z W) : W.cell? ⟨p5, 0, none⟩ = some (.int .i64 a) ∧ W.cell? ⟨p5, 1, none⟩ = some (.int .i64 b) ∧ W.cell? ⟨p5, 2, none⟩ = some (.int .i64 d) ∧
    W.cell? ⟨p7, 0, none⟩ = some (.int .i64 x) ∧ W.cell? ⟨p7, 1, none⟩ = some (.int .i64 y) ∧ W.cell? ⟨p7, 2, none⟩ = some (.int .i64 z) ∧
    W.cell? ⟨p9, 0, none⟩ = some (.int .i64 x) ∧ W.cell? ⟨p9, 1, none⟩ = some (.int .i64 y) ∧ W.cell? ⟨p9, 2, none⟩ = some (.int .i64 z) ∧ Kp (L3I w p5 p7 p9 a b d x y z W) :=
  ⟨h.A.c.1, h.A.c.2.1, h.A.c.2.2, h.M.c.1, h.M.c.2.1, h.M.c.2.2, h.N.c.1, h.N.c.2.1, h.N.c.2.2, ⟨h⟩⟩

set_option maxRecDepth 100000 in
set_option maxHeartbeats 4000000 in
theorem law3 (c m a b d : Int) (w : World) : Calls Try.prog 3 #[.int .i64 c, .int .i64 m, .agg #[.int .i64 a, .int .i64 b, .int .i64 d]] w fun e w' => e = .returned (.bool true) ∧ Below w.heap.size w w' := by
  obtain ⟨⟨x, y, z, e⟩, hr⟩ : ∃ r, lvl c m = r := ⟨_, rfl⟩
  have HR := Kp.mk hr
  have he := lvl_err c m
  rw [hr] at he
  clear hr
  go_enter Try.func3, Try.ntmps3
  go_wp2_with fail
  refine (awake12 _).mono ?_
  rintro e w1 ⟨rfl, hb⟩
  have A := Kp.mk (show C3 w1 w.heap.size a b d from (show C3 (w.alloc _) w.heap.size a b d from heap_at rfl _).next hb)
  have B := Kp.mk (((Below.refl w.heap.size w).alloc (Nat.le_refl _) _).trans (hb.mono (by simp)))
  clear hb
  go_wp2_with fail
  refine (levelsR x y z e HR.out).mono ?_
  rintro e w2 ⟨rfl, hb⟩
  have A2 := Kp.mk (A.out.next hb)
  have B2 := Kp.mk (B.out.trans (hb.mono B.out.size))
  clear hb A B
  go_wp2_with fail
  refine (levelsR' x y z e HR.out).mono ?_
  rintro e w3 ⟨rfl, hb⟩
  have I := Kp.mk (show L3I w w.heap.size w2.heap.size w3.heap.size a b d x y z (w3.alloc (.cells #[.int .i64 x, .int .i64 y, .int .i64 z] 23)) from
    ⟨((B2.out.alloc B2.out.size _).trans (hb.mono (by have := B2.out.size; simp; omega))).alloc (by have := B2.out.size; have := hb.size; simp at this; omega) _, ((A2.out.alloc _).next hb).alloc _,
      ((show C3 (w2.alloc _) w2.heap.size x y z from heap_at rfl _).next hb).alloc _, heap_at rfl _⟩)
  clear hb A2 B2
  go_wp2_with fail
  generalize w3.alloc (.cells #[.int .i64 x, .int .i64 y, .int .i64 z] 23) = W at *
  rcases he with he | he
  · subst he
    have hk := Kp.mk (lvl_chk HR.out)
    have I := Kp.mk (I.out.next (Below.refl _ _).drew)
    go_region_held3 (fun W => W.cell? ⟨w.heap.size, 0, none⟩ = some (.int .i64 a) ∧ W.cell? ⟨w.heap.size, 1, none⟩ = some (.int .i64 b) ∧ W.cell? ⟨w.heap.size, 2, none⟩ = some (.int .i64 d) ∧
    W.cell? ⟨w2.heap.size, 0, none⟩ = some (.int .i64 x) ∧ W.cell? ⟨w2.heap.size, 1, none⟩ = some (.int .i64 y) ∧ W.cell? ⟨w2.heap.size, 2, none⟩ = some (.int .i64 z) ∧
    W.cell? ⟨w3.heap.size, 0, none⟩ = some (.int .i64 x) ∧ W.cell? ⟨w3.heap.size, 1, none⟩ = some (.int .i64 y) ∧ W.cell? ⟨w3.heap.size, 2, none⟩ = some (.int .i64 z) ∧ Kp (L3I w w.heap.size w2.heap.size w3.heap.size a b d x y z W))
      ((exact I.out.s))
      (first | (go_at_call 15; with_reducible refine (check15 a b d _).mono ?_; rintro e w' ⟨rfl, hb⟩; have I := Kp.mk (I.out.next hb); clear hb) | (go_at_call 15; with_reducible refine (check15 x y z _).mono ?_; rintro e w' ⟨rfl, hb⟩; rw [hk.out]; have I := Kp.mk (I.out.next hb); clear hb) | (go_at_call 16; with_reducible refine (check16 a b d _).mono ?_; rintro e w' ⟨rfl, hb⟩; have I := Kp.mk (I.out.next hb); clear hb))
    go_wp2
    go_ret
    exact ⟨rfl, I.out.below⟩
  · subst he
    have I := Kp.mk (I.out.next (Below.refl _ _).drew)
    obtain ⟨k1, k2, k3, k4, k5, k6, k7, k8, k9, k10⟩ := I.out.s
    clear k10
    go_region_with (first | (go_at_call 15; with_reducible refine (check15 a b d _).mono ?_; rintro e w' ⟨rfl, hb⟩; have I := Kp.mk (I.out.next hb); clear hb; obtain ⟨k1, k2, k3, k4, k5, k6, k7, k8, k9, k10⟩ := I.out.s; clear k10) | (go_at_call 16; with_reducible refine (check16 a b d _).mono ?_; rintro e w' ⟨rfl, hb⟩; have I := Kp.mk (I.out.next hb); clear hb; obtain ⟨k1, k2, k3, k4, k5, k6, k7, k8, k9, k10⟩ := I.out.s; clear k10))
    all_goals
      go_wp2
      go_ret
      exact ⟨rfl, I.out.below⟩
end Go.Proofs.Ytmomcelnfljnmaa
