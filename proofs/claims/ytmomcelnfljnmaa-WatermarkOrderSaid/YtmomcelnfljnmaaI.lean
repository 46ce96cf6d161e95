/-
  The walks of WatermarkFloors and WatermarkAllows. Conditions: none but what each theorem names.
-/
import Derived.Test.YtmomcelnfljnmaaH
namespace Go.Proofs.Ytmomcelnfljnmaa
open Go.RowKit
set_option linter.unusedVariables false

def C2 (w : World) (p : Nat) (a b : Int) : Prop := w.heap[p]? = some (.cells #[.int .i64 a, .int .i64 b] 29 (0, 0))
theorem C2.next {w w1 : World} {p : Nat} {a b : Int} (h : C2 w p a b) (hb : Below w.heap.size w w1) : C2 w1 p a b := by
  unfold C2
  rw [hb.block _ (lt_of_block h)]
  exact h
theorem C2.c {w : World} {p : Nat} {a b : Int} (h : C2 w p a b) : w.cell? ⟨p, 0, none⟩ = some (.int .i64 a) ∧ w.cell? ⟨p, 1, none⟩ = some (.int .i64 b) := by
  unfold C2 at h
  refine ⟨?_, ?_⟩ <;> simp [World.cell?, h]
/-- The blocks of a statement with watermarks, two numbers and a slice. -/
structure LI (w : World) (p q : Nat) (a b c x y : Int) (A : Option Addr) (l : List Int) (W : World) : Prop where
  below : Below w.heap.size w W
  m : C3 W p a b c
  n : C2 W q x y
  l : IntsAt W A l
theorem LI.next {w W W' : World} {p q : Nat} {a b c x y : Int} {A : Option Addr} {l : List Int} (h : LI w p q a b c x y A l W) (hb : Below W.heap.size W W') : LI w p q a b c x y A l W' :=
  ⟨h.below.trans (hb.mono h.below.size), h.m.next hb, h.n.next hb, h.l.below hb⟩
theorem LI.drew {w W : World} {p q : Nat} {a b c x y : Int} {A : Option Addr} {l : List Int} (h : LI w p q a b c x y A l W) : LI w p q a b c x y A l W.drew := h.next (Below.refl _ _).drew
theorem LI.s {w W : World} {p q : Nat} {a b c x y : Int} {A : Option Addr} {l : List Int} (h : LI w p q a b c x y A l W) : W.cell? ⟨p, 0, none⟩ = some (.int .i64 a) ∧ W.cell? ⟨p, 1, none⟩ = some (.int .i64 b) ∧ W.cell? ⟨p, 2, none⟩ = some (.int .i64 c) ∧
    W.cell? ⟨q, 0, none⟩ = some (.int .i64 x) ∧ W.cell? ⟨q, 1, none⟩ = some (.int .i64 y) ∧ Kp (LI w p q a b c x y A l W) :=
  ⟨h.m.c.1, h.m.c.2.1, h.m.c.2.2, h.n.c.1, h.n.c.2, ⟨h⟩⟩
theorem LI.start {w : World} {a b c x y : Int} {A : Option Addr} {l : List Int} (hl : IntsAt w A l) : LI w w.heap.size (w.heap.size + 1) a b c x y A l ((w.alloc (.cells #[.int .i64 a, .int .i64 b, .int .i64 c] 23)).alloc (.cells #[.int .i64 x, .int .i64 y] 29)) :=
  ⟨((Below.refl _ _).alloc (Nat.le_refl _) _).alloc (by simp) _, heap_keep (heap_at rfl _) _, heap_at (by simp) _, (hl.below ((Below.refl _ _).alloc (Nat.le_refl _) _)).below ((Below.refl _ _).alloc (Nat.le_refl _) _)⟩

set_option maxRecDepth 100000 in
set_option maxHeartbeats 4000000 in
theorem law4 (a b c x y : Int) (r : Bool) (w : World) : Calls Try.prog 4 #[.agg #[.int .i64 a, .int .i64 b, .int .i64 c], .agg #[.int .i64 x, .int .i64 y], .bool r] w fun e w' => e = .returned (.bool true) ∧ Below w.heap.size w w' := by
  have I0 := Kp.mk (LI.start (a := a) (b := b) (c := c) (x := x) (y := y) (show IntsAt w none [] from ⟨by simp, fun h => absurd rfl h⟩))
  go_enter Try.func4, Try.ntmps4
  go_wp2_with fail
  refine (awake12 _).mono ?_
  rintro e w1 ⟨rfl, hb⟩
  have I := Kp.mk (I0.out.next hb)
  clear hb I0
  go_wp2_with fail
  have I := Kp.mk I.out.drew
  go_region_held3 (fun W => W.cell? ⟨w.heap.size, 0, none⟩ = some (.int .i64 a) ∧ W.cell? ⟨w.heap.size, 1, none⟩ = some (.int .i64 b) ∧ W.cell? ⟨w.heap.size, 2, none⟩ = some (.int .i64 c) ∧
      W.cell? ⟨w.heap.size + 1, 0, none⟩ = some (.int .i64 x) ∧ W.cell? ⟨w.heap.size + 1, 1, none⟩ = some (.int .i64 y) ∧ Kp (LI w w.heap.size (w.heap.size + 1) a b c x y none [] W))
    ((exact I.out.s))
    (first
      | (go_at_call 17; with_reducible refine (floor17 a b c x _).mono ?_; rintro e w' ⟨rfl, hb⟩; have I := Kp.mk (I.out.next hb); clear hb)
      | (go_at_call 18; with_reducible refine (floor18 a b c x _).mono ?_; rintro e w' ⟨rfl, hb⟩; have I := Kp.mk (I.out.next hb); clear hb)
      | (go_at_call 19; with_reducible refine (wake19 a b c y r _).mono ?_; rintro e w' ⟨rfl, hb⟩; have I := Kp.mk (I.out.next hb); clear hb)
      | (go_at_call 20; with_reducible refine (wake20 a b c y r _).mono ?_; rintro e w' ⟨rfl, hb⟩; have I := Kp.mk (I.out.next hb); clear hb))
  go_wp2
  go_ret
  exact ⟨rfl, I.out.below⟩

set_option maxRecDepth 100000 in
set_option maxHeartbeats 4000000 in
theorem law5 (A : Option Addr) (l : List Int) (cap : Nat) (a b c x y : Int) (w : World) (hl : IntsAt w A l) (hcap : l.length ≤ cap) (hn : l.length ≤ 4611686018427387904) :
    Calls Try.prog 5 #[.slice A l.length cap, .agg #[.int .i64 a, .int .i64 b, .int .i64 c], .agg #[.int .i64 x, .int .i64 y]] w fun e w' => e = .returned (.bool true) ∧ Below w.heap.size w w' := by
  have I0 := Kp.mk (LI.start (a := a) (b := b) (c := c) (x := x) (y := y) hl)
  clear hl
  by_cases h20 : 20 < l.length
  · go_enter Try.func5, Try.ntmps5
    go_wp2_with fail
    refine (awake12 _).mono ?_
    rintro e w1 ⟨rfl, hb⟩
    have I := Kp.mk (I0.out.next hb)
    clear hb I0
    go_wp2_with fail
    refine (awake12 _).mono ?_
    rintro e w2 ⟨rfl, hb⟩
    have I := Kp.mk (I.out.next hb)
    go_wp2
    go_ret
    exact ⟨rfl, I.out.below⟩
  · go_enter Try.func5, Try.ntmps5
    go_wp2_with fail
    refine (awake12 _).mono ?_
    rintro e w1 ⟨rfl, hb⟩
    have I := Kp.mk (I0.out.next hb)
    clear hb I0
    go_wp2_with fail
    have I := Kp.mk I.out.drew
    go_region_held3 (fun W => W.cell? ⟨w.heap.size, 0, none⟩ = some (.int .i64 a) ∧ W.cell? ⟨w.heap.size, 1, none⟩ = some (.int .i64 b) ∧ W.cell? ⟨w.heap.size, 2, none⟩ = some (.int .i64 c) ∧
        W.cell? ⟨w.heap.size + 1, 0, none⟩ = some (.int .i64 x) ∧ W.cell? ⟨w.heap.size + 1, 1, none⟩ = some (.int .i64 y) ∧ Kp (LI w w.heap.size (w.heap.size + 1) a b c x y A l W))
      ((exact I.out.s))
      (first
        | (go_at_call 21; with_reducible refine (allowed21 A l cap a b c x y _ I.out.l hcap).mono ?_; rintro e w' ⟨rfl, hb⟩; have I := Kp.mk (I.out.next hb); clear hb)
        | (go_at_call 22; with_reducible refine (allowed22 A l cap a b c x y _ I.out.l).mono ?_; rintro e w' ⟨rfl, hb⟩; have I := Kp.mk (I.out.next hb); clear hb))
    go_wp2
    go_ret
    exact ⟨rfl, I.out.below⟩
end Go.Proofs.Ytmomcelnfljnmaa
