/-
  The examples of the chapter: awake returns true. Conditions: none but what each theorem names.
-/
import Derived.Test.YtmomcelnfljnmaaF
namespace Go.Proofs.Ytmomcelnfljnmaa
open Go.RowKit
set_option linter.unusedVariables false

theorem allowedR {A : Option Addr} (l : List Int) (r : Bool) {n cap : Nat} {a b c o x : Int} {w : World} (hr : alw l a b c o x = r) (hn : n = l.length) (hcap : l.length ≤ cap) (hl : IntsAt w A l) :
    Calls Try.prog 21 #[.slice A n cap, .agg #[.int .i64 a, .int .i64 b, .int .i64 c], .int .i64 o, .int .i64 x] w fun e w' => e = .returned (.bool r) ∧ Below w.heap.size w w' := by
  subst hn hr
  exact allowed21 A l cap a b c o x w hl hcap
theorem wakeR (r : Bool) {a b c n : Int} {q : Bool} {w : World} (hr : wak a b c n q = r) :
    Calls Try.prog 19 #[.agg #[.int .i64 a, .int .i64 b, .int .i64 c], .int .i64 n, .bool q] w fun e w' => e = .returned (.bool r) ∧ Below w.heap.size w w' := by
  subst hr
  exact wake19 a b c n q w
theorem checkR (r : Int) {a b c : Int} {w : World} (hr : chk a b c = r) :
    Calls Try.prog 15 #[.agg #[.int .i64 a, .int .i64 b, .int .i64 c]] w fun e w' => e = .returned (.int .i64 r) ∧ Below w.heap.size w w' := by
  subst hr
  exact check15 a b c w
theorem levelsR (x y z e : Int) {c m : Int} {w : World} (hr : lvl c m = (x, y, z, e)) :
    Calls Try.prog 13 #[.int .i64 c, .int .i64 m] w fun e' w' => e' = .returned (.tuple #[.agg #[.int .i64 x, .int .i64 y, .int .i64 z], .int .i64 e]) ∧ Below w.heap.size w w' := by
  have h := levels13 c m w
  rw [lvlV, hr] at h
  exact h

theorem heap_keep {w : World} {p : Nat} {o : Obj} (h : w.heap[p]? = some o) (x : Obj) : (w.alloc x).heap[p]? = some o := by rw [heap_alloc_old _ _ (lt_of_block h)]; exact h
theorem heap_at {w : World} {n : Nat} (hn : n = w.heap.size) (o : Obj) : (w.alloc o).heap[n]? = some o := by subst hn; exact heap_alloc_new _ _
structure AwI (w : World) (p1 p3 p5 p6 : Nat) (w' : World) : Prop where
  below : Below w.heap.size w w'
  m : w'.heap[p1]? = some (.cells #[.int .i64 6, .int .i64 8, .int .i64 9] 23 (0, 0))
  s : w'.heap[p3]? = some (.cells #[.int .i64 4, .int .i64 4, .int .i64 4] 23 (0, 0))
  one : w'.heap[p5]? = some (.cells #[.int .i64 0, .int .i64 0, .int .i64 0, .int .i64 1] 3 (0, 0))
  mixed : w'.heap[p6]? = some (.cells #[.int .i64 6, .int .i64 0, .int .i64 0, .int .i64 1] 3 (0, 0))
theorem AwI.next {w w1 w2 : World} {p1 p3 p5 p6 : Nat} (h : AwI w p1 p3 p5 p6 w1) (hb : Below w1.heap.size w1 w2) : AwI w p1 p3 p5 p6 w2 := by
  have f : ∀ {p : Nat} {o : Obj}, w1.heap[p]? = some o → w2.heap[p]? = some o := fun hp => by rw [hb.block _ (lt_of_block hp)]; exact hp
  exact ⟨h.below.trans (hb.mono h.below.size), f h.m, f h.s, f h.one, f h.mixed⟩
theorem AwI.alloc {w w1 : World} {p1 p3 p5 p6 : Nat} (h : AwI w p1 p3 p5 p6 w1) (o : Obj) : AwI w p1 p3 p5 p6 (w1.alloc o) := h.next ((Below.refl _ _).alloc (Nat.le_refl _) o)
theorem AwI.cells {w w1 : World} {p1 p3 p5 p6 : Nat} (h : AwI w p1 p3 p5 p6 w1) : w1.cell? ⟨p1, 0, none⟩ = some (.int .i64 6) ∧ w1.cell? ⟨p1, 1, none⟩ = some (.int .i64 8) ∧ w1.cell? ⟨p1, 2, none⟩ = some (.int .i64 9) ∧
    w1.cell? ⟨p3, 0, none⟩ = some (.int .i64 4) ∧ w1.cell? ⟨p3, 1, none⟩ = some (.int .i64 4) ∧ w1.cell? ⟨p3, 2, none⟩ = some (.int .i64 4) ∧ p1 < w1.heap.size ∧ p3 < w1.heap.size := by
  refine ⟨?_, ?_, ?_, ?_, ?_, ?_, lt_of_block h.m, lt_of_block h.s⟩ <;> simp [World.cell?, h.m, h.s]
theorem ints_of_row {w : World} {p : Nat} {l : List Int} {t : TypeId} (h : w.heap[p]? = some (.cells (l.map (Value.int .i64)).toArray t (0, 0))) (hl : l.length ≤ 60) : IntsAt w (some ⟨p, 0, none⟩) l := by
  refine ⟨by omega, fun _ => ⟨_, rfl, lt_of_block h, fun j x hj => ?_⟩⟩
  have e : (⟨p, 0, none⟩ : Addr).add j = ⟨p, j, none⟩ := by rw [Go.WideShapes.add_plain]; simp
  rw [e, cell_of_row _ _ _ _ _ _ h]
  simp [hj]
theorem AwI.ione {w w1 : World} {p1 p3 p5 p6 : Nat} (h : AwI w p1 p3 p5 p6 w1) : IntsAt w1 (some ⟨p5, 0, none⟩) [0, 0, 0, 1] := ints_of_row (t := 3) h.one (by simp)
theorem AwI.imix {w w1 : World} {p1 p3 p5 p6 : Nat} (h : AwI w p1 p3 p5 p6 w1) : IntsAt w1 (some ⟨p6, 0, none⟩) [6, 0, 0, 1] := ints_of_row (t := 3) h.mixed (by simp)
theorem ints_new (w : World) (x : Int) (t : TypeId) : IntsAt (w.alloc (.cells #[.int .i64 x] t)) (some ⟨w.heap.size, 0, none⟩) [x] := ints_of_row (t := t) (heap_alloc_new _ _) (by simp)

set_option maxRecDepth 100000 in
set_option maxHeartbeats 4000000 in
theorem awake12 (w : World) : Calls Try.prog 12 #[] w fun e w' => e = .returned (.bool true) ∧ Below w.heap.size w w' := by
  go_enter Try.func12, Try.ntmps12
  go_wp2_with fail
  refine (levelsR 6 8 9 0 rfl).mono ?_
  rintro e w1 ⟨rfl, hb1⟩
  have B1 := Kp.mk hb1
  clear hb1
  go_wp2_with fail
  refine (levelsR 4 4 4 0 rfl).mono ?_
  rintro e w2 ⟨rfl, hb2⟩
  have m0 : w2.heap[w1.heap.size]? = some (.cells #[.int .i64 6, .int .i64 8, .int .i64 9] 23 (0, 0)) := by
    rw [hb2.block _ (by simp)]
    exact heap_alloc_new _ _
  have I0 := Kp.mk (show AwI w w1.heap.size w2.heap.size (w2.heap.size + 1) (w2.heap.size + 1 + 1) (((w2.alloc (.cells #[.int .i64 4, .int .i64 4, .int .i64 4] 23)).alloc (.cells #[.int .i64 0, .int .i64 0, .int .i64 0, .int .i64 1] 3)).alloc (.cells #[.int .i64 6, .int .i64 0, .int .i64 0, .int .i64 1] 3)) by
    have hlt := lt_of_block m0
    refine ⟨((((B1.out.alloc B1.out.size _).trans (hb2.mono (by have := B1.out.size; simp; omega))).alloc (by have := B1.out.size; have := hb2.size; simp at this; omega) _).alloc (by have := B1.out.size; have := hb2.size; simp at this; simp; omega) _).alloc (by have := B1.out.size; have := hb2.size; simp at this; simp; omega) _, ?_, ?_, ?_, ?_⟩
    · exact heap_keep (heap_keep (heap_keep m0 _) _) _
    · exact heap_keep (heap_keep (heap_at rfl _) _) _
    · exact heap_keep (heap_at (by simp) _) _
    · exact heap_at (by simp) _)
  have hlt := lt_of_block m0
  have c0 : w2.cell? ⟨w1.heap.size, 0, none⟩ = some (.int .i64 6) := by simp [World.cell?, m0]
  have c1 : w2.cell? ⟨w1.heap.size, 1, none⟩ = some (.int .i64 8) := by simp [World.cell?, m0]
  have c2 : w2.cell? ⟨w1.heap.size, 2, none⟩ = some (.int .i64 9) := by simp [World.cell?, m0]
  have hlt1 : w1.heap.size < w2.heap.size + 1 := by omega
  have hlt2 : w1.heap.size < w2.heap.size + 1 + 1 := by omega
  clear m0 hb2 B1
  go_wp2_with fail
  refine (checkR 0 (by decide)).mono ?_
  rintro e w3 ⟨rfl, hb⟩
  have I1 := Kp.mk (I0.out.next hb)
  clear hb c0 c1 c2 hlt hlt1 hlt2 I0
  obtain ⟨m0, m1, m2, s0, s1, s2, hz1, hz2⟩ := I1.out.cells
  go_wp2_with fail
  refine (allowedR [7] true (by decide) rfl (by decide) (ints_new _ 7 3)).mono ?_
  rintro e w4 ⟨rfl, hb⟩
  have I2 := Kp.mk ((I1.out.alloc _).next hb)
  clear hb m0 m1 m2 s0 s1 s2 hz1 hz2 I1
  obtain ⟨m0, m1, m2, s0, s1, s2, hz1, hz2⟩ := I2.out.cells
  go_wp2_with fail
  refine (allowedR [6] false (by decide) rfl (by decide) (ints_new _ 6 3)).mono ?_
  rintro e w5 ⟨rfl, hb⟩
  have I3 := Kp.mk ((I2.out.alloc _).next hb)
  clear hb m0 m1 m2 s0 s1 s2 hz1 hz2 I2
  obtain ⟨m0, m1, m2, s0, s1, s2, hz1, hz2⟩ := I3.out.cells
  go_wp2_with fail
  refine (allowedR [6] true (by decide) rfl (by decide) (ints_new _ 6 3)).mono ?_
  rintro e w6 ⟨rfl, hb⟩
  have I4 := Kp.mk ((I3.out.alloc _).next hb)
  clear hb m0 m1 m2 s0 s1 s2 hz1 hz2 I3
  obtain ⟨m0, m1, m2, s0, s1, s2, hz1, hz2⟩ := I4.out.cells
  go_wp2_with fail
  refine (allowedR [0, 0, 0, 1] false (by decide) rfl (by decide) I4.out.ione).mono ?_
  rintro e w7 ⟨rfl, hb⟩
  have I5 := Kp.mk (I4.out.next hb)
  clear hb m0 m1 m2 s0 s1 s2 hz1 hz2 I4
  obtain ⟨m0, m1, m2, s0, s1, s2, hz1, hz2⟩ := I5.out.cells
  go_wp2_with fail
  refine (allowedR [0, 0, 0, 1] true (by decide) rfl (by decide) I5.out.ione).mono ?_
  rintro e w8 ⟨rfl, hb⟩
  have I6 := Kp.mk (I5.out.next hb)
  clear hb m0 m1 m2 s0 s1 s2 hz1 hz2 I5
  obtain ⟨m0, m1, m2, s0, s1, s2, hz1, hz2⟩ := I6.out.cells
  go_wp2_with fail
  refine (allowedR [6, 0, 0, 1] false (by decide) rfl (by decide) I6.out.imix).mono ?_
  rintro e w9 ⟨rfl, hb⟩
  have I7 := Kp.mk (I6.out.next hb)
  clear hb m0 m1 m2 s0 s1 s2 hz1 hz2 I6
  obtain ⟨m0, m1, m2, s0, s1, s2, hz1, hz2⟩ := I7.out.cells
  go_wp2_with fail
  refine (allowedR [6, 0, 0, 1] false (by decide) rfl (by decide) I7.out.imix).mono ?_
  rintro e w10 ⟨rfl, hb⟩
  have I8 := Kp.mk (I7.out.next hb)
  clear hb m0 m1 m2 s0 s1 s2 hz1 hz2 I7
  obtain ⟨m0, m1, m2, s0, s1, s2, hz1, hz2⟩ := I8.out.cells
  go_wp2_with fail
  refine (wakeR true (by decide)).mono ?_
  rintro e w11 ⟨rfl, hb⟩
  have I9 := Kp.mk (I8.out.next hb)
  clear hb m0 m1 m2 s0 s1 s2 hz1 hz2 I8
  obtain ⟨m0, m1, m2, s0, s1, s2, hz1, hz2⟩ := I9.out.cells
  go_wp2_with fail
  refine (wakeR false (by decide)).mono ?_
  rintro e w12 ⟨rfl, hb⟩
  have I10 := Kp.mk (I9.out.next hb)
  clear hb m0 m1 m2 s0 s1 s2 hz1 hz2 I9
  obtain ⟨m0, m1, m2, s0, s1, s2, hz1, hz2⟩ := I10.out.cells
  go_wp2_with fail
  refine (wakeR true (by decide)).mono ?_
  rintro e w13 ⟨rfl, hb⟩
  have I11 := Kp.mk (I10.out.next hb)
  clear hb m0 m1 m2 s0 s1 s2 hz1 hz2 I10
  obtain ⟨m0, m1, m2, s0, s1, s2, hz1, hz2⟩ := I11.out.cells
  go_wp2_with fail
  refine (wakeR false (by decide)).mono ?_
  rintro e w14 ⟨rfl, hb⟩
  have I12 := Kp.mk (I11.out.next hb)
  clear hb m0 m1 m2 s0 s1 s2 hz1 hz2 I11
  obtain ⟨m0, m1, m2, s0, s1, s2, hz1, hz2⟩ := I12.out.cells
  go_wp2_with fail
  go_ret
  exact ⟨rfl, I12.out.below⟩

end Go.Proofs.Ytmomcelnfljnmaa
