/-
  Walks of the reference's listError. Conditions: none but what each theorem names.
-/
import Derived.Test.YtmomcelnfljnmaaQ
import Derived.Deep.MidRow
import Derived.Deep.RegionHeld3
namespace Go.Proofs.Ytmomcelnfljnmaa
open Go.RowKit
set_option linter.unusedVariables false

theorem blk_at {w : World} {n : Nat} (hn : n = w.heap.size) (o : Obj) : (w.alloc o).heap[n]? = some o := by subst hn; exact heap_alloc_new _ _
/-- The blocks of a walk over one zone. -/
structure ZM (z : Zn) (P : Pl) (w0 : World) (g : Nat) (w : World) : Prop where
  below : Below w0.heap.size w0 w
  size : w0.heap.size ≤ w.heap.size
  blk : w.heap[g]? = some (.cells (cellsZ z P) 60 (0, 0))
  ints : ∀ k, k < 5 → IntsAt w (P.A k) (z.l k)
section
variable {z : Zn} {P : Pl} {w0 w w' : World} {g : Nat}
theorem ZM.next (h : ZM z P w0 g w) (hb : Below w.heap.size w w') : ZM z P w0 g w' :=
  ⟨h.below.trans (hb.mono h.size), Nat.le_trans h.size hb.size, by rw [hb.block _ (lt_of_block h.blk)]; exact h.blk, fun k hk => (h.ints k hk).below hb⟩
theorem ZM.drew (h : ZM z P w0 g w) : ZM z P w0 g w.drew := h.next (below_drewN (Below.refl _ _) 1)
theorem ZM.start (h : ∀ k, k < 5 → IntsAt w (P.A k) (z.l k)) : ZM z P w w.heap.size (w.alloc (.cells (cellsZ z P) 60)) :=
  ⟨(Below.refl _ _).alloc (Nat.le_refl _) _, by simp, blk_at rfl _, fun k hk => (h k hk).below ((Below.refl _ _).alloc (Nat.le_refl _) _)⟩
theorem ZM.lt (h : ZM z P w0 g w) : g < w.heap.size := lt_of_block h.blk
theorem ZM.list (h : ZM z P w0 g w) {k : Nat} (hk : k < 5) : w.cell? ⟨g, 5 + k, none⟩ = some (.slice (P.A k) (z.l k).length (P.c k)) := by
  rw [cell_of_row _ _ _ _ _ _ h.blk]
  have hk' : k = 0 ∨ k = 1 ∨ k = 2 ∨ k = 3 ∨ k = 4 := by omega
  rcases hk' with rfl | rfl | rfl | rfl | rfl <;> rfl
theorem ZM.f (h : ZM z P w0 g w) : w.cell? ⟨g, 0, none⟩ = some (.int .i64 z.nd) ∧ w.cell? ⟨g, 1, none⟩ = some (.int .i64 z.kd) ∧ w.cell? ⟨g, 2, none⟩ = some (.int .i64 z.st) ∧ w.cell? ⟨g, 3, none⟩ = some (.int .i64 z.ct) ∧ w.cell? ⟨g, 4, none⟩ = some (.int .i64 z.mn) := by
  refine ⟨?_, ?_, ?_, ?_, ?_⟩ <;> rw [cell_of_row _ _ _ _ _ _ h.blk] <;> rfl
theorem ZM.range (h : ZM z P w0 g w) : w.rangeAt g 0 (cellsZ z P).toList := by
  have := World.rangeAt_of_block h.blk 0 10
  simpa [cellsZ] using this
theorem ZM.item (h : ZM z P w0 g w) {k i : Nat} (hk : k < 5) (hi : i < (z.l k).length) : ∃ b off, P.A k = some ⟨b, off, none⟩ ∧ w.cell? ⟨b, off + i, none⟩ = some (.int .i64 (g5 (z.l k) i)) := (h.ints k hk).cell hi
end

theorem wp_load_zone {K : Act → World → Prop} {Q : Exit → Act → World → Prop} {o : Oper} {a : Act} {W : World} {g : Nat} {z : Zn} {P : Pl} (h : W.heap[g]? = some (.cells (cellsZ z P) 60 (0, 0))) (t : Tmp) (ho : o.op = .load 60 (.tmp t)) (hp : a.eval (.tmp t) = .pointer (some ⟨g, 0, none⟩))
    (hK : K (a.put o.dst (ZV z P)) W) : o.wp Try.prog a W K Q := by
  have hr := World.rangeAt_of_block h 0 10
  have e : ((cellsZ z P).extract 0 (0 + 10)).toList = (cellsZ z P).toList := by simp [cellsZ]
  rw [e] at hr
  have hi : (Try.prog.info? 60).map (·.size) = some 10 := by kernel_rfl
  refine wp_load_mid 60 (.tmp t) ho g 0 hp (cellsZ z P).toList _ hr Try.underlying60 rfl (by rw [hi]; rfl) ?_
  simpa [ZV] using hK
theorem wpList_load_zone {ops : Array Oper} {rest : List Oper} {o : Oper} {a : Act} {W : World} {Q : Exit → Act → World → Prop} {g : Nat} {z : Zn} {P : Pl} (hgd : o.guard = none) (h : W.heap[g]? = some (.cells (cellsZ z P) 60 (0, 0))) (t : Tmp) (ho : o.op = .load 60 (.tmp t)) (hp : a.eval (.tmp t) = .pointer (some ⟨g, 0, none⟩))
    (hK : wpList Try.prog ops Q rest (a.put o.dst (ZV z P)) W) : wpList Try.prog ops Q (o :: rest) a W :=
  wpList_plain hgd fun _ hk => wp_load_zone h t ho hp (hk _ _ hK)

/-- All ten cells. -/
theorem ZM.ten {z : Zn} {P : Pl} {w0 w : World} {g : Nat} (h : ZM z P w0 g w) {X : Prop} (hX : X) : w.cell? ⟨g, 0, none⟩ = some (.int .i64 z.nd) ∧ w.cell? ⟨g, 1, none⟩ = some (.int .i64 z.kd) ∧ w.cell? ⟨g, 2, none⟩ = some (.int .i64 z.st) ∧ w.cell? ⟨g, 3, none⟩ = some (.int .i64 z.ct) ∧ w.cell? ⟨g, 4, none⟩ = some (.int .i64 z.mn) ∧ w.cell? ⟨g, 5, none⟩ = some (slV z P 0) ∧ w.cell? ⟨g, 6, none⟩ = some (slV z P 1) ∧ w.cell? ⟨g, 7, none⟩ = some (slV z P 2) ∧ w.cell? ⟨g, 8, none⟩ = some (slV z P 3) ∧ w.cell? ⟨g, 9, none⟩ = some (slV z P 4) ∧ X := by
  refine ⟨?_, ?_, ?_, ?_, ?_, ?_, ?_, ?_, ?_, ?_, hX⟩ <;> rw [cell_of_row _ _ _ _ _ _ h.blk] <;> rfl
theorem ZM.two {z : Zn} {P : Pl} {w0 w : World} {g k j b off : Nat} (h : ZM z P w0 g w) (hk : k < 5) (hj : j < (z.l k).length) (hA : P.A k = some ⟨b, off, none⟩) :
    w.cell? ⟨g, 5 + k, none⟩ = some (.slice (some ⟨b, off, none⟩) (z.l k).length (P.c k)) ∧ w.cell? ⟨b, off + j, none⟩ = some (.int .i64 (g5 (z.l k) j)) := by
  obtain ⟨b', off', hA', hc⟩ := h.item hk hj
  have e := h.list hk
  rw [hA] at hA' e
  cases hA'
  exact ⟨e, hc⟩
theorem block87x (z : Zn) (P : Pl) (f : Int) (k : Nat) (hk : k ≤ 4) (hr : rngZ z = true) (w : World) : Calls Try.prog 87 #[.agg #[.int .i64 z.nd, .int .i64 z.kd, .int .i64 z.st, .int .i64 z.ct, .int .i64 z.mn, slV z P 0, slV z P 1, slV z P 2, slV z P 3, slV z P 4], .int .i64 f, .int .i64 k] w fun e w' => e = .returned (.bool (insZ z f k)) ∧ Below w.heap.size w w' :=
  block87 z P f k hk hr w

set_option maxHeartbeats 2000000 in
theorem listError85 (z : Zn) (P : Pl) (hr : rngZ z = true) (w : World) (hl : ∀ k, k < 5 → IntsAt w (P.A k) (z.l k)) : Calls Try.prog 85 #[ZV z P] w fun e w' => e = .returned (.int .i64 (scZ z 0)) ∧ Below w.heap.size w w' := by
  have I0 := Kp.mk (ZM.start hl)
  clear hl
  have HR := Kp.mk hr
  clear hr
  unfold ZV
  go_enter Try.func85, Try.ntmps85
  go_wp2_with fail
  go_loopw [3] (fun i W => ∃ k : Nat, k ≤ 5 ∧ i = .int .i64 k ∧ Kp (scZ z 0 = scZ z k) ∧ Kp (ZM z P w w.heap.size W)) (fun i _ => 5 - (intOf i).toNat)
  case atStart => exact ⟨0, by omega, rfl, ⟨rfl⟩, I0⟩
  case round =>
    clear I0
    obtain ⟨k, hk5, rfl, HS, I⟩ := hrel
    by_cases hk : k < 5
    · have hki : (k : Int) < 5 := by omega
      go_wp2_with fail
      go_loopw [4] (fun i W => ∃ j : Nat, j ≤ (z.l k).length ∧ i = .int .i64 j ∧ Kp (scL z k 0 = scL z k j) ∧ Kp (ZM z P w w.heap.size W)) (fun i _ => (z.l k).length - (intOf i).toNat)
      case atStart => exact ⟨0, by omega, rfl, ⟨rfl⟩, I⟩
      case round =>
        clear I
        obtain ⟨j, hjl, rfl, HL, I⟩ := hrel
        have c0 := I.out.list hk
        have hlen := (I.out.ints k hk).1
        by_cases hj : j < (z.l k).length
        · obtain ⟨b, off, hA, c1⟩ := I.out.item hk hj
          rw [hA] at c0
          go_wp2_with fail
          have I := Kp.mk I.out.drew
          cases hins : insZ z (g5 (z.l k) j) k
          · have HB := Kp.mk hins
            have HE := Kp.mk (show scZ z 0 = 3 by rw [HS.out, scZ_err hk, HL.out, scL_out hj hins]; rw [HL.out, scL_out hj hins]; omega)
            clear hins
            go_region_held3 (fun W => W.cell? ⟨w.heap.size, 0, none⟩ = some (.int .i64 z.nd) ∧ W.cell? ⟨w.heap.size, 1, none⟩ = some (.int .i64 z.kd) ∧ W.cell? ⟨w.heap.size, 2, none⟩ = some (.int .i64 z.st) ∧ W.cell? ⟨w.heap.size, 3, none⟩ = some (.int .i64 z.ct) ∧ W.cell? ⟨w.heap.size, 4, none⟩ = some (.int .i64 z.mn) ∧ W.cell? ⟨w.heap.size, 5, none⟩ = some (slV z P 0) ∧ W.cell? ⟨w.heap.size, 6, none⟩ = some (slV z P 1) ∧ W.cell? ⟨w.heap.size, 7, none⟩ = some (slV z P 2) ∧ W.cell? ⟨w.heap.size, 8, none⟩ = some (slV z P 3) ∧ W.cell? ⟨w.heap.size, 9, none⟩ = some (slV z P 4) ∧
                W.cell? ⟨w.heap.size, 5 + k, none⟩ = some (.slice (some ⟨b, off, none⟩) (z.l k).length (P.c k)) ∧ W.cell? ⟨b, off + j, none⟩ = some (.int .i64 (g5 (z.l k) j)) ∧ Kp (ZM z P w w.heap.size W))
              ((exact I.out.ten ⟨(I.out.two hk hj hA).1, (I.out.two hk hj hA).2, I⟩))
              (first | (go_at_call 87; with_reducible refine (block87x z P _ _ (by omega) HR.out _).mono ?_; rintro e w' ⟨rfl, hb⟩; rw [HB.out]; have I := Kp.mk (I.out.next hb); clear hb))
            go_wp2_with fail
            go_ret
            exact ⟨by rw [HE.out]; rfl, I.out.below⟩
          · have HB := Kp.mk hins
            have HI := Kp.mk hins
            clear hins
            go_region_held3 (fun W => W.cell? ⟨w.heap.size, 0, none⟩ = some (.int .i64 z.nd) ∧ W.cell? ⟨w.heap.size, 1, none⟩ = some (.int .i64 z.kd) ∧ W.cell? ⟨w.heap.size, 2, none⟩ = some (.int .i64 z.st) ∧ W.cell? ⟨w.heap.size, 3, none⟩ = some (.int .i64 z.ct) ∧ W.cell? ⟨w.heap.size, 4, none⟩ = some (.int .i64 z.mn) ∧ W.cell? ⟨w.heap.size, 5, none⟩ = some (slV z P 0) ∧ W.cell? ⟨w.heap.size, 6, none⟩ = some (slV z P 1) ∧ W.cell? ⟨w.heap.size, 7, none⟩ = some (slV z P 2) ∧ W.cell? ⟨w.heap.size, 8, none⟩ = some (slV z P 3) ∧ W.cell? ⟨w.heap.size, 9, none⟩ = some (slV z P 4) ∧
                W.cell? ⟨w.heap.size, 5 + k, none⟩ = some (.slice (some ⟨b, off, none⟩) (z.l k).length (P.c k)) ∧ W.cell? ⟨b, off + j, none⟩ = some (.int .i64 (g5 (z.l k) j)) ∧ Kp (ZM z P w w.heap.size W))
              ((exact I.out.ten ⟨(I.out.two hk hj hA).1, (I.out.two hk hj hA).2, I⟩))
              (first | (go_at_call 87; with_reducible refine (block87x z P _ _ (by omega) HR.out _).mono ?_; rintro e w' ⟨rfl, hb⟩; rw [HB.out]; have I := Kp.mk (I.out.next hb); clear hb))
            go_wp2_with fail
            clear c0 c1
            have hkp : (0 : Int) ≤ (k : Int) := by omega
            rcases Nat.eq_zero_or_pos j with h0 | h0
            · subst h0
              have HE := Kp.mk (show scL z k 0 = scL z k (0 + 1) from scL_next hj HI.out (by omega))
              obtain ⟨c0, c1⟩ := I.out.two hk hj hA
              go_quiet (fail)
              have I := Kp.mk (I.out.next (below_drewN (Below.refl _ _) nq))
              go_wp2_with fail
              go_roundw
              case rel => exact ⟨0 + 1, by omega, by omega, HE⟩
              case measure => simp [intOf]; omega
            · obtain ⟨i, rfl⟩ : ∃ i, j = i + 1 := ⟨j - 1, by omega⟩
              obtain ⟨c0, c1⟩ := I.out.two hk hj hA
              obtain ⟨_, c2⟩ := I.out.two hk (show i < (z.l k).length by omega) hA
              by_cases hord : g5 (z.l k) (i + 1) ≤ g5 (z.l k) i
              · have HE := Kp.mk (show scZ z 0 = 10 by rw [HS.out, scZ_err hk, HL.out, scL_ord hj HI.out (by omega) (by simpa using hord)]; rw [HL.out, scL_ord hj HI.out (by omega) (by simpa using hord)]; omega)
                go_quiet (fail)
                have I := Kp.mk (I.out.next (below_drewN (Below.refl _ _) nq))
                go_wp2_with fail
                go_ret
                exact ⟨by rw [HE.out]; rfl, I.out.below⟩
              · have HE := Kp.mk (show scL z k 0 = scL z k (i + 1 + 1) by rw [HL.out]; exact scL_next hj HI.out (by intro _; simpa using hord))
                go_quiet (fail)
                have I := Kp.mk (I.out.next (below_drewN (Below.refl _ _) nq))
                go_wp2_with fail
                go_roundw
                case rel => exact ⟨i + 1 + 1, by omega, by omega, HE⟩
                case measure => simp [intOf]; omega
        · have HE := Kp.mk (show scZ z 0 = scZ z (k + 1) by rw [HS.out, scZ_next hk]; rw [HL.out, scL_end (by omega)])
          go_wp2_with fail
          go_roundw
          case rel => exact ⟨k + 1, by omega, by go_num, HE, I⟩
          case measure => simp [intOf]; omega
    · have HE := Kp.mk (show scZ z 0 = 0 by rw [HS.out, (show k = 5 by omega), scZ_end])
      go_wp2_with fail
      go_ret
      exact ⟨by rw [HE.out]; rfl, I.out.below⟩
end Go.Proofs.Ytmomcelnfljnmaa
