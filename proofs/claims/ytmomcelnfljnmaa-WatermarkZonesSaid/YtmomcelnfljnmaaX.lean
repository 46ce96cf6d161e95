/-
  Walks of watermark.Blocks and the reference's Blocks. Conditions: none but what each theorem names.
-/
import Derived.Test.YtmomcelnfljnmaaV
import Derived.OwnWalk
import Derived.Maps.AppendAt
namespace Go.Proofs.Ytmomcelnfljnmaa
open Go.RowKit
set_option linter.unusedVariables false

theorem infoE3 : (Try.prog.info? 3).map (fun i => (i.zero, i.size, i.bytes)) = some (some (.int .i64 0), 1, 8) := by kernel_rfl
/-- The lengths of the lists of orders below k. -/
def lens (z : Zn) (k : Nat) : List Int := (List.range k).map fun k => ((z.l k).length : Int)
theorem lens_succ (z : Zn) (k : Nat) : lens z (k + 1) = lens z k ++ [((z.l k).length : Int)] := by simp [lens, List.range_succ]
theorem lens_len (z : Zn) (k : Nat) : (lens z k).length = k := by simp [lens]
/-- The world of a loop that appends: the zone's box, the row of one's own. -/
structure OW (z : Zn) (P : Pl) (w0 : World) (v : Value) (xs : List Int) (W : World) : Prop where
  below : Below (w0.heap.size + 1) (w0.alloc (.cells (cellsZ z P) 60)) W
  own : W.ownsRow (w0.heap.size + 1) 3 1 v xs.length (xs.map (Value.int .i64))
section
variable {z : Zn} {P : Pl} {w0 W W' : World} {v v' : Value} {xs : List Int}
theorem OW.size (h : OW z P w0 v xs W) : w0.heap.size + 1 ≤ W.heap.size := by have := h.below.size; simpa using this
theorem OW.blk (h : OW z P w0 v xs W) : W.heap[w0.heap.size]? = some (.cells (cellsZ z P) 60 (0, 0)) := by
  rw [h.below.block _ (by omega)]
  exact blk_at rfl _
theorem OW.list (h : OW z P w0 v xs W) {k : Nat} (hk : k < 5) : W.cell? ⟨w0.heap.size, 5 + k, none⟩ = some (.slice (P.A k) (z.l k).length (P.c k)) := by
  rw [cell_of_row _ _ _ _ _ _ h.blk]
  have hk' : k = 0 ∨ k = 1 ∨ k = 2 ∨ k = 3 ∨ k = 4 := by omega
  rcases hk' with rfl | rfl | rfl | rfl | rfl <;> rfl
theorem OW.start (h : ZM z P w0 w0.heap.size W) (hb : Below (w0.heap.size + 1) (w0.alloc (.cells (cellsZ z P) 60)) W) : OW z P w0 (.slice none 0 0) [] W :=
  ⟨hb, World.ownsRow_nil _ _ _ _⟩
theorem OW.more (h : OW z P w0 v xs W) {x : Int} {o : Obj} (ho : W'.ownsRow (w0.heap.size + 1) 3 1 v' (xs.length + 1) (xs.map (Value.int .i64) ++ [.int .i64 x])) (hg : (W.alloc o).grownBy W' v.ownBlock) : OW z P w0 v' (xs ++ [x]) W' := by
  refine ⟨(h.below.alloc h.size o).trans ⟨hg.os, hg.tape, hg.output, hg.size, fun k hk => ?_⟩, by simpa using ho⟩
  refine hg.block k ?_ ?_
  · have := h.size; simp; omega
  · intro e
    have := h.own.lt k e.symm
    omega
theorem OW.below0 (h : OW z P w0 v xs W) : Below w0.heap.size w0 W :=
  ((Below.refl _ _).alloc (Nat.le_refl _) _).trans (h.below.mono (by omega))
theorem OW.ends (h : OW z P w0 v xs W) (hx : xs ≠ []) (hn : xs.length ≤ 60) : ∃ A c, v = .slice A xs.length c ∧ IntsAt W A xs := by
  rcases h.own.2 with ⟨_, h0⟩ | ⟨g, cap, cur, rfl, hg, hh, hle, _, hsz, htk⟩
  · exact absurd (List.eq_nil_of_length_eq_zero h0) hx
  · refine ⟨_, cap, rfl, by omega, fun _ => ⟨_, rfl, lt_of_block hh, fun j x hj => ?_⟩⟩
    refine h.own.cells (g := g) rfl j _ ?_
    simp [hj]
end
def lz (z : Zn) : List Int := lens z 5

set_option maxRecDepth 100000 in
set_option maxHeartbeats 4000000 in
theorem blocks28 (z : Zn) (P : Pl) (w : World) (hl : ∀ k, k < 5 → IntsAt w (P.A k) (z.l k)) : Calls Try.prog 28 #[ZV z P] w fun e w' =>
    (chkZ z ≠ 0 → e = .returned (.tuple #[.slice none 0 0, .int .i64 (chkZ z)])) ∧ (chkZ z = 0 → ∃ A c, e = .returned (.tuple #[.slice A 5 c, .int .i64 0]) ∧ IntsAt w' A (lens z 5)) ∧ Below w.heap.size w w' := by
  have I0 := Kp.mk (ZM.start hl)
  clear hl
  obtain ⟨s, hs⟩ : ∃ s, s = chkZ z := ⟨_, rfl⟩
  rw [← hs]
  have HS := Kp.mk hs
  clear hs
  unfold ZV
  go_enter Try.func28, Try.ntmps28
  by_cases h0 : s = 0
  · subst h0
    go_wp2_with (first | ((with_reducible refine gate_dst (N := 8) rfl ?_); go_must (refine wpList_load_zone rfl I0.out.blk 1 rfl rfl ?_)) | (go_at_call 56; refine (check56 z P _ I0.out.ints).mono ?_; rintro e w1 ⟨rfl, hb⟩; rw [← HS.out]; have I1 := Kp.mk (I0.out.next hb); have HB := Kp.mk (hb.mono (show w.heap.size + 1 ≤ _ by simp)); clear hb) | ((with_reducible refine gate_dst (N := 14) rfl ?_); go_must (refine wpList_load_lists rfl I1.out.blk 13 rfl rfl ?_)))
    have O := Kp.mk (OW.start I1.out HB.out)
    clear I0 HB
    obtain ⟨i0, hi, hz0, hz1, hz2⟩ := info_parts infoE3
    go_loopw [5, 15] (fun v i W => ∃ k : Nat, k ≤ 5 ∧ i = .int .i64 k ∧ Kp (OW z P w v (lens z k) W)) (fun v i _ => 5 - (intOf i).toNat)
    case atStart => exact ⟨0, by omega, rfl, O⟩
    case round =>
      clear O I1
      obtain ⟨k, hk5, rfl, O⟩ := hrel
      by_cases hk : k < 5
      · have hki : (k : Int) < 5 := by omega
        have hkp : (0 : Int) ≤ (k : Int) := by omega
        have hix := idx58 z P hk
        go_wp2_with (first | (at_builtin; go_loud (refine wpList_append_own _ rfl _ _ 33 rfl (w.heap.size + 1) 3 i0 (.int .i64 0) 1 8 Try.underlying33 hi hz0 hz1 hz2 rfl (by decide) _ _ _ rfl (O.out.own.alloc _) ⟨wr.heap.size, 0, none⟩ 1 1 [.int .i64 ((z.l k).length : Int)] rfl rfl (cell_one_new _ _ _) (ints_oneCell .i64 [((z.l k).length : Int)]) (by simp only [lens_len, maxLen]; omega) (by simp only [lens_len]; omega) (by have := O.out.size; simp; omega) ?_); intro v' w2 hown hgrow hnil; have O := Kp.mk (O.out.more hown hgrow); clear hown hgrow hnil))
        exact ⟨⟨k + 1, by omega, by congr 1, by rw [lens_succ]; exact O⟩, by simp only [intOf]; omega⟩
      · obtain rfl : k = 5 := by omega
        obtain ⟨A, c, rfl, hA⟩ := O.out.ends (by simp [lens]) (by simp [lens])
        rw [lens_len]
        have HA := Kp.mk hA
        clear hA
        go_wp2_with fail
        go_returns
        exact ⟨⟨A, ⟨c, rfl⟩, HA.out⟩, O.out.below0⟩
  · go_wp2_with (first | ((with_reducible refine gate_dst (N := 8) rfl ?_); go_must (refine wpList_load_zone rfl I0.out.blk 1 rfl rfl ?_)) | (go_at_call 56; refine (check56 z P _ I0.out.ints).mono ?_; rintro e w1 ⟨rfl, hb⟩; rw [← HS.out]; have I1 := Kp.mk (I0.out.next hb); clear hb))
    go_returns
    exact ⟨fun _ => rfl, fun h => absurd h h0, I1.out.below⟩
set_option maxRecDepth 100000 in
set_option maxHeartbeats 4000000 in
theorem blocks29 (z : Zn) (P : Pl) (w : World) (hl : ∀ k, k < 5 → IntsAt w (P.A k) (z.l k)) : Calls Try.prog 29 #[ZV z P] w fun e w' =>
    (chkZ z ≠ 0 → e = .returned (.tuple #[.slice none 0 0, .int .i64 (chkZ z)])) ∧ (chkZ z = 0 → ∃ A c, e = .returned (.tuple #[.slice A 5 c, .int .i64 0]) ∧ IntsAt w' A (lens z 5)) ∧ Below w.heap.size w w' := by
  have I0 := Kp.mk (ZM.start hl)
  clear hl
  obtain ⟨s, hs⟩ : ∃ s, s = chkZ z := ⟨_, rfl⟩
  rw [← hs]
  have HS := Kp.mk hs
  clear hs
  unfold ZV
  go_enter Try.func29, Try.ntmps29
  by_cases h0 : s = 0
  · subst h0
    go_wp2_with (first | ((with_reducible refine gate_dst (N := 7) rfl ?_); go_must (refine wpList_load_zone rfl I0.out.blk 1 rfl rfl ?_)) | (go_at_call 57; refine (check57 z P _ I0.out.ints).mono ?_; rintro e w1 ⟨rfl, hb⟩; rw [← HS.out]; have I1 := Kp.mk (I0.out.next hb); have HB := Kp.mk (hb.mono (show w.heap.size + 1 ≤ _ by simp)); clear hb))
    have O := Kp.mk (OW.start I1.out HB.out)
    clear I0 HB
    obtain ⟨i0, hi, hz0, hz1, hz2⟩ := info_parts infoE3
    go_loopw [5, 6] (fun v i W => ∃ k : Nat, k ≤ 5 ∧ i = .int .i64 k ∧ Kp (OW z P w v (lens z k) W)) (fun v i _ => 5 - (intOf i).toNat)
    case atStart => exact ⟨0, by omega, rfl, O⟩
    case round =>
      clear O I1
      obtain ⟨k, hk5, rfl, O⟩ := hrel
      by_cases hk : k < 5
      · have hki : (k : Int) < 5 := by omega
        have hkp : (0 : Int) ≤ (k : Int) := by omega
        have c0 := O.out.list hk
        go_wp2_with (first | ((with_reducible refine gate_dst (N := 23) rfl ?_); at_builtin; go_loud (refine wpList_append_own _ rfl _ _ 33 rfl (w.heap.size + 1) 3 i0 (.int .i64 0) 1 8 Try.underlying33 hi hz0 hz1 hz2 rfl (by decide) _ _ _ rfl (O.out.own.alloc _) ⟨wr.heap.size, 0, none⟩ 1 1 [.int .i64 ((z.l k).length : Int)] rfl rfl (cell_one_new _ _ _) (ints_oneCell .i64 [((z.l k).length : Int)]) (by simp only [lens_len, maxLen]; omega) (by simp only [lens_len]; omega) (by have := O.out.size; simp; omega) ?_); intro v' w2 hown hgrow hnil; have O := Kp.mk (O.out.more hown hgrow); clear hown hgrow hnil))
        exact ⟨⟨k + 1, by omega, by congr 1, by rw [lens_succ]; exact O⟩, by simp only [intOf]; omega⟩
      · obtain rfl : k = 5 := by omega
        obtain ⟨A, c, rfl, hA⟩ := O.out.ends (by simp [lens]) (by simp [lens])
        rw [lens_len]
        have HA := Kp.mk hA
        clear hA
        go_wp2_with fail
        go_returns
        exact ⟨⟨A, ⟨c, rfl⟩, HA.out⟩, O.out.below0⟩
  · go_wp2_with (first | ((with_reducible refine gate_dst (N := 7) rfl ?_); go_must (refine wpList_load_zone rfl I0.out.blk 1 rfl rfl ?_)) | (go_at_call 57; refine (check57 z P _ I0.out.ints).mono ?_; rintro e w1 ⟨rfl, hb⟩; rw [← HS.out]; have I1 := Kp.mk (I0.out.next hb); clear hb))
    go_returns
    exact ⟨fun _ => rfl, fun h => absurd h h0, I1.out.below⟩
end Go.Proofs.Ytmomcelnfljnmaa
