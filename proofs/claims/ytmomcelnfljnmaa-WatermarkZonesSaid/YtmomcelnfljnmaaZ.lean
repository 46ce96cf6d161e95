/-
  Walk of WatermarkZones. Conditions: none but what each theorem names.
-/
import Derived.Test.YtmomcelnfljnmaaY
import Derived.Test.YtmomcelnfljnmaaG
namespace Go.Proofs.Ytmomcelnfljnmaa
open Go.RowKit
set_option linter.unusedVariables false

/-- Two rows that are compared. -/
structure TW (w0 : World) (A B : Option Addr) (l : List Int) (W : World) : Prop where
  below : Below w0.heap.size w0 W
  a : IntsAt W A l
  b : IntsAt W B l
theorem TW.next {w0 W W' : World} {A B : Option Addr} {l : List Int} (h : TW w0 A B l W) (hb : Below W.heap.size W W') : TW w0 A B l W' :=
  ⟨h.below.trans (hb.mono h.below.size), h.a.below hb, h.b.below hb⟩

set_option maxRecDepth 100000 in
set_option maxHeartbeats 4000000 in
theorem law10 (A : Option Addr) (zs : List (Zn × Pl)) (cap : Nat) (w : World) (hz : ZsAt w A zs) (hln : zs.length ≤ 4611686018427387904) : Calls Try.prog 10 #[.slice A zs.length cap] w fun e w' => e = .returned (.bool true) ∧ Below w.heap.size w w' := by
  have HZ := Kp.mk hz
  clear hz
  by_cases h10 : 10 < zs.length
  · go_enter Try.func10, Try.ntmps10
    go_wp2_with fail
    refine (awake12 _).mono ?_
    rintro e w1 ⟨rfl, hb⟩
    have I0 := Kp.mk hb
    clear hb
    go_wp2_with fail
    refine (awake12 _).mono ?_
    rintro e w2 ⟨rfl, hb⟩
    have I1 := Kp.mk (I0.out.trans (hb.mono I0.out.size))
    clear hb
    go_wp2_with fail
    go_ret
    exact ⟨rfl, I1.out⟩
  · go_enter Try.func10, Try.ntmps10
    go_wp2_with fail
    refine (awake12 _).mono ?_
    rintro e w1 ⟨rfl, hb⟩
    have I0 := Kp.mk hb
    clear hb
    go_wp2_with fail
    go_loopw [26] (fun i W => ∃ j : Nat, j ≤ zs.length ∧ i = .int .i64 j ∧ Kp (Below w.heap.size w W)) (fun i _ => zs.length - (intOf i).toNat)
    case atStart => exact ⟨0, by omega, rfl, I0⟩
    case round =>
      clear I0
      obtain ⟨j, hj, rfl, HB⟩ := hrel
      by_cases hlt : j < zs.length
      · have hj0 : (0 : Int) ≤ (j : Int) := by omega
        have hj1 : (j : Int) < (zs.length : Int) := by omega
        obtain ⟨b, off, z, P, rfl, hzj, hr, hl⟩ := (HZ.out.below HB.out).item hlt
        have HR := Kp.mk hr
        have I := Kp.mk (ZM.start hl)
        clear hr hzj hl
        by_cases hc : chkZ z = 0
        · go_wp2_with (first | ((with_reducible refine gate_dst (N := 29) rfl ?_); go_must (refine wpList_load_elem rfl HR.out 28 rfl rfl ?_)) | ((with_reducible refine gate_dst (N := 4) rfl ?_); go_must (refine wpList_alloc_zone rfl rfl ?_)) | ((with_reducible refine gate_none rfl ?_); go_must (refine wpList_store_zone rfl 4 29 rfl rfl rfl ?_)) | ((with_reducible refine gate_dst (N := 31) rfl ?_); go_must (refine wpList_load_zone rfl I.out.blk 4 rfl rfl ?_)) | (go_at_call 28; refine (blocks28 z P _ I.out.ints).mono ?_; rintro e w2 ⟨_, h2, hb⟩; obtain ⟨A1, c1, rfl, hi1⟩ := h2 hc; have H1 := Kp.mk hi1; have I := Kp.mk (I.out.next hb); clear hb h2 hi1) | ((with_reducible refine gate_dst (N := 36) rfl ?_); go_must (refine wpList_load_zone rfl I.out.blk 4 rfl rfl ?_)) | (go_at_call 29; refine (blocks29 z P _ I.out.ints).mono ?_; rintro e w3 ⟨_, h2, hb⟩; obtain ⟨A2, c2, rfl, hi2⟩ := h2 hc; have H := Kp.mk (TW.mk ((HB.out.trans (I.out.below.mono HB.out.size)).trans (hb.mono (Nat.le_trans HB.out.size I.out.size))) (H1.out.below hb) hi2); clear hb h2 hi2))
          go_loopw [52] (fun i W => ∃ i' : Nat, i' ≤ 5 ∧ i = .int .i64 i' ∧ Kp (TW w A1 A2 (lens z 5) W)) (fun i _ => 5 - (intOf i).toNat)
          case atStart => exact ⟨0, by omega, rfl, H⟩
          case round =>
            clear H H1 I HB
            rename_i lf1 lf2
            obtain ⟨i, hi5, rfl, H⟩ := hrel
            by_cases hi : i < 5
            · have hi0 : (0 : Int) ≤ (i : Int) := by omega
              have hi1 : (i : Int) < 5 := by omega
              obtain ⟨b1, o1, hA1, d1⟩ := H.out.a.cell (o := i) (by rw [lens_len]; exact hi)
              obtain ⟨b2, o2, hA2, d2⟩ := H.out.b.cell (o := i) (by rw [lens_len]; exact hi)
              rw [hA1, hA2]
              generalize g5 (lens z 5) i = gv at d1 d2
              go_wp2_with fail
              go_quiet (fail)
              have H := Kp.mk (H.out.next (below_drewN (Below.refl _ _) nq))
              go_wp2_with fail
              exact ⟨⟨i + 1, by omega, by congr 1, by rw [← hA1, ← hA2]; exact H⟩, by simp only [intOf]; omega⟩
            · have hB := Kp.mk H.out.below
              go_wp2_with fail
              go_roundw
              case rel => exact ⟨j + 1, by omega, by go_num, hB⟩
              case measure => simp [intOf]; omega
        · go_wp2_with (first | ((with_reducible refine gate_dst (N := 29) rfl ?_); go_must (refine wpList_load_elem rfl HR.out 28 rfl rfl ?_)) | ((with_reducible refine gate_dst (N := 4) rfl ?_); go_must (refine wpList_alloc_zone rfl rfl ?_)) | ((with_reducible refine gate_none rfl ?_); go_must (refine wpList_store_zone rfl 4 29 rfl rfl rfl ?_)) | ((with_reducible refine gate_dst (N := 31) rfl ?_); go_must (refine wpList_load_zone rfl I.out.blk 4 rfl rfl ?_)) | (go_at_call 28; refine (blocks28 z P _ I.out.ints).mono ?_; rintro e w2 ⟨h2, _, hb⟩; obtain rfl := h2 hc; have I := Kp.mk (I.out.next hb); clear hb h2) | ((with_reducible refine gate_dst (N := 36) rfl ?_); go_must (refine wpList_load_zone rfl I.out.blk 4 rfl rfl ?_)) | (go_at_call 29; refine (blocks29 z P _ I.out.ints).mono ?_; rintro e w3 ⟨h2, _, hb⟩; obtain rfl := h2 hc; have I := Kp.mk (I.out.next hb); clear hb h2))
          have hB := Kp.mk (HB.out.trans (I.out.below.mono HB.out.size))
          refine wp_loop_rounds 1 ?_
          rw [rounds_succ]
          go_wp2_with fail
          exact ⟨⟨j + 1, by omega, by congr 1, hB⟩, by simp only [intOf]; omega⟩
      · go_wp2_with (first | (go_at_call 30; refine (reserve30 _ zs cap _ (HZ.out.below HB.out) (by omega)).mono ?_; rintro e w2 ⟨rfl, hb⟩; have HB := Kp.mk (HB.out.trans (hb.mono HB.out.size)); clear hb; unfold tri) | (go_at_call 31; refine (reserve31 _ zs cap _ (HZ.out.below HB.out) (by omega)).mono ?_; rintro e w3 ⟨rfl, hb⟩; have HB := Kp.mk (HB.out.trans (hb.mono HB.out.size)); clear hb; unfold tri))
        go_ret
        exact ⟨by simp, HB.out⟩
end Go.Proofs.Ytmomcelnfljnmaa
