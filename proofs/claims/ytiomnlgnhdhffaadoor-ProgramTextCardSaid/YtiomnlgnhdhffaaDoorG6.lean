/-
  The walks of the statements ProgramBack and ProgramText. Conditions: the argument's row lies as said; the table reads as listed.
-/
import Derived.Test.YtiomnlgnhdhffaaDoorF8
import Derived.Test.YtiomnlgnhdhffaaDoorV3
import Derived.Test.YtiomnlgnhdhffaaDoorSm
namespace Go.Proofs.YtiomnlgnhdhffaaDoor
open Go.RowKit
set_option linter.unusedVariables false
set_option maxRecDepth 100000 in
set_option maxHeartbeats 4000000 in
theorem law6 (A : Option Addr) (xs : List Ins) (cap : Nat) (w : World) (hT : Tb w.heap.size w) (hx : InsAt w A xs) (hn : xs.length ≤ 4611686018427387904) :
    Calls Tryd.prog 6 #[.slice A xs.length cap] w fun e w' => e = .returned (.bool true) ∧ Below w.heap.size w w' := by
  have HT := Kp.mk hT
  have HX := Kp.mk hx
  clear hT hx
  by_cases h60 : 60 < xs.length
  · have hd : decide ((xs.length : Int) > 60) = true := by simp; omega
    go_enter Tryd.func6, Tryd.ntmps6
    go_wp2_with fail
    refine (awake10 _ HT.out (Nat.le_refl _)).mono ?_
    rintro e w1 ⟨rfl, hb⟩
    have HB := Kp.mk hb
    clear hb
    go_wp2
    go_ret
    exact ⟨rfl, HB.out⟩
  · have hd : decide ((xs.length : Int) > 60) = false := by simp; omega
    go_enter Tryd.func6, Tryd.ntmps6
    go_wp2_with fail
    refine (format16 A xs cap _ HT.out (Nat.le_refl _) HX.out hn).mono ?_
    rintro e w1 ⟨rfl, hb⟩
    have HB := Kp.mk hb
    have HX := Kp.mk (HX.out.below hb)
    clear hb
    by_cases hc : chkP xs = 0
    · have HF := Kp.mk (par_fmt hc)
      have HC := Kp.mk hc
      rw [show formatT xs = (fmtT xs, 0) by rw [formatT, if_pos hc]]
      clear hc
      have P1 := parse13 (fmtT xs) w1
      unfold ParPost at P1
      rw [HF.out] at P1
      have P1 := Kp.mk P1
      generalize fmtT xs = t at P1 ⊢
      clear HF
      go_wp2_with fail
      refine P1.out.mono ?_
      rintro e w2 ⟨A2, cap2, rfl, hA2, hc2, hb⟩
      have HB := Kp.mk (HB.out.trans (hb.mono HB.out.size))
      have HX := Kp.mk (HX.out.below hb)
      have HA := Kp.mk hA2
      clear hA2 hb P1
      go_wp2_with fail
      refine (same15 A2 A xs cap2 cap _ HA.out HX.out hn).mono ?_
      rintro e w3 ⟨rfl, hb⟩
      have HB := Kp.mk (HB.out.trans (hb.mono HB.out.size))
      have HX := Kp.mk (HX.out.below hb)
      clear hb
      go_wp2_with fail
      refine (check11 A xs cap _ HX.out hn).mono ?_
      rintro e w4 ⟨rfl, hb⟩
      have HB := Kp.mk (HB.out.trans (hb.mono HB.out.size))
      clear hb
      rw [HC.out]
      go_wp2_with fail
      refine (awake10 _ (HT.out.on (Nat.le_refl _) HB.out) HB.out.size).mono ?_
      rintro e w5 ⟨rfl, hb⟩
      have HB := Kp.mk (HB.out.trans (hb.mono HB.out.size))
      clear hb
      go_wp2
      go_ret
      exact ⟨rfl, HB.out⟩
    · have C := check11 A xs cap w1 HX.out hn
      rw [show formatT xs = (⟨#[]⟩, chkP xs) by rw [formatT, if_neg hc]]
      generalize chkP xs = c at hc C ⊢
      have C := Kp.mk C
      have hc' : (c != 0) = true := by simpa using hc
      go_wp2_with fail
      refine C.out.mono ?_
      rintro e w4 ⟨rfl, hb⟩
      have HB := Kp.mk (HB.out.trans (hb.mono HB.out.size))
      clear hb C
      go_wp2_with fail
      refine (awake10 _ (HT.out.on (Nat.le_refl _) HB.out) HB.out.size).mono ?_
      rintro e w5 ⟨rfl, hb⟩
      have HB := Kp.mk (HB.out.trans (hb.mono HB.out.size))
      clear hb
      go_wp2
      go_ret
      exact ⟨rfl, HB.out⟩

set_option maxRecDepth 100000 in
set_option maxHeartbeats 4000000 in
theorem law7 (s : ByteArray) (w : World) (hT : Tb w.heap.size w) :
    Calls Tryd.prog 7 #[.string s] w fun e w' => e = .returned (.bool true) ∧ Below w.heap.size w w' := by
  have HT := Kp.mk hT
  clear hT
  by_cases h41 : 4100 < s.size
  · have hd : decide ((s.size : Int) > 4100) = true := by simp; omega
    go_enter Tryd.func7, Tryd.ntmps7
    go_wp2_with fail
    refine (awake10 _ HT.out (Nat.le_refl _)).mono ?_
    rintro e w1 ⟨rfl, hb⟩
    have HB := Kp.mk hb
    clear hb
    go_wp2
    go_ret
    exact ⟨rfl, HB.out⟩
  · have hd : decide ((s.size : Int) > 4100) = false := by simp; omega
    have P1 := parse13 s w
    have ho := par_ok s
    unfold ParPost at P1
    generalize parT s = r at P1 ho
    obtain ⟨xs, n, c⟩ := r
    simp only at P1 ho
    have P1 := Kp.mk P1
    have HO := Kp.mk ho
    clear ho
    go_enter Tryd.func7, Tryd.ntmps7
    go_wp2_with fail
    refine P1.out.mono ?_
    rintro e w1 ⟨A, cap, rfl, hA, hcap, hb⟩
    have HB := Kp.mk hb
    have HX := Kp.mk hA
    clear hb hA P1
    by_cases hc : c = 0
    · have hck := HO.out.1 hc
      have HC := Kp.mk hck
      have HF := Kp.mk (par_fmt hck)
      have HFo := Kp.mk (show formatT xs = (fmtT xs, 0) by rw [formatT, if_pos hck])
      have hlen : xs.length ≤ 48 := by
        by_cases h48 : 48 < xs.length
        · simp [chkP, h48] at hck
        · omega
      subst hc
      clear hck HO
      go_wp2_with fail
      have F1 := format16 A xs cap w1 (HT.out.on (Nat.le_refl _) HB.out) HB.out.size HX.out (by omega)
      rw [HFo.out] at F1
      refine F1.mono ?_
      clear F1
      rintro e w2 ⟨rfl, hb⟩
      have HB := Kp.mk (HB.out.trans (hb.mono HB.out.size))
      have HX := Kp.mk (HX.out.below hb)
      clear hb
      have P1 := parse13 (fmtT xs) w2
      unfold ParPost at P1
      rw [HF.out] at P1
      have P1 := Kp.mk P1
      clear HF
      obtain ⟨t, ht⟩ : ∃ t, t = fmtT xs := ⟨_, rfl⟩
      rw [← ht] at P1 ⊢
      have HTt := Kp.mk ht
      clear ht
      go_wp2_with fail
      refine P1.out.mono ?_
      rintro e w3 ⟨A2, cap2, rfl, hA2, hc2, hb⟩
      have HB := Kp.mk (HB.out.trans (hb.mono HB.out.size))
      have HX := Kp.mk (HX.out.below hb)
      have HA := Kp.mk hA2
      clear hA2 hb P1
      go_wp2_with fail
      have F1 := format16 A2 xs cap2 w3 (HT.out.on (Nat.le_refl _) HB.out) HB.out.size HA.out (by omega)
      rw [HFo.out, ← HTt.out] at F1
      refine F1.mono ?_
      clear F1
      rintro e w4 ⟨rfl, hb⟩
      have HB := Kp.mk (HB.out.trans (hb.mono HB.out.size))
      have HX := Kp.mk (HX.out.below hb)
      have HA := Kp.mk (HA.out.below hb)
      clear hb
      go_wp2_with fail
      refine (same15 A A2 xs cap cap2 _ HX.out HA.out (by omega)).mono ?_
      rintro e w5 ⟨rfl, hb⟩
      have HB := Kp.mk (HB.out.trans (hb.mono HB.out.size))
      have HX := Kp.mk (HX.out.below hb)
      clear hb
      go_wp2_with fail
      refine (check11 A xs cap _ HX.out (by omega)).mono ?_
      rintro e w6 ⟨rfl, hb⟩
      have HB := Kp.mk (HB.out.trans (hb.mono HB.out.size))
      clear hb
      rw [HC.out]
      go_wp2_with fail
      refine (awake10 _ (HT.out.on (Nat.le_refl _) HB.out) HB.out.size).mono ?_
      rintro e w7 ⟨rfl, hb⟩
      have HB := Kp.mk (HB.out.trans (hb.mono HB.out.size))
      clear hb
      go_wp2
      go_ret
      exact ⟨rfl, HB.out⟩
    · obtain rfl := HO.out.2 hc
      clear HO
      have hc' : (c != 0) = true := by simpa using hc
      go_wp2_with fail
      refine (awake10 _ (HT.out.on (Nat.le_refl _) HB.out) HB.out.size).mono ?_
      rintro e w7 ⟨rfl, hb⟩
      have HB := Kp.mk (HB.out.trans (hb.mono HB.out.size))
      clear hb
      go_wp2
      go_ret
      exact ⟨rfl, HB.out⟩
end Go.Proofs.YtiomnlgnhdhffaaDoor
