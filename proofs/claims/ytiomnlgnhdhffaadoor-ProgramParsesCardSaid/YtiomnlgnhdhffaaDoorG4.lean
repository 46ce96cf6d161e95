/-
  The walk of the statement ProgramParses. Conditions: the table reads as listed.
-/
import Derived.Test.YtiomnlgnhdhffaaDoorF8
import Derived.Test.YtiomnlgnhdhffaaDoorT12
import Derived.Test.YtiomnlgnhdhffaaDoorSm
namespace Go.Proofs.YtiomnlgnhdhffaaDoor
open Go.RowKit
set_option linter.unusedVariables false
theorem par_le (t : ByteArray) : (parT t).1.length ≤ 48 := by
  by_cases h : (parT t).2.2 = 0
  · have := (par_ok t).1 h
    by_cases h48 : 48 < (parT t).1.length
    · simp [chkP, h48] at this
    · omega
  · rw [(par_ok t).2 h]; simp
set_option maxRecDepth 100000 in
set_option maxHeartbeats 4000000 in
theorem law4 (s : ByteArray) (w : World) (hT : Tb w.heap.size w) :
    Calls Tryd.prog 4 #[.string s] w fun e w' => e = .returned (.bool true) ∧ Below w.heap.size w w' := by
  have HT := Kp.mk hT
  clear hT
  by_cases h41 : 4100 < s.size
  · have hd : decide ((s.size : Int) > 4100) = true := by simp; omega
    go_enter Tryd.func4, Tryd.ntmps4
    go_wp2_with fail
    refine (awake10 _ HT.out (Nat.le_refl _)).mono ?_
    rintro e w1 ⟨rfl, hb⟩
    have HB := Kp.mk hb
    clear hb
    go_wp2
    go_ret
    exact ⟨rfl, HB.out⟩
  · have hd : decide ((s.size : Int) > 4100) = false := by simp; omega
    have P1 := parse13 s w
    have P2 := fun W => parse14 s W
    have hl := par_le s
    unfold ParPost at P1 P2
    generalize parT s = r at P1 P2 hl
    obtain ⟨xs, n, c⟩ := r
    simp only at P1 P2 hl
    have P1 := Kp.mk P1
    have P2 := Kp.mk P2
    go_enter Tryd.func4, Tryd.ntmps4
    go_wp2_with fail
    refine P1.out.mono ?_
    rintro e w1 ⟨A, cap, rfl, hA, hcap, hb⟩
    have HB := Kp.mk hb
    have HX := Kp.mk hA
    clear hb hA P1
    go_wp2_with fail
    refine (P2.out _).mono ?_
    rintro e w2 ⟨A2, cap2, rfl, hA, hcap2, hb⟩
    have HB := Kp.mk (HB.out.trans (hb.mono HB.out.size))
    have HX := Kp.mk (HX.out.below hb)
    have HY := Kp.mk hA
    clear hb hA P2
    go_wp2_with fail
    refine (same15 A A2 xs cap cap2 _ HX.out HY.out (by omega)).mono ?_
    rintro e w5 ⟨rfl, hb⟩
    have HB := Kp.mk (HB.out.trans (hb.mono HB.out.size))
    clear hb
    go_wp2_with fail
    refine (awake10 _ (HT.out.on (Nat.le_refl _) HB.out) HB.out.size).mono ?_
    rintro e w7 ⟨rfl, hb⟩
    have HB := Kp.mk (HB.out.trans (hb.mono HB.out.size))
    clear hb
    go_wp2
    go_ret
    exact ⟨rfl, HB.out⟩
end Go.Proofs.YtiomnlgnhdhffaaDoor
