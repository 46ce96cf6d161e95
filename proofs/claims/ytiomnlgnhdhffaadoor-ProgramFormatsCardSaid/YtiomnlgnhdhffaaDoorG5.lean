/-
  The walk of the statement ProgramFormats. Conditions: the argument's row lies as said; the table reads as listed.
-/
import Derived.Test.YtiomnlgnhdhffaaDoorF8
import Derived.Test.YtiomnlgnhdhffaaDoorR4
namespace Go.Proofs.YtiomnlgnhdhffaaDoor
open Go.RowKit
set_option linter.unusedVariables false
set_option maxRecDepth 100000 in
set_option maxHeartbeats 4000000 in
theorem law5 (A : Option Addr) (xs : List Ins) (cap : Nat) (w : World) (hT : Tb w.heap.size w) (hx : InsAt w A xs) (hn : xs.length ≤ 4611686018427387904) :
    Calls Tryd.prog 5 #[.slice A xs.length cap] w fun e w' => e = .returned (.bool true) ∧ Below w.heap.size w w' := by
  have HT := Kp.mk hT
  have HX := Kp.mk hx
  clear hT hx
  by_cases h60 : 60 < xs.length
  · have hd : decide ((xs.length : Int) > 60) = true := by simp; omega
    go_enter Tryd.func5, Tryd.ntmps5
    go_wp2_with fail
    refine (awake10 _ HT.out (Nat.le_refl _)).mono ?_
    rintro e w1 ⟨rfl, hb⟩
    have HB := Kp.mk hb
    clear hb
    go_wp2
    go_ret
    exact ⟨rfl, HB.out⟩
  · have hd : decide ((xs.length : Int) > 60) = false := by simp; omega
    go_enter Tryd.func5, Tryd.ntmps5
    go_wp2_with fail
    refine (format16 A xs cap _ HT.out (Nat.le_refl _) HX.out hn).mono ?_
    rintro e w1 ⟨rfl, hb⟩
    have HB := Kp.mk hb
    have HX := Kp.mk (HX.out.below hb)
    clear hb
    go_wp2_with fail
    refine (format17 A xs cap _ (HT.out.on (Nat.le_refl _) HB.out) HB.out.size HX.out hn).mono ?_
    rintro e w2 ⟨rfl, hb⟩
    have HB := Kp.mk (HB.out.trans (hb.mono HB.out.size))
    clear hb
    generalize formatT xs = r
    obtain ⟨t, c⟩ := r
    go_wp2_with fail
    refine (awake10 _ (HT.out.on (Nat.le_refl _) HB.out) HB.out.size).mono ?_
    rintro e w5 ⟨rfl, hb⟩
    have HB := Kp.mk (HB.out.trans (hb.mono HB.out.size))
    clear hb
    go_wp2
    go_ret
    exact ⟨rfl, HB.out⟩
end Go.Proofs.YtiomnlgnhdhffaaDoor
