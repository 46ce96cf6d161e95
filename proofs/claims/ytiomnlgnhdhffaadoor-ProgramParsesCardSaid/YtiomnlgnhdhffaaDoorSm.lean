/-
  The reference's Same at equal programs. Conditions: both rows lie as said.
-/
import Derived.Test.YtiomnlgnhdhffaaDoorEq
import Derived.Test.YtiomnlgnhdhffaaDoorB5
namespace Go.Proofs.YtiomnlgnhdhffaaDoor
open Go.RowKit
set_option linter.unusedVariables false
set_option linter.unusedSimpArgs false

set_option maxRecDepth 100000 in
set_option maxHeartbeats 4000000 in
theorem same15 (A A' : Option Addr) (xs : List Ins) (cap cap' : Nat) (w : World) (hx : InsAt w A xs) (hx' : InsAt w A' xs) (hn : xs.length ≤ 4611686018427387904) :
    Calls Tryd.prog 15 #[.slice A xs.length cap, .slice A' xs.length cap'] w fun e w' => e = .returned (.bool true) ∧ Below w.heap.size w w' := by
  have HX := Kp.mk hx
  have HX' := Kp.mk hx'
  clear hx hx'
  go_enter Tryd.func15, Tryd.ntmps15
  go_wp2_with fail
  go_loopw [5] (fun i W => ∃ k : Nat, k ≤ xs.length ∧ i = .int .i64 k ∧ Kp (Below w.heap.size w W)) (fun i _ => xs.length - (intOf i).toNat)
  case atStart => exact ⟨0, by omega, rfl, ⟨Below.refl _ _⟩⟩
  case round =>
    obtain ⟨k, hk, rfl, HB⟩ := hrel
    by_cases hlt : k < xs.length
    · obtain ⟨b, off, rfl, hbl, hr⟩ := (HX.out.below HB.out) (by rintro rfl; simp at hlt)
      obtain ⟨b', off', rfl, hbl', hr'⟩ := (HX'.out.below HB.out) (by rintro rfl; simp at hlt)
      have hxk : xs[k]? = some xs[k] := by simp [hlt]
      have HR := Kp.mk (hr k _ hxk)
      have HR' := Kp.mk (hr' k _ hxk)
      generalize xs[k] = x at HR HR'
      clear hr hr' hxk
      obtain ⟨x0, x1, x2, x3, x4, x5, x6, x7⟩ := x
      have HR := Kp.mk (show wr.rangeAt b (off + k * 8) [.int .i64 x0, .int .i64 x1, .int .i64 x2, .int .i64 x3, .int .i64 x4, .int .i64 x5, .int .i64 x6, .int .i64 x7] from HR.out)
      have HR' := Kp.mk (show wr.rangeAt b' (off' + k * 8) [.int .i64 x0, .int .i64 x1, .int .i64 x2, .int .i64 x3, .int .i64 x4, .int .i64 x5, .int .i64 x6, .int .i64 x7] from HR'.out)
      have hlt' : (k : Int) < xs.length := by omega
      have hk0 : (0 : Int) ≤ k := by omega
      have e0 : wr.cell? ⟨b, off + k * 8, none⟩ = some (.int .i64 x0) := by simpa using HR.out 0 _ rfl
      have e1 : wr.cell? ⟨b, off + k * 8 + 1, none⟩ = some (.int .i64 x1) := HR.out 1 _ rfl
      have e2 : wr.cell? ⟨b, off + k * 8 + 2, none⟩ = some (.int .i64 x2) := HR.out 2 _ rfl
      have e3 : wr.cell? ⟨b, off + k * 8 + 3, none⟩ = some (.int .i64 x3) := HR.out 3 _ rfl
      have e4 : wr.cell? ⟨b, off + k * 8 + 4, none⟩ = some (.int .i64 x4) := HR.out 4 _ rfl
      have e5 : wr.cell? ⟨b, off + k * 8 + 5, none⟩ = some (.int .i64 x5) := HR.out 5 _ rfl
      have e6 : wr.cell? ⟨b, off + k * 8 + 6, none⟩ = some (.int .i64 x6) := HR.out 6 _ rfl
      have e7 : wr.cell? ⟨b, off + k * 8 + 7, none⟩ = some (.int .i64 x7) := HR.out 7 _ rfl
      have f0 : wr.cell? ⟨b', off' + k * 8, none⟩ = some (.int .i64 x0) := by simpa using HR'.out 0 _ rfl
      have f1 : wr.cell? ⟨b', off' + k * 8 + 1, none⟩ = some (.int .i64 x1) := HR'.out 1 _ rfl
      have f2 : wr.cell? ⟨b', off' + k * 8 + 2, none⟩ = some (.int .i64 x2) := HR'.out 2 _ rfl
      have f3 : wr.cell? ⟨b', off' + k * 8 + 3, none⟩ = some (.int .i64 x3) := HR'.out 3 _ rfl
      have f4 : wr.cell? ⟨b', off' + k * 8 + 4, none⟩ = some (.int .i64 x4) := HR'.out 4 _ rfl
      have f5 : wr.cell? ⟨b', off' + k * 8 + 5, none⟩ = some (.int .i64 x5) := HR'.out 5 _ rfl
      have f6 : wr.cell? ⟨b', off' + k * 8 + 6, none⟩ = some (.int .i64 x6) := HR'.out 6 _ rfl
      have f7 : wr.cell? ⟨b', off' + k * 8 + 7, none⟩ = some (.int .i64 x7) := HR'.out 7 _ rfl
      have hne : ∀ W, (binOp .neq 36 (insV x0 x1 x2 x3 x4 x5 x6 x7) (insV x0 x1 x2 x3 x4 x5 x6 x7)).run Tryd.prog W = .ok (.bool false) W := by
        intro W
        rw [neq36, show eqB x0 x1 x2 x3 x4 x5 x6 x7 x0 x1 x2 x3 x4 x5 x6 x7 = true by simp [eqB]]
        rfl
      clear HR HR'
      go_wp2_with fail
      go_quiet (fail)
      have HB := Kp.mk (below_drewN HB.out nq)
      clear e0 e1 e2 e3 e4 e5 e6 e7 f0 f1 f2 f3 f4 f5 f6 f7 hne
      go_wp2_with fail
      go_roundw
      case rel => exact ⟨k + 1, by omega, by go_num, HB⟩
      case measure => simp [intOf]; omega
    · obtain rfl : k = xs.length := by omega
      go_wp2_with fail
      go_ret
      exact ⟨rfl, HB.out⟩
end Go.Proofs.YtiomnlgnhdhffaaDoor
