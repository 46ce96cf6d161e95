/-
  The walk of WatermarkCycle. Conditions: none but what each theorem names.
-/
import Derived.Test.YtmomcelnfljnmaaI
namespace Go.Proofs.Ytmomcelnfljnmaa
open Go.RowKit
set_option linter.unusedVariables false

structure LM (w : World) (p : Nat) (a b c : Int) (A : Option Addr) (l : List Int) (W : World) : Prop where
  below : Below w.heap.size w W
  m : C3 W p a b c
  l : IntsAt W A l
theorem LM.next {w W W' : World} {p : Nat} {a b c : Int} {A : Option Addr} {l : List Int} (h : LM w p a b c A l W) (hb : Below W.heap.size W W') : LM w p a b c A l W' :=
  ⟨h.below.trans (hb.mono h.below.size), h.m.next hb, h.l.below hb⟩
theorem LM.start {w : World} {a b c : Int} {A : Option Addr} {l : List Int} (hl : IntsAt w A l) : LM w w.heap.size a b c A l (w.alloc (.cells #[.int .i64 a, .int .i64 b, .int .i64 c] 23)) :=
  ⟨(Below.refl _ _).alloc (Nat.le_refl _) _, heap_at rfl _, hl.below ((Below.refl _ _).alloc (Nat.le_refl _) _)⟩

theorem wak_ok {a b c : Int} (h : chk a b c = 0) (n : Int) (r : Bool) : wak a b c n r = (decide (n < b) || r && decide (n < c)) := by simp [wak, h]

set_option maxRecDepth 100000 in
set_option maxHeartbeats 8000000 in
theorem law8 (A : Option Addr) (l : List Int) (cap : Nat) (a b c : Int) (w : World) (hl : IntsAt w A l) (hcap : l.length ≤ cap) (hn : l.length ≤ 4611686018427387904) :
    Calls Try.prog 8 #[.agg #[.int .i64 a, .int .i64 b, .int .i64 c], .slice A l.length cap] w fun e w' => e = .returned (.bool true) ∧ Below w.heap.size w w' := by
  have I0 := Kp.mk (LM.start (a := a) (b := b) (c := c) hl)
  clear hl
  by_cases h60 : 60 < l.length
  · go_enter Try.func8, Try.ntmps8
    go_wp2_with fail
    refine (awake12 _).mono ?_
    rintro e w1 ⟨rfl, hb⟩
    have I := Kp.mk (I0.out.next hb)
    clear hb I0
    go_wp2_with fail
    refine (awake12 _).mono ?_
    rintro e w2 ⟨rfl, hb⟩
    have I := Kp.mk (I.out.next hb)
    go_wp2
    go_ret
    exact ⟨rfl, I.out.below⟩
  · by_cases hk : chk a b c = 0
    · have hk1 : (chk a b c != 0) = false := by simp [hk]
      obtain ⟨_, _, _, q1, q2⟩ := chk_zero hk
      have HW := Kp.mk (wak_ok hk)
      clear hk
      go_enter Try.func8, Try.ntmps8
      go_wp2_with fail
      refine (awake12 _).mono ?_
      rintro e w1 ⟨rfl, hb⟩
      have I := Kp.mk (I0.out.next hb)
      clear hb I0
      obtain ⟨m0, m1, m2⟩ := I.out.m.c
      go_wp2_with fail
      refine (check15 _ _ _ _).mono ?_
      rintro e w2 ⟨rfl, hb⟩
      have I2 := Kp.mk (I.out.next hb)
      clear hb I m0 m1 m2
      go_wp2_with fail
      go_loopw [5, 25] (fun s i wr => ∃ (k : Nat) (r : Bool), k ≤ l.length ∧ i = .int .i64 k ∧ s = .bool r ∧ Kp (LM w w.heap.size a b c A l wr)) (fun _ i _ => l.length - (intOf i).toNat)
      case atStart => exact ⟨0, false, by omega, rfl, rfl, I2⟩
      case round =>
        clear I2
        obtain ⟨k, r, hkl, rfl, rfl, I⟩ := hrel
        obtain ⟨m0, m1, m2⟩ := I.out.m.c
        by_cases hlt : k < l.length
        · obtain ⟨bb, off, rfl, hc⟩ := I.out.l.cell hlt
          have W1 := Kp.mk (HW.out (g5 l k) r)
          go_wp2_with fail
          refine (wake19 a b c (g5 l k) r _).mono ?_
          rintro e w3 ⟨rfl, hb⟩
          have I3 := Kp.mk (I.out.next hb)
          clear hb hc I m0 m1 m2
          obtain ⟨m0, m1, m2⟩ := I3.out.m.c
          by_cases c1 : g5 l k < b
          · rw [show wak a b c (g5 l k) r = true by rw [W1.out]; simp [c1]]
            have c3 : g5 l k < c := by omega
            clear W1
            go_wp2
            go_roundw
            case rel => exact ⟨k + 1, _, by omega, by go_num, rfl, I3⟩
            case measure => simp [intOf]; omega
          · by_cases c3 : g5 l k < c
            · rw [show wak a b c (g5 l k) r = r by rw [W1.out]; simp [c1, c3]]
              clear W1
              cases r
              · go_wp2
                go_roundw
                case rel => exact ⟨k + 1, _, by omega, by go_num, rfl, I3⟩
                case measure => simp [intOf]; omega
              · go_wp2
                go_roundw
                case rel => exact ⟨k + 1, _, by omega, by go_num, rfl, I3⟩
                case measure => simp [intOf]; omega
            · rw [show wak a b c (g5 l k) r = false by rw [W1.out]; simp [c1, c3]]
              clear W1
              go_wp2
              go_roundw
              case rel => exact ⟨k + 1, _, by omega, by go_num, rfl, I3⟩
              case measure => simp [intOf]; omega
        · go_wp2
          go_ret
          exact ⟨rfl, I.out.below⟩
    · have hk1 : (chk a b c != 0) = true := by simpa using hk
      have HW := Kp.mk (show wak a b c 0 true = false by simp [wak, hk])
      clear hk
      go_enter Try.func8, Try.ntmps8
      go_wp2_with fail
      refine (awake12 _).mono ?_
      rintro e w1 ⟨rfl, hb⟩
      have I := Kp.mk (I0.out.next hb)
      clear hb I0
      obtain ⟨m0, m1, m2⟩ := I.out.m.c
      go_wp2_with fail
      refine (check15 _ _ _ _).mono ?_
      rintro e w2 ⟨rfl, hb⟩
      have I2 := Kp.mk (I.out.next hb)
      clear hb I m0 m1 m2
      obtain ⟨m0, m1, m2⟩ := I2.out.m.c
      go_wp2_with fail
      refine (wakeR false HW.out).mono ?_
      rintro e w3 ⟨rfl, hb⟩
      have I3 := Kp.mk (I2.out.next hb)
      go_wp2
      go_ret
      exact ⟨rfl, I3.out.below⟩
end Go.Proofs.Ytmomcelnfljnmaa
