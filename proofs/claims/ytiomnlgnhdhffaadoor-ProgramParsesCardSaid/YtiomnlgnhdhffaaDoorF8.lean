/-
  awake: the fixed examples with which every statement of this package ends. Conditions: the table reads as listed.
-/
import Derived.Test.YtiomnlgnhdhffaaDoorF7
import Derived.Test.YtiomnlgnhdhffaaDoorP6
import Derived.Test.YtiomnlgnhdhffaaDoorEq
namespace Go.Proofs.YtiomnlgnhdhffaaDoor
open Go.RowKit
set_option linter.unusedVariables false

def L1 : List Ins := [⟨1, -1, 4, 2, 0, 1, 3, 1⟩, ⟨1, 8, 1, 0, 0, -1, 1, 0⟩, ⟨4, 8, 1, 0, 0, 0, 0, 0⟩, ⟨12, 0, 0, 0, 0, 0, 0, 0⟩]
set_option maxRecDepth 100000 in
theorem par1 : parT ⟨([109, 97, 112, 32, 97, 110, 121, 32, 52, 32, 114, 119, 32, 115, 104, 97, 114, 101, 100, 32, 102, 105, 108, 101, 32, 49, 32, 50, 10, 35, 32, 110].append [111, 110, 101, 10, 32, 32, 109, 97, 112, 32, 56, 32, 49, 32, 32, 114, 32, 10, 117, 110, 108, 111, 99, 107, 32, 56, 32, 49, 10, 101, 120, 105, 116]).toArray⟩ = (L1, 0, 0) := by decide +kernel
theorem par2 : parT ⟨#[101, 120, 105, 116, 10, 115, 116, 111, 114, 101, 32, 56, 32, 51, 50, 32, 50, 53, 53]⟩ = ([], 2, 2) := by decide +kernel
theorem par3 : parT ⟨#[115, 116, 111, 114, 101, 32, 56, 32, 48, 51, 49, 32, 50, 53, 53]⟩ = ([], 1, 4) := by decide +kernel
theorem chk1 : chkP L1 = 0 := by decide +kernel
theorem chk2 : chkP [⟨12, 0, 0, 0, 0, -1, 0, 0⟩] = 1 := by decide +kernel
theorem num1 {n : Nat} (h : n < 10) : numT (n : Int) = ⟨#[UInt8.ofNat (48 + n)]⟩ := by
  unfold numT Lib.itoa
  rw [if_neg (by omega), Lib.decDigits, dif_pos (by simpa using h)]
  simp [bstr]
theorem fmt1 : fmtT L1 = ⟨#[109, 97, 112, 32, 97, 110, 121, 32, 52, 32, 114, 119, 32, 115, 104, 97, 114, 101, 100, 32, 102, 105, 108, 101, 32, 49, 32, 50, 10, 109, 97, 112, 32, 56, 32, 49, 32, 114, 10, 117, 110, 108, 111, 99, 107, 32, 56, 32, 49, 10, 101, 120, 105, 116, 10]⟩ := by
  have n1 : numT 1 = ⟨#[49]⟩ := num1 (n := 1) (by decide)
  have n2 : numT 2 = ⟨#[50]⟩ := num1 (n := 2) (by decide)
  have n4 : numT 4 = ⟨#[52]⟩ := num1 (n := 4) (by decide)
  have n8 : numT 8 = ⟨#[56]⟩ := num1 (n := 8) (by decide)
  have l1 : lineT ⟨1, -1, 4, 2, 0, 1, 3, 1⟩ = ⟨#[109, 97, 112, 32, 97, 110, 121, 32, 52, 32, 114, 119, 32, 115, 104, 97, 114, 101, 100, 32, 102, 105, 108, 101, 32, 49, 32, 50]⟩ := by
    have : mapT ⟨1, -1, 4, 2, 0, 1, 3, 1⟩ = flT 1 (((⟨#[]⟩ : ByteArray) ++ ⟨#[109, 97, 112, 32]⟩ ++ pageT (-1)) ++ (⟨#[32]⟩ ++ numT 4 ++ ⟨#[32]⟩ ++ protT 3)) 4 ++ (⟨#[32, 102, 105, 108, 101, 32]⟩ ++ numT 1 ++ ⟨#[32]⟩ ++ numT 2) := rfl
    rw [lineT, if_pos rfl, this, n1, n2, n4]
    decide +kernel
  have l2 : lineT ⟨1, 8, 1, 0, 0, -1, 1, 0⟩ = ⟨#[109, 97, 112, 32, 56, 32, 49, 32, 114]⟩ := by
    have : mapT ⟨1, 8, 1, 0, 0, -1, 1, 0⟩ = flT 0 (((⟨#[]⟩ : ByteArray) ++ ⟨#[109, 97, 112, 32]⟩ ++ numT 8) ++ (⟨#[32]⟩ ++ numT 1 ++ ⟨#[32]⟩ ++ protT 1)) 4 := rfl
    rw [lineT, if_pos rfl, this, n1, n8]
    decide +kernel
  have l3 : lineT ⟨4, 8, 1, 0, 0, 0, 0, 0⟩ = ⟨#[117, 110, 108, 111, 99, 107, 32, 56, 32, 49]⟩ := by
    have : lineT ⟨4, 8, 1, 0, 0, 0, 0, 0⟩ = ⟨#[117, 110, 108, 111, 99, 107]⟩ ++ (⟨#[32]⟩ ++ numT 8) ++ (⟨#[32]⟩ ++ numT 1) := rfl
    rw [this, n1, n8]
    decide +kernel
  have l4 : lineT ⟨12, 0, 0, 0, 0, 0, 0, 0⟩ = ⟨#[101, 120, 105, 116]⟩ := rfl
  simp only [fmtT, L1, List.foldl_cons, List.foldl_nil, l1, l2, l3, l4]
  decide +kernel
theorem format1 : formatT L1 = (⟨#[109, 97, 112, 32, 97, 110, 121, 32, 52, 32, 114, 119, 32, 115, 104, 97, 114, 101, 100, 32, 102, 105, 108, 101, 32, 49, 32, 50, 10, 109, 97, 112, 32, 56, 32, 49, 32, 114, 10, 117, 110, 108, 111, 99, 107, 32, 56, 32, 49, 10, 101, 120, 105, 116, 10]⟩, 0) := by rw [formatT, if_pos chk1, fmt1]

set_option maxRecDepth 100000 in
set_option maxHeartbeats 4000000 in
theorem awake10 {B : Nat} (w : World) (hT : Tb B w) (hB : B ≤ w.heap.size) :
    Calls Tryd.prog 10 #[] w fun e w' => e = .returned (.bool true) ∧ Below w.heap.size w w' := by
  have HT := Kp.mk hT
  clear hT
  have P1 := parse13 ⟨([109, 97, 112, 32, 97, 110, 121, 32, 52, 32, 114, 119, 32, 115, 104, 97, 114, 101, 100, 32, 102, 105, 108, 101, 32, 49, 32, 50, 10, 35, 32, 110].append [111, 110, 101, 10, 32, 32, 109, 97, 112, 32, 56, 32, 49, 32, 32, 114, 32, 10, 117, 110, 108, 111, 99, 107, 32, 56, 32, 49, 10, 101, 120, 105, 116]).toArray⟩ w
  unfold ParPost at P1
  rw [par1] at P1
  have P1 := Kp.mk P1
  go_enter Tryd.func10, Tryd.ntmps10
  go_wp2_with fail
  refine P1.out.mono ?_
  rintro e w1 ⟨A, cap, rfl, hA, hcap, hb⟩
  have HA := Kp.mk hA
  have HB := Kp.mk hb
  clear hA hb P1
  have hl : L1.length = 4 := rfl
  have F1 := format16 (B := B) A L1 cap w1 (HT.out.on hB HB.out) (Nat.le_trans hB HB.out.size) HA.out (by decide)
  rw [format1] at F1
  rw [hl] at F1 hcap
  have F1 := Kp.mk F1
  rw [hl]
  go_wp2_with fail
  refine F1.out.mono ?_
  rintro e w2 ⟨rfl, hb⟩
  have HA := Kp.mk (HA.out.below hb)
  have HB := Kp.mk (HB.out.trans (hb.mono HB.out.size))
  clear hb F1
  have P2 := parse13 ⟨#[101, 120, 105, 116, 10, 115, 116, 111, 114, 101, 32, 56, 32, 51, 50, 32, 50, 53, 53]⟩ w2
  unfold ParPost at P2
  rw [par2] at P2
  have P2 := Kp.mk P2
  go_wp2_with fail
  refine P2.out.mono ?_
  rintro e w3 ⟨A2, cap2, rfl, _, _, hb⟩
  have HA := Kp.mk (HA.out.below hb)
  have HB := Kp.mk (HB.out.trans (hb.mono HB.out.size))
  clear hb P2
  have P3 := parse13 ⟨#[115, 116, 111, 114, 101, 32, 56, 32, 48, 51, 49, 32, 50, 53, 53]⟩ w3
  unfold ParPost at P3
  rw [par3] at P3
  have P3 := Kp.mk P3
  go_wp2_with fail
  refine P3.out.mono ?_
  rintro e w4 ⟨A3, cap3, rfl, _, _, hb⟩
  have HA := Kp.mk (HA.out.below hb)
  have HB := Kp.mk (HB.out.trans (hb.mono HB.out.size))
  clear hb P3
  obtain ⟨b, off, rfl, hbl, hr⟩ := HA.out (by decide)
  have r0 := Kp.mk (hr 0 _ rfl)
  have r1 := Kp.mk (hr 1 _ rfl)
  have r2 := Kp.mk (hr 2 _ rfl)
  clear hr
  have e00 : w4.cell? ⟨b, off, none⟩ = some (.int .i64 1) := r0.out 0 _ rfl
  have e01 : w4.cell? ⟨b, off + 1, none⟩ = some (.int .i64 (-1)) := r0.out 1 _ rfl
  have e02 : w4.cell? ⟨b, off + 2, none⟩ = some (.int .i64 4) := r0.out 2 _ rfl
  have e03 : w4.cell? ⟨b, off + 3, none⟩ = some (.int .i64 2) := r0.out 3 _ rfl
  have e04 : w4.cell? ⟨b, off + 4, none⟩ = some (.int .i64 0) := r0.out 4 _ rfl
  have e05 : w4.cell? ⟨b, off + 5, none⟩ = some (.int .i64 1) := r0.out 5 _ rfl
  have e06 : w4.cell? ⟨b, off + 6, none⟩ = some (.int .i64 3) := r0.out 6 _ rfl
  have e07 : w4.cell? ⟨b, off + 7, none⟩ = some (.int .i64 1) := r0.out 7 _ rfl
  have e10 : w4.cell? ⟨b, off + 8, none⟩ = some (.int .i64 1) := r1.out 0 _ rfl
  have e11 : w4.cell? ⟨b, off + 9, none⟩ = some (.int .i64 8) := r1.out 1 _ rfl
  have f11 : w4.cell? ⟨b, off + 8 + 1, none⟩ = some (.int .i64 8) := r1.out 1 _ rfl
  have e12 : w4.cell? ⟨b, off + 10, none⟩ = some (.int .i64 1) := r1.out 2 _ rfl
  have f12 : w4.cell? ⟨b, off + 8 + 2, none⟩ = some (.int .i64 1) := r1.out 2 _ rfl
  have e13 : w4.cell? ⟨b, off + 11, none⟩ = some (.int .i64 0) := r1.out 3 _ rfl
  have f13 : w4.cell? ⟨b, off + 8 + 3, none⟩ = some (.int .i64 0) := r1.out 3 _ rfl
  have e14 : w4.cell? ⟨b, off + 12, none⟩ = some (.int .i64 0) := r1.out 4 _ rfl
  have f14 : w4.cell? ⟨b, off + 8 + 4, none⟩ = some (.int .i64 0) := r1.out 4 _ rfl
  have e15 : w4.cell? ⟨b, off + 13, none⟩ = some (.int .i64 (-1)) := r1.out 5 _ rfl
  have f15 : w4.cell? ⟨b, off + 8 + 5, none⟩ = some (.int .i64 (-1)) := r1.out 5 _ rfl
  have e16 : w4.cell? ⟨b, off + 14, none⟩ = some (.int .i64 1) := r1.out 6 _ rfl
  have f16 : w4.cell? ⟨b, off + 8 + 6, none⟩ = some (.int .i64 1) := r1.out 6 _ rfl
  have e17 : w4.cell? ⟨b, off + 15, none⟩ = some (.int .i64 0) := r1.out 7 _ rfl
  have f17 : w4.cell? ⟨b, off + 8 + 7, none⟩ = some (.int .i64 0) := r1.out 7 _ rfl
  have e20 : w4.cell? ⟨b, off + 16, none⟩ = some (.int .i64 4) := r2.out 0 _ rfl
  have e21 : w4.cell? ⟨b, off + 17, none⟩ = some (.int .i64 8) := r2.out 1 _ rfl
  have f21 : w4.cell? ⟨b, off + 16 + 1, none⟩ = some (.int .i64 8) := r2.out 1 _ rfl
  have e22 : w4.cell? ⟨b, off + 18, none⟩ = some (.int .i64 1) := r2.out 2 _ rfl
  have f22 : w4.cell? ⟨b, off + 16 + 2, none⟩ = some (.int .i64 1) := r2.out 2 _ rfl
  have e23 : w4.cell? ⟨b, off + 19, none⟩ = some (.int .i64 0) := r2.out 3 _ rfl
  have f23 : w4.cell? ⟨b, off + 16 + 3, none⟩ = some (.int .i64 0) := r2.out 3 _ rfl
  have e24 : w4.cell? ⟨b, off + 20, none⟩ = some (.int .i64 0) := r2.out 4 _ rfl
  have f24 : w4.cell? ⟨b, off + 16 + 4, none⟩ = some (.int .i64 0) := r2.out 4 _ rfl
  have e25 : w4.cell? ⟨b, off + 21, none⟩ = some (.int .i64 0) := r2.out 5 _ rfl
  have f25 : w4.cell? ⟨b, off + 16 + 5, none⟩ = some (.int .i64 0) := r2.out 5 _ rfl
  have e26 : w4.cell? ⟨b, off + 22, none⟩ = some (.int .i64 0) := r2.out 6 _ rfl
  have f26 : w4.cell? ⟨b, off + 16 + 6, none⟩ = some (.int .i64 0) := r2.out 6 _ rfl
  have e27 : w4.cell? ⟨b, off + 23, none⟩ = some (.int .i64 0) := r2.out 7 _ rfl
  have f27 : w4.cell? ⟨b, off + 16 + 7, none⟩ = some (.int .i64 0) := r2.out 7 _ rfl
  clear r0 r1 r2
  have C := check11 (some ⟨w4.heap.size, 0, none⟩) [⟨12, 0, 0, 0, 0, -1, 0, 0⟩] 1 (w4.alloc (.cells (c8 12 0 0 0 0 (-1) 0 0) 36)) (fun _ => ⟨_, _, rfl, by simp, fun j x hj => by
    match j, hj with
    | 0, hj =>
      obtain rfl : _ = x := Option.some.inj hj
      exact World.rangeAt_of_block (heap_at rfl _) 0 8⟩) (by decide)
  rw [chk2] at C
  have C := Kp.mk C
  go_wp2_with fail
  refine C.out.mono ?_
  rintro e w5 ⟨rfl, hb⟩
  have HB := Kp.mk ((HB.out.alloc HB.out.size _).trans (hb.mono (by have := HB.out.size; simp; omega)))
  clear hb C
  go_wp2
  go_ret
  exact ⟨rfl, HB.out⟩
end Go.Proofs.YtiomnlgnhdhffaaDoor
