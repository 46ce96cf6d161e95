/-
  The contracts of program.check and Check at every program. Conditions: none but what each theorem names.
-/
import Derived.Test.YtiomnlgnhdhffaaDoorB4
import Derived.Deep.MidRow
namespace Go.Proofs.YtiomnlgnhdhffaaDoor
open Go.RowKit
set_option linter.unusedVariables false

def Ins.fl (x : Ins) : List Int := [x.page, x.count, x.index, x.value, x.file, x.prot, x.flags]
/-- What check answers. -/
def chkI (x : Ins) : Int :=
  if opOk x.op then ckA x.fl (((limL x.op).drop 1).take 7) ((limL x.op).drop 9) (ckT ((limL x.op).getD 14 0) x.op x.index x.file x.prot) else 1
theorem limL_form (op : Int) : ∃ l0 l1 l2 l3 l4 l5 l6 l7 l8 l9 l10 l11 l12 l13 l14 l15, limL op = [l0, l1, l2, l3, l4, l5, l6, l7, l8, l9, l10, l11, l12, l13, l14, l15] := by
  have h : (limL op).length = 16 := by
    unfold limL
    iterate 11 (rw [apply_ite List.length]; simp only [List.length_cons, List.length_nil])
    simp
  match limL op, h with
  | [l0, l1, l2, l3, l4, l5, l6, l7, l8, l9, l10, l11, l12, l13, l14, l15], _ => exact ⟨_, _, _, _, _, _, _, _, _, _, _, _, _, _, _, _, rfl⟩

set_option maxRecDepth 100000 in
set_option maxHeartbeats 4000000 in
theorem check_bad (x0 x1 x2 x3 x4 x5 x6 x7 : Int) (l0 l1 l2 l3 l4 l5 l6 l7 l8 l9 l10 l11 l12 l13 l14 l15 : Int) (hof : ∀ w, Calls Tryd.prog 31 #[.int .i64 x0] w fun e w' => e = .returned (.tuple #[.agg #[.int .i64 l0, .int .i64 l1, .int .i64 l2, .int .i64 l3, .int .i64 l4, .int .i64 l5, .int .i64 l6, .int .i64 l7, .int .i64 l8, .int .i64 l9, .int .i64 l10, .int .i64 l11, .int .i64 l12, .int .i64 l13, .int .i64 l14, .int .i64 l15], .bool false]) ∧ Below w.heap.size w w') (w : World) :
    Calls Tryd.prog 19 #[insV x0 x1 x2 x3 x4 x5 x6 x7] w fun e w' => e = .returned (.int .i64 1) ∧ Below w.heap.size w w' := by
  have HO := Kp.mk hof
  clear hof
  go_enter Tryd.func19, Tryd.ntmps19
  go_wp2_with fail
  refine (HO.out _).mono ?_
  rintro e w1 ⟨rfl, hb⟩
  have B1 := Kp.mk (((Below.refl w.heap.size w).alloc (Nat.le_refl _) _).trans (hb.mono (by simp)))
  clear hb
  go_wp2
  go_ret
  exact ⟨rfl, B1.out.alloc B1.out.size _⟩

theorem check19 (x : Ins) (w : World) : Calls Tryd.prog 19 #[x.V] w fun e w' => e = .returned (.int .i64 (chkI x)) ∧ Below w.heap.size w w' := by
  obtain ⟨l0, l1, l2, l3, l4, l5, l6, l7, l8, l9, l10, l11, l12, l13, l14, l15, hL⟩ := limL_form x.op
  cases ho : opOk x.op
  · have h := check_bad x.op x.page x.count x.index x.value x.file x.prot x.flags l0 l1 l2 l3 l4 l5 l6 l7 l8 l9 l10 l11 l12 l13 l14 l15 (fun w => by
      have := of31 x.op w
      rw [hL, ho] at this
      exact this) w
    rw [show chkI x = 1 by simp [chkI, ho]]
    exact h
  · have h := check_main x.op x.page x.count x.index x.value x.file x.prot x.flags l0 l1 l2 l3 l4 l5 l6 l7 l8 l9 l10 l11 l12 l13 l14 l15 (fun w => by
      have := of31 x.op w
      rw [hL, ho] at this
      exact this) w
    rw [show chkI x = ckA [x.page, x.count, x.index, x.value, x.file, x.prot, x.flags] [l1, l2, l3, l4, l5, l6, l7] [l9, l10, l11, l12, l13, l14, l15] (ckT l14 x.op x.index x.file x.prot) by simp [chkI, ho, hL, Ins.fl]]
    exact h

/-! ### Slices of instructions -/
def Ins.cells (x : Ins) : List Value := [.int .i64 x.op, .int .i64 x.page, .int .i64 x.count, .int .i64 x.index, .int .i64 x.value, .int .i64 x.file, .int .i64 x.prot, .int .i64 x.flags]
/-- A slice of instructions that reads as xs. -/
def InsAt (w : World) (A : Option Addr) (xs : List Ins) : Prop := xs ≠ [] → ∃ b off, A = some ⟨b, off, none⟩ ∧ b < w.heap.size ∧ ∀ j x, xs[j]? = some x → w.rangeAt b (off + j * 8) x.cells
theorem InsAt.below {w w' : World} {A : Option Addr} {xs : List Ins} (h : InsAt w A xs) (hb : Below w.heap.size w w') : InsAt w' A xs := by
  intro hx
  obtain ⟨b, off, h1, h2, h3⟩ := h hx
  refine ⟨b, off, h1, Nat.lt_of_lt_of_le h2 hb.size, fun j x hj i v hv => ?_⟩
  rw [hb.cell (p := ⟨b, _, none⟩) h2]
  exact h3 j x hj i v hv
/-- What Check answers. -/
def chkL : List Ins → Int
  | [] => 0
  | x :: r => if chkI x = 0 then chkL r else chkI x
def chkP (xs : List Ins) : Int := if 48 < xs.length then 9 else chkL xs

set_option maxRecDepth 100000 in
set_option maxHeartbeats 4000000 in
theorem check11 (A : Option Addr) (xs : List Ins) (cap : Nat) (w : World) (hx : InsAt w A xs) (hn : xs.length ≤ 4611686018427387904) :
    Calls Tryd.prog 11 #[.slice A xs.length cap] w fun e w' => e = .returned (.int .i64 (chkP xs)) ∧ Below w.heap.size w w' := by
  have HX := Kp.mk hx
  clear hx
  by_cases h48 : 48 < xs.length
  · have HE := Kp.mk (show chkP xs = 9 by simp [chkP, h48])
    go_enter Tryd.func11, Tryd.ntmps11
    go_wp2
    go_ret
    exact ⟨by rw [HE.out]; rfl, Below.refl _ _⟩
  · have HE := Kp.mk (show chkP xs = chkL xs by simp [chkP, h48])
    go_enter Tryd.func11, Tryd.ntmps11
    go_wp2
    go_loopw [11] (fun i wr => ∃ k : Nat, k ≤ xs.length ∧ i = .int .i64 k ∧ Kp (chkP xs = chkL (xs.drop k)) ∧ Kp (Below w.heap.size w wr)) (fun i _ => xs.length - (intOf i).toNat)
    case atStart => exact ⟨0, by omega, rfl, HE, ⟨Below.refl _ _⟩⟩
    case round =>
      obtain ⟨k, hk, rfl, HK, HB⟩ := hrel
      by_cases hlt : k < xs.length
      · obtain ⟨b, off, rfl, hbl, hr⟩ := (HX.out.below HB.out) (by rintro rfl; simp at hlt)
        have hxk : xs[k]? = some xs[k] := by simp [hlt]
        have HR := Kp.mk (hr k _ hxk)
        have HD := Kp.mk (show chkP xs = if chkI xs[k] = 0 then chkL (xs.drop (k + 1)) else chkI xs[k] by rw [HK.out, List.drop_eq_getElem_cons hlt]; rfl)
        generalize xs[k] = x at HR HD
        clear hr hxk HK
        obtain ⟨x0, x1, x2, x3, x4, x5, x6, x7⟩ := x
        have HR := Kp.mk (show wr.rangeAt b (off + k * 8) [.int .i64 x0, .int .i64 x1, .int .i64 x2, .int .i64 x3, .int .i64 x4, .int .i64 x5, .int .i64 x6, .int .i64 x7] from HR.out)
        go_wp2_with (first | ((with_reducible refine gate_dst (N := 14) rfl ?_); go_must (refine wpList_load_mid rfl 36 (.tmp 13) rfl b (off + k * 8) rfl _ _ HR.out Tryd.underlying36 rfl (by kernel_rfl) ?_)) | fail)
        refine (check19 ⟨x0, x1, x2, x3, x4, x5, x6, x7⟩ _).mono ?_
        rintro e w2 ⟨rfl, hb⟩
        have HB2 := Kp.mk ((HB.out.alloc HB.out.size _).trans (hb.mono (by have := HB.out.size; simp; omega)))
        clear hb HB HR
        generalize chkI ⟨x0, x1, x2, x3, x4, x5, x6, x7⟩ = v at HD ⊢
        by_cases hv : v = 0
        · subst hv
          have HK := Kp.mk (show chkP xs = chkL (xs.drop (k + 1)) by rw [HD.out, if_pos rfl])
          clear HD
          go_wp2
          go_roundw
          case rel => exact ⟨k + 1, by omega, by go_num, HK, HB2⟩
          case measure => simp [intOf]; omega
        · have HK := Kp.mk (show chkP xs = v by rw [HD.out, if_neg hv])
          have hv' : (v != 0) = true := by simpa using hv
          clear HD hv
          go_wp2
          go_ret
          exact ⟨by rw [HK.out]; rfl, HB2.out⟩
      · have HK' := Kp.mk (show chkP xs = 0 by rw [HK.out, List.drop_eq_nil_of_le (by omega)]; rfl)
        go_wp2
        go_ret
        exact ⟨by rw [HK'.out]; rfl, HB.out⟩
end Go.Proofs.YtiomnlgnhdhffaaDoor
