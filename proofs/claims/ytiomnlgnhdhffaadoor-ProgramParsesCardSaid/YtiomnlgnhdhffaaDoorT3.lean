/-
  What the reference's instr computes; it agrees with what the program's line.instr computes. Conditions: none but what each theorem names.
-/
import Derived.Test.YtiomnlgnhdhffaaDoorT1
import Derived.Test.YtiomnlgnhdhffaaDoorP5
import Derived.Test.YtiomnlgnhdhffaaDoorD1
namespace Go.Proofs.YtiomnlgnhdhffaaDoor
open Go.RowKit
set_option linter.unusedVariables false
set_option linter.unusedSimpArgs false

/-- What options answers. -/
def optR (x : Ins) (ws : List Wd) : Ins × Bool :=
  let fl := flagS (ws, true) 4
  let r := fl.2.1
  if r = [] then (⟨x.op, x.page, x.count, x.index, x.value, x.file, x.prot, x.flags + fl.1⟩, true)
  else if r.length ≠ 3 ∨ r.headD [] ≠ [102, 105, 108, 101] ∨ refN (r.getD 1 []) < 0 ∨ refN (r.getD 2 []) < 0 then (⟨x.op, x.page, x.count, x.index, x.value, x.file, x.prot, x.flags + fl.1⟩, false)
  else (⟨x.op, x.page, x.count, refN (r.getD 2 []), x.value, refN (r.getD 1 []), x.prot, x.flags + fl.1⟩, true)
/-- What build answers. -/
def buildR (o p n1 n2 n3 n4 : Int) (first : Wd) : Ins :=
  if o = 1 then ⟨1, n1, n2, 0, 0, -1, p, 0⟩
  else if o = 2 then ⟨2, n1, n2, 0, 0, 0, 0, 0⟩
  else if o = 3 then ⟨3, n1, n2, 0, 0, 0, p, 0⟩
  else if o = 4 then ⟨4, n1, n2, 0, if first = [108, 111, 99, 107] then 1 else 0, 0, 0, 0⟩
  else if o = 5 then ⟨5, n1, 0, n2, n3, 0, 0, 0⟩
  else if o = 6 then ⟨6, n1, 0, n2, n3, 0, 0, 0⟩
  else if o = 7 then ⟨7, n2, 0, n3, n4, n1, 0, 0⟩
  else if o = 8 then ⟨8, n2, 0, n3, n4, n1, 0, 0⟩
  else if o = 9 then ⟨9, 0, n2, 0, 0, n1, 0, 0⟩
  else if o = 10 then ⟨10, 0, n2, 0, 0, n1, 0, 0⟩
  else if o = 11 then ⟨11, 0, 0, 0, n1, 0, 0, 0⟩
  else ⟨o, n1, n2, 0, 0, 0, 0, 0⟩
/-- Is word j of a line in order? -/
def okw (ws : List Wd) (o : Int) (j : Nat) : Bool :=
  if j = 3 ∧ (o = 1 ∨ o = 3) then protR (ws.getD 3 []) != 0 else decide (0 ≤ refN (ws.getD j [])) || (o == 1 && (j == 1 && ws.getD 1 [] == [97, 110, 121]))
/-- Are the words from 1 to below n? -/
def okAll (ws : List Wd) (o : Int) : Nat → Bool
  | 0 => true
  | 1 => true
  | k + 2 => okAll ws o (k + 1) && okw ws o (k + 1)
/-- The number in place j, of the words below n. -/
def numA (ws : List Wd) (n : Nat) (j : Nat) : Int := if 1 ≤ j ∧ j < n then refN (ws.getD j []) else 0
def zI : Ins := ⟨0, 0, 0, 0, 0, 0, 0, 0⟩
def instrR (ws : List Wd) : Ins × Bool :=
  let o := (opR (ws.headD [])).1
  let n := (opR (ws.headD [])).2.toNat
  if o = 0 ∨ ws.length < n ∨ (n < ws.length ∧ o ≠ 1) then (zI, false)
  else if okAll ws o n = true then
    if o = 1 then optR (buildR o (protR (ws.getD 3 [])) (numA ws n 1) (numA ws n 2) (numA ws n 3) (numA ws n 4) (ws.headD [])) (ws.drop n)
    else (buildR o (if o = 3 then protR (ws.getD 3 []) else 0) (numA ws n 1) (numA ws n 2) (numA ws n 3) (numA ws n 4) (ws.headD []), true)
  else (zI, false)

theorem numW_nn {w : Wd} {n : Int} (h : numW w = some n) : 0 ≤ n := by
  unfold numW at h
  split at h
  · cases h
  · exact (digV_bd w 0 n (by omega) h).1
def Agree (ws : List Wd) : Prop := (((insS (ws, true)).2.2 = false ∨ (insS (ws, true)).2.1 ≠ []) ∧ (instrR ws).2 = false) ∨
  ∃ x, insS (ws, true) = (x, ([], true)) ∧ instrR ws = (x, true) ∧ (1 ≤ x.op ∧ x.op ≤ 12) ∧ usedI x = x
theorem numS_cons (w : Wd) (t : List Wd) (f : Bool) : numS (w :: t, f) = ((numW w).getD 0, (t, f && (numW w).isSome)) := by
  unfold numS nextS
  cases h : numW w <;> simp [h]
theorem numS_nil (f : Bool) : numS ([], f) = (0, ([], false)) := rfl
theorem refN_of (w : Wd) : (numW w = none ∧ refN w = -1) ∨ ∃ n, numW w = some n ∧ refN w = n ∧ 0 ≤ n := by
  cases h : numW w with
  | none => exact .inl ⟨rfl, by rw [refN, h]; rfl⟩
  | some n => exact .inr ⟨n, rfl, by rw [refN, h]; rfl, numW_nn h⟩

theorem agree_2 (w : Wd) (o : Int) (ho : opR w = (o, 3)) (h1 : o ≠ 1) (h3 : o ≠ 3) (h0 : o ≠ 0) (f : Int → Int → Ins) (hi : ∀ t, insS (w :: t, true) = (f (numS (t, true)).1 (numS (numS (t, true)).2).1, (numS (numS (t, true)).2).2))
    (hb : ∀ a b, buildR o 0 a b 0 0 w = f a b) (hf : ∀ a b, (1 ≤ (f a b).op ∧ (f a b).op ≤ 12) ∧ usedI (f a b) = f a b) (t : List Wd) : Agree (w :: t) := by
  unfold Agree
  rw [hi]
  have hh : (w :: t).headD [] = w := rfl
  unfold instrR
  rw [hh, ho]
  dsimp only
  rcases t with _ | ⟨u, _ | ⟨v, _ | ⟨z, t⟩⟩⟩
  · left; exact ⟨.inl rfl, by rw [if_pos (by simp)]⟩
  · left
    refine ⟨.inl ?_, by rw [if_pos (by simp)]⟩
    rw [numS_cons, numS_nil]
  · rw [numS_cons, numS_cons]
    rw [if_neg (by simp [h0])]
    rcases refN_of u with ⟨hu, hu'⟩ | ⟨n, hu, hu', hn⟩
    · left; exact ⟨.inl (by simp [hu]), by simp [okAll, okw, h1, h3, hu']⟩
    · rcases refN_of v with ⟨hv, hv'⟩ | ⟨m, hv, hv', hm⟩
      · left; exact ⟨.inl (by simp [hv]), by simp [okAll, okw, h1, h3, hu', hv']⟩
      · right
        refine ⟨f n m, by simp [hu, hv], ?_, hf n m⟩
        simp [okAll, okw, h1, h3, hu', hv', hn, hm, numA, hb]
  · left
    refine ⟨.inr ?_, by rw [if_pos (by simp [h1])]⟩
    rw [numS_cons, numS_cons]
    simp
end Go.Proofs.YtiomnlgnhdhffaaDoor
