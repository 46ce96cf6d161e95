/-
  Contracts of watermark.in, Check and their references: they return what chk says, for every input. Conditions: none but what each theorem names.
-/
import Derived.Test.YtmomcelnfljnmaaProg
import Derived.WalkKit
import Derived.WalkSpells
import Derived.WalkLawsBesides
import Derived.BigQuiet
import Derived.Deep.QuietTactic
namespace Go.Proofs.Ytmomcelnfljnmaa
open Go.RowKit
structure Kp (p : Prop) : Prop where
  out : p

def inB (n : Int) : Bool := decide (0 ≤ n) && decide (n ≤ 4096)

theorem in39 (n : Int) (w : World) : Calls Try.prog 39 #[.int .i64 n] w fun e w' => e = .returned (.bool (inB n)) ∧ w = w' := by
  by_cases h : 0 ≤ n
  · have hd : decide (n ≥ 0) = true := by simpa using h
    go_enter Try.func39, Try.ntmps39
    go_wp2
    go_ret
    exact ⟨by simp [inB, h], rfl⟩
  · have hd : decide (n ≥ 0) = false := by simpa using h
    go_enter Try.func39, Try.ntmps39
    go_wp2
    go_ret
    exact ⟨by simp [inB]; omega, rfl⟩
theorem in40 (n : Int) (w : World) : Calls Try.prog 40 #[.int .i64 n] w fun e w' => e = .returned (.bool (inB n)) ∧ w = w' := by
  by_cases h : 0 ≤ n
  · have hd : decide (n ≥ 0) = true := by simpa using h
    go_enter Try.func40, Try.ntmps40
    go_wp2
    go_ret
    exact ⟨by simp [inB, h], rfl⟩
  · have hd : decide (n ≥ 0) = false := by simpa using h
    go_enter Try.func40, Try.ntmps40
    go_wp2
    go_ret
    exact ⟨by simp [inB]; omega, rfl⟩

def chk (a b c : Int) : Int := if !(inB a) || !(inB b) || !(inB c) then 2 else if b < a || c < b then 10 else 0

theorem check15 (a b c : Int) (w : World) : Calls Try.prog 15 #[.agg #[.int .i64 a, .int .i64 b, .int .i64 c]] w fun e w' => e = .returned (.int .i64 (chk a b c)) ∧ Below w.heap.size w w' := by
  unfold chk
  cases h1 : inB a <;> cases h2 : inB b <;> cases h3 : inB c <;> by_cases h4 : b < a <;> by_cases h5 : c < b
  all_goals
    go_enter Try.func15, Try.ntmps15
    go_wp2_with (go_at_call 39; refine (in39 _ _).mono ?_; rintro e w' ⟨rfl, rfl⟩)
    go_ret
    exact ⟨by simp [*], (Below.refl _ _).alloc (Nat.le_refl _) _⟩
theorem check16 (a b c : Int) (w : World) : Calls Try.prog 16 #[.agg #[.int .i64 a, .int .i64 b, .int .i64 c]] w fun e w' => e = .returned (.int .i64 (chk a b c)) ∧ Below w.heap.size w w' := by
  unfold chk
  cases h1 : inB a <;> cases h2 : inB b <;> cases h3 : inB c <;> by_cases h4 : b < a <;> by_cases h5 : c < b
  all_goals
    go_enter Try.func16, Try.ntmps16
    go_wp2_with (go_at_call 40; refine (in40 _ _).mono ?_; rintro e w' ⟨rfl, rfl⟩)
    go_ret
    exact ⟨by simp [*], (Below.refl _ _).alloc (Nat.le_refl _) _⟩
end Go.Proofs.Ytmomcelnfljnmaa
