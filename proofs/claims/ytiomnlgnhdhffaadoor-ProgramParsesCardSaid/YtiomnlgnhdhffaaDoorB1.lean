/-
  Contracts of program.fields and prots, and of program.of at any operation. Conditions: none but what each theorem names.
-/
import Derived.Test.YtiomnlgnhdhffaaDoorA2
import Derived.Test.YtiomnlgnhdhffaaDoorA3
namespace Go.Proofs.YtiomnlgnhdhffaaDoor
open Go.RowKit
set_option linter.unusedVariables false

/-- An instruction. -/
structure Ins where
  op : Int
  page : Int
  count : Int
  index : Int
  value : Int
  file : Int
  prot : Int
  flags : Int
deriving DecidableEq
abbrev Ins.V (x : Ins) : Value := .agg #[.int .i64 x.op, .int .i64 x.page, .int .i64 x.count, .int .i64 x.index, .int .i64 x.value, .int .i64 x.file, .int .i64 x.prot, .int .i64 x.flags]
abbrev insV (a b c d e f g h : Int) : Value := .agg #[.int .i64 a, .int .i64 b, .int .i64 c, .int .i64 d, .int .i64 e, .int .i64 f, .int .i64 g, .int .i64 h]
abbrev fldV (b c d e f g h : Int) : Value := .agg #[.int .i64 b, .int .i64 c, .int .i64 d, .int .i64 e, .int .i64 f, .int .i64 g, .int .i64 h]

theorem results_row {P : Program} {fn : Func} {p : Tmp} {ty : TypeId} (h : fn.results = #[.cell p ty]) (tmps : Array Value) (w : World) (g : Nat) (t : TypeId) (cs : Array Value) (fr : Nat × Nat) (d : TypeDesc)
    (hp : tmps.getD p undef = .pointer (some ⟨g, 0, none⟩)) (hg : w.heap[g]? = some (.cells cs t fr))
    (hu : P.underlying ty = some d) (hd : (match d with | .struct _ | .array _ _ => true | _ => false) = true) (hi : (P.info? ty).map (·.size) = some cs.size) :
    (results fn tmps).run P w = .ok (.agg cs) w := results_cell_row h tmps w g t cs fr d hp hg hu hd hi

set_option maxRecDepth 100000 in
set_option maxHeartbeats 4000000 in
theorem fields32 (a b c d e f g h : Int) (w : World) : Calls Tryd.prog 32 #[insV a b c d e f g h] w fun r w' => r = .returned (fldV b c d e f g h) ∧ Below w.heap.size w w' := by
  go_enter Tryd.func32, Tryd.ntmps32
  go_wp2
  go_goals
  exact bodyPost_ret (v := fldV b c d e f g h) (results_row rfl _ _ (w.heap.size + 1) 63 _ (0, 0) _ rfl (heap_at (by simp) _) Tryd.underlying63 rfl (by kernel_rfl)) rfl ⟨rfl, by repeat (first | exact Below.refl _ _ | refine Below.setCell ?_ (by simp) _ | refine Below.alloc ?_ (by simp) _)⟩

theorem prots33 (n : Int) (w : World) : Calls Tryd.prog 33 #[.int .i64 n] w fun r w' => r = .returned (.bool (n == 1 || n == 3)) ∧ w = w' := by
  by_cases h1 : n = 1
  · subst h1
    go_enter Tryd.func33, Tryd.ntmps33
    go_wp2
    go_ret
    exact ⟨rfl, rfl⟩
  · have h2 : (n == 1) = false := by simpa using h1
    go_enter Tryd.func33, Tryd.ntmps33
    go_wp2
    go_ret
    exact ⟨by first | rfl | simp [h2], rfl⟩
/-- The limits of an operation: sixteen numbers; none where there is no such operation. -/
def limL (op : Int) : List Int :=
  if op = 1 then [0, -1, 1, 0, 0, -1, 0, 0, 0, 511, 512, 15, 0, 3, 3, 15] else if op = 2 then [0, 0, 1, 0, 0, 0, 0, 0, 0, 511, 512, 0, 0, 0, 0, 0] else if op = 3 then [0, 0, 1, 0, 0, 0, 0, 0, 0, 511, 512, 0, 0, 0, 3, 0]
  else if op = 4 then [0, 0, 1, 0, 0, 0, 0, 0, 0, 511, 512, 0, 1, 0, 0, 0] else if op = 5 then [0, 0, 0, 0, 0, 0, 0, 0, 0, 511, 0, 31, 0, 0, 0, 0] else if op = 6 then [0, 0, 0, 0, 0, 0, 0, 0, 0, 511, 0, 31, 255, 0, 0, 0]
  else if op = 7 then [0, 0, 0, 0, 0, 0, 0, 0, 0, 15, 0, 31, 0, 3, 0, 0] else if op = 8 then [0, 0, 0, 0, 0, 0, 0, 0, 0, 15, 0, 31, 255, 3, 0, 0] else if op = 9 then [0, 0, 0, 0, 0, 0, 0, 0, 0, 0, 16, 0, 0, 3, 0, 0]
  else if op = 10 then [0, 0, 0, 0, 0, 0, 0, 0, 0, 0, 0, 0, 0, 3, 0, 0] else if op = 11 then [0, 0, 0, 0, 0, 0, 0, 0, 0, 0, 0, 0, 48, 0, 0, 0] else [0, 0, 0, 0, 0, 0, 0, 0, 0, 0, 0, 0, 0, 0, 0, 0]
def opOk (op : Int) : Bool := decide (1 ≤ op) && decide (op ≤ 12)
theorem of31 (op : Int) (w : World) : Calls Tryd.prog 31 #[.int .i64 op] w fun e w' => e = .returned (limV (limL op) (opOk op)) ∧ Below w.heap.size w w' := by
  by_cases h : op < 1 ∨ 12 < op
  · have e1 : limL op = [0, 0, 0, 0, 0, 0, 0, 0, 0, 0, 0, 0, 0, 0, 0, 0] := by
      unfold limL
      repeat rw [if_neg (by omega)]
    have e2 : opOk op = false := by simp [opOk]; omega
    rw [e1, e2]
    exact of_bad op h w
  · have : op = 1 ∨ op = 2 ∨ op = 3 ∨ op = 4 ∨ op = 5 ∨ op = 6 ∨ op = 7 ∨ op = 8 ∨ op = 9 ∨ op = 10 ∨ op = 11 ∨ op = 12 := by omega
    rcases this with rfl | rfl | rfl | rfl | rfl | rfl | rfl | rfl | rfl | rfl | rfl | rfl
    · exact of_1 w
    · exact of_2 w
    · exact of_3 w
    · exact of_4 w
    · exact of_5 w
    · exact of_6 w
    · exact of_7 w
    · exact of_8 w
    · exact of_9 w
    · exact of_10 w
    · exact of_11 w
    · exact of_12 w
end Go.Proofs.YtiomnlgnhdhffaaDoor
