/-
  The walks of the reference's op and prot, and of estoversref41.Number. Conditions: none but what each theorem names. (Printed by wip/tools/genT1.py.)
-/
import Derived.Test.YtiomnlgnhdhffaaDoorP2
namespace Go.Proofs.YtiomnlgnhdhffaaDoor
open Go.RowKit
set_option linter.unusedVariables false
set_option linter.unusedSimpArgs false

/-- The reference's operation of a first word, and how many words its line has. -/
def opR (w : Wd) : Int × Int :=
  if w = [109, 97, 112] then (1, 4)
  else if w = [117, 110, 109, 97, 112] then (2, 3)
  else if w = [112, 114, 111, 116, 101, 99, 116] then (3, 4)
  else if w = [108, 111, 99, 107] then (4, 3)
  else if w = [117, 110, 108, 111, 99, 107] then (4, 3)
  else if w = [108, 111, 97, 100] then (5, 3)
  else if w = [115, 116, 111, 114, 101] then (6, 4)
  else if w = [114, 101, 97, 100] then (7, 4)
  else if w = [119, 114, 105, 116, 101] then (8, 5)
  else if w = [116, 114, 117, 110, 99, 97, 116, 101] then (9, 3)
  else if w = [115, 121, 110, 99] then (10, 2)
  else if w = [102, 111, 114, 107] then (11, 2)
  else if w = [101, 120, 105, 116] then (12, 1)
  else (0, 0)

set_option maxRecDepth 100000 in
set_option maxHeartbeats 2000000 in
theorem op40_map (W : World) : Calls Tryd.prog 40 #[.string (bstr [109, 97, 112])] W fun e W' => e = .returned (.tuple #[.int .i64 1, .int .i64 4]) ∧ W' = W := by
  have q0 : ((bstr [109, 97, 112]).toList == [109, 97, 112]) = true := by rw [bstr_list]; rfl
  have q1 : ((bstr [109, 97, 112]).toList == [117, 110, 109, 97, 112]) = false := by rw [bstr_list]; rfl
  have q2 : ((bstr [109, 97, 112]).toList == [112, 114, 111, 116, 101, 99, 116]) = false := by rw [bstr_list]; rfl
  have q3 : ((bstr [109, 97, 112]).toList == [108, 111, 99, 107]) = false := by rw [bstr_list]; rfl
  have q4 : ((bstr [109, 97, 112]).toList == [117, 110, 108, 111, 99, 107]) = false := by rw [bstr_list]; rfl
  have q5 : ((bstr [109, 97, 112]).toList == [108, 111, 97, 100]) = false := by rw [bstr_list]; rfl
  have q6 : ((bstr [109, 97, 112]).toList == [115, 116, 111, 114, 101]) = false := by rw [bstr_list]; rfl
  have q7 : ((bstr [109, 97, 112]).toList == [114, 101, 97, 100]) = false := by rw [bstr_list]; rfl
  have q8 : ((bstr [109, 97, 112]).toList == [119, 114, 105, 116, 101]) = false := by rw [bstr_list]; rfl
  have q9 : ((bstr [109, 97, 112]).toList == [116, 114, 117, 110, 99, 97, 116, 101]) = false := by rw [bstr_list]; rfl
  have q10 : ((bstr [109, 97, 112]).toList == [115, 121, 110, 99]) = false := by rw [bstr_list]; rfl
  have q11 : ((bstr [109, 97, 112]).toList == [102, 111, 114, 107]) = false := by rw [bstr_list]; rfl
  have q12 : ((bstr [109, 97, 112]).toList == [101, 120, 105, 116]) = false := by rw [bstr_list]; rfl
  go_enter Tryd.func40, Tryd.ntmps40
  go_wp2
  go_ret2
  exact ⟨rfl, rfl⟩

set_option maxRecDepth 100000 in
set_option maxHeartbeats 2000000 in
theorem op40_unmap (W : World) : Calls Tryd.prog 40 #[.string (bstr [117, 110, 109, 97, 112])] W fun e W' => e = .returned (.tuple #[.int .i64 2, .int .i64 3]) ∧ W' = W := by
  have q0 : ((bstr [117, 110, 109, 97, 112]).toList == [109, 97, 112]) = false := by rw [bstr_list]; rfl
  have q1 : ((bstr [117, 110, 109, 97, 112]).toList == [117, 110, 109, 97, 112]) = true := by rw [bstr_list]; rfl
  have q2 : ((bstr [117, 110, 109, 97, 112]).toList == [112, 114, 111, 116, 101, 99, 116]) = false := by rw [bstr_list]; rfl
  have q3 : ((bstr [117, 110, 109, 97, 112]).toList == [108, 111, 99, 107]) = false := by rw [bstr_list]; rfl
  have q4 : ((bstr [117, 110, 109, 97, 112]).toList == [117, 110, 108, 111, 99, 107]) = false := by rw [bstr_list]; rfl
  have q5 : ((bstr [117, 110, 109, 97, 112]).toList == [108, 111, 97, 100]) = false := by rw [bstr_list]; rfl
  have q6 : ((bstr [117, 110, 109, 97, 112]).toList == [115, 116, 111, 114, 101]) = false := by rw [bstr_list]; rfl
  have q7 : ((bstr [117, 110, 109, 97, 112]).toList == [114, 101, 97, 100]) = false := by rw [bstr_list]; rfl
  have q8 : ((bstr [117, 110, 109, 97, 112]).toList == [119, 114, 105, 116, 101]) = false := by rw [bstr_list]; rfl
  have q9 : ((bstr [117, 110, 109, 97, 112]).toList == [116, 114, 117, 110, 99, 97, 116, 101]) = false := by rw [bstr_list]; rfl
  have q10 : ((bstr [117, 110, 109, 97, 112]).toList == [115, 121, 110, 99]) = false := by rw [bstr_list]; rfl
  have q11 : ((bstr [117, 110, 109, 97, 112]).toList == [102, 111, 114, 107]) = false := by rw [bstr_list]; rfl
  have q12 : ((bstr [117, 110, 109, 97, 112]).toList == [101, 120, 105, 116]) = false := by rw [bstr_list]; rfl
  go_enter Tryd.func40, Tryd.ntmps40
  go_wp2
  go_ret2
  exact ⟨rfl, rfl⟩

set_option maxRecDepth 100000 in
set_option maxHeartbeats 2000000 in
theorem op40_protect (W : World) : Calls Tryd.prog 40 #[.string (bstr [112, 114, 111, 116, 101, 99, 116])] W fun e W' => e = .returned (.tuple #[.int .i64 3, .int .i64 4]) ∧ W' = W := by
  have q0 : ((bstr [112, 114, 111, 116, 101, 99, 116]).toList == [109, 97, 112]) = false := by rw [bstr_list]; rfl
  have q1 : ((bstr [112, 114, 111, 116, 101, 99, 116]).toList == [117, 110, 109, 97, 112]) = false := by rw [bstr_list]; rfl
  have q2 : ((bstr [112, 114, 111, 116, 101, 99, 116]).toList == [112, 114, 111, 116, 101, 99, 116]) = true := by rw [bstr_list]; rfl
  have q3 : ((bstr [112, 114, 111, 116, 101, 99, 116]).toList == [108, 111, 99, 107]) = false := by rw [bstr_list]; rfl
  have q4 : ((bstr [112, 114, 111, 116, 101, 99, 116]).toList == [117, 110, 108, 111, 99, 107]) = false := by rw [bstr_list]; rfl
  have q5 : ((bstr [112, 114, 111, 116, 101, 99, 116]).toList == [108, 111, 97, 100]) = false := by rw [bstr_list]; rfl
  have q6 : ((bstr [112, 114, 111, 116, 101, 99, 116]).toList == [115, 116, 111, 114, 101]) = false := by rw [bstr_list]; rfl
  have q7 : ((bstr [112, 114, 111, 116, 101, 99, 116]).toList == [114, 101, 97, 100]) = false := by rw [bstr_list]; rfl
  have q8 : ((bstr [112, 114, 111, 116, 101, 99, 116]).toList == [119, 114, 105, 116, 101]) = false := by rw [bstr_list]; rfl
  have q9 : ((bstr [112, 114, 111, 116, 101, 99, 116]).toList == [116, 114, 117, 110, 99, 97, 116, 101]) = false := by rw [bstr_list]; rfl
  have q10 : ((bstr [112, 114, 111, 116, 101, 99, 116]).toList == [115, 121, 110, 99]) = false := by rw [bstr_list]; rfl
  have q11 : ((bstr [112, 114, 111, 116, 101, 99, 116]).toList == [102, 111, 114, 107]) = false := by rw [bstr_list]; rfl
  have q12 : ((bstr [112, 114, 111, 116, 101, 99, 116]).toList == [101, 120, 105, 116]) = false := by rw [bstr_list]; rfl
  go_enter Tryd.func40, Tryd.ntmps40
  go_wp2
  go_ret2
  exact ⟨rfl, rfl⟩

set_option maxRecDepth 100000 in
set_option maxHeartbeats 2000000 in
theorem op40_lock (W : World) : Calls Tryd.prog 40 #[.string (bstr [108, 111, 99, 107])] W fun e W' => e = .returned (.tuple #[.int .i64 4, .int .i64 3]) ∧ W' = W := by
  have q0 : ((bstr [108, 111, 99, 107]).toList == [109, 97, 112]) = false := by rw [bstr_list]; rfl
  have q1 : ((bstr [108, 111, 99, 107]).toList == [117, 110, 109, 97, 112]) = false := by rw [bstr_list]; rfl
  have q2 : ((bstr [108, 111, 99, 107]).toList == [112, 114, 111, 116, 101, 99, 116]) = false := by rw [bstr_list]; rfl
  have q3 : ((bstr [108, 111, 99, 107]).toList == [108, 111, 99, 107]) = true := by rw [bstr_list]; rfl
  have q4 : ((bstr [108, 111, 99, 107]).toList == [117, 110, 108, 111, 99, 107]) = false := by rw [bstr_list]; rfl
  have q5 : ((bstr [108, 111, 99, 107]).toList == [108, 111, 97, 100]) = false := by rw [bstr_list]; rfl
  have q6 : ((bstr [108, 111, 99, 107]).toList == [115, 116, 111, 114, 101]) = false := by rw [bstr_list]; rfl
  have q7 : ((bstr [108, 111, 99, 107]).toList == [114, 101, 97, 100]) = false := by rw [bstr_list]; rfl
  have q8 : ((bstr [108, 111, 99, 107]).toList == [119, 114, 105, 116, 101]) = false := by rw [bstr_list]; rfl
  have q9 : ((bstr [108, 111, 99, 107]).toList == [116, 114, 117, 110, 99, 97, 116, 101]) = false := by rw [bstr_list]; rfl
  have q10 : ((bstr [108, 111, 99, 107]).toList == [115, 121, 110, 99]) = false := by rw [bstr_list]; rfl
  have q11 : ((bstr [108, 111, 99, 107]).toList == [102, 111, 114, 107]) = false := by rw [bstr_list]; rfl
  have q12 : ((bstr [108, 111, 99, 107]).toList == [101, 120, 105, 116]) = false := by rw [bstr_list]; rfl
  go_enter Tryd.func40, Tryd.ntmps40
  go_wp2
  go_ret2
  exact ⟨rfl, rfl⟩

set_option maxRecDepth 100000 in
set_option maxHeartbeats 2000000 in
theorem op40_unlock (W : World) : Calls Tryd.prog 40 #[.string (bstr [117, 110, 108, 111, 99, 107])] W fun e W' => e = .returned (.tuple #[.int .i64 4, .int .i64 3]) ∧ W' = W := by
  have q0 : ((bstr [117, 110, 108, 111, 99, 107]).toList == [109, 97, 112]) = false := by rw [bstr_list]; rfl
  have q1 : ((bstr [117, 110, 108, 111, 99, 107]).toList == [117, 110, 109, 97, 112]) = false := by rw [bstr_list]; rfl
  have q2 : ((bstr [117, 110, 108, 111, 99, 107]).toList == [112, 114, 111, 116, 101, 99, 116]) = false := by rw [bstr_list]; rfl
  have q3 : ((bstr [117, 110, 108, 111, 99, 107]).toList == [108, 111, 99, 107]) = false := by rw [bstr_list]; rfl
  have q4 : ((bstr [117, 110, 108, 111, 99, 107]).toList == [117, 110, 108, 111, 99, 107]) = true := by rw [bstr_list]; rfl
  have q5 : ((bstr [117, 110, 108, 111, 99, 107]).toList == [108, 111, 97, 100]) = false := by rw [bstr_list]; rfl
  have q6 : ((bstr [117, 110, 108, 111, 99, 107]).toList == [115, 116, 111, 114, 101]) = false := by rw [bstr_list]; rfl
  have q7 : ((bstr [117, 110, 108, 111, 99, 107]).toList == [114, 101, 97, 100]) = false := by rw [bstr_list]; rfl
  have q8 : ((bstr [117, 110, 108, 111, 99, 107]).toList == [119, 114, 105, 116, 101]) = false := by rw [bstr_list]; rfl
  have q9 : ((bstr [117, 110, 108, 111, 99, 107]).toList == [116, 114, 117, 110, 99, 97, 116, 101]) = false := by rw [bstr_list]; rfl
  have q10 : ((bstr [117, 110, 108, 111, 99, 107]).toList == [115, 121, 110, 99]) = false := by rw [bstr_list]; rfl
  have q11 : ((bstr [117, 110, 108, 111, 99, 107]).toList == [102, 111, 114, 107]) = false := by rw [bstr_list]; rfl
  have q12 : ((bstr [117, 110, 108, 111, 99, 107]).toList == [101, 120, 105, 116]) = false := by rw [bstr_list]; rfl
  go_enter Tryd.func40, Tryd.ntmps40
  go_wp2
  go_ret2
  exact ⟨rfl, rfl⟩

set_option maxRecDepth 100000 in
set_option maxHeartbeats 2000000 in
theorem op40_load (W : World) : Calls Tryd.prog 40 #[.string (bstr [108, 111, 97, 100])] W fun e W' => e = .returned (.tuple #[.int .i64 5, .int .i64 3]) ∧ W' = W := by
  have q0 : ((bstr [108, 111, 97, 100]).toList == [109, 97, 112]) = false := by rw [bstr_list]; rfl
  have q1 : ((bstr [108, 111, 97, 100]).toList == [117, 110, 109, 97, 112]) = false := by rw [bstr_list]; rfl
  have q2 : ((bstr [108, 111, 97, 100]).toList == [112, 114, 111, 116, 101, 99, 116]) = false := by rw [bstr_list]; rfl
  have q3 : ((bstr [108, 111, 97, 100]).toList == [108, 111, 99, 107]) = false := by rw [bstr_list]; rfl
  have q4 : ((bstr [108, 111, 97, 100]).toList == [117, 110, 108, 111, 99, 107]) = false := by rw [bstr_list]; rfl
  have q5 : ((bstr [108, 111, 97, 100]).toList == [108, 111, 97, 100]) = true := by rw [bstr_list]; rfl
  have q6 : ((bstr [108, 111, 97, 100]).toList == [115, 116, 111, 114, 101]) = false := by rw [bstr_list]; rfl
  have q7 : ((bstr [108, 111, 97, 100]).toList == [114, 101, 97, 100]) = false := by rw [bstr_list]; rfl
  have q8 : ((bstr [108, 111, 97, 100]).toList == [119, 114, 105, 116, 101]) = false := by rw [bstr_list]; rfl
  have q9 : ((bstr [108, 111, 97, 100]).toList == [116, 114, 117, 110, 99, 97, 116, 101]) = false := by rw [bstr_list]; rfl
  have q10 : ((bstr [108, 111, 97, 100]).toList == [115, 121, 110, 99]) = false := by rw [bstr_list]; rfl
  have q11 : ((bstr [108, 111, 97, 100]).toList == [102, 111, 114, 107]) = false := by rw [bstr_list]; rfl
  have q12 : ((bstr [108, 111, 97, 100]).toList == [101, 120, 105, 116]) = false := by rw [bstr_list]; rfl
  go_enter Tryd.func40, Tryd.ntmps40
  go_wp2
  go_ret2
  exact ⟨rfl, rfl⟩

set_option maxRecDepth 100000 in
set_option maxHeartbeats 2000000 in
theorem op40_store (W : World) : Calls Tryd.prog 40 #[.string (bstr [115, 116, 111, 114, 101])] W fun e W' => e = .returned (.tuple #[.int .i64 6, .int .i64 4]) ∧ W' = W := by
  have q0 : ((bstr [115, 116, 111, 114, 101]).toList == [109, 97, 112]) = false := by rw [bstr_list]; rfl
  have q1 : ((bstr [115, 116, 111, 114, 101]).toList == [117, 110, 109, 97, 112]) = false := by rw [bstr_list]; rfl
  have q2 : ((bstr [115, 116, 111, 114, 101]).toList == [112, 114, 111, 116, 101, 99, 116]) = false := by rw [bstr_list]; rfl
  have q3 : ((bstr [115, 116, 111, 114, 101]).toList == [108, 111, 99, 107]) = false := by rw [bstr_list]; rfl
  have q4 : ((bstr [115, 116, 111, 114, 101]).toList == [117, 110, 108, 111, 99, 107]) = false := by rw [bstr_list]; rfl
  have q5 : ((bstr [115, 116, 111, 114, 101]).toList == [108, 111, 97, 100]) = false := by rw [bstr_list]; rfl
  have q6 : ((bstr [115, 116, 111, 114, 101]).toList == [115, 116, 111, 114, 101]) = true := by rw [bstr_list]; rfl
  have q7 : ((bstr [115, 116, 111, 114, 101]).toList == [114, 101, 97, 100]) = false := by rw [bstr_list]; rfl
  have q8 : ((bstr [115, 116, 111, 114, 101]).toList == [119, 114, 105, 116, 101]) = false := by rw [bstr_list]; rfl
  have q9 : ((bstr [115, 116, 111, 114, 101]).toList == [116, 114, 117, 110, 99, 97, 116, 101]) = false := by rw [bstr_list]; rfl
  have q10 : ((bstr [115, 116, 111, 114, 101]).toList == [115, 121, 110, 99]) = false := by rw [bstr_list]; rfl
  have q11 : ((bstr [115, 116, 111, 114, 101]).toList == [102, 111, 114, 107]) = false := by rw [bstr_list]; rfl
  have q12 : ((bstr [115, 116, 111, 114, 101]).toList == [101, 120, 105, 116]) = false := by rw [bstr_list]; rfl
  go_enter Tryd.func40, Tryd.ntmps40
  go_wp2
  go_ret2
  exact ⟨rfl, rfl⟩

set_option maxRecDepth 100000 in
set_option maxHeartbeats 2000000 in
theorem op40_read (W : World) : Calls Tryd.prog 40 #[.string (bstr [114, 101, 97, 100])] W fun e W' => e = .returned (.tuple #[.int .i64 7, .int .i64 4]) ∧ W' = W := by
  have q0 : ((bstr [114, 101, 97, 100]).toList == [109, 97, 112]) = false := by rw [bstr_list]; rfl
  have q1 : ((bstr [114, 101, 97, 100]).toList == [117, 110, 109, 97, 112]) = false := by rw [bstr_list]; rfl
  have q2 : ((bstr [114, 101, 97, 100]).toList == [112, 114, 111, 116, 101, 99, 116]) = false := by rw [bstr_list]; rfl
  have q3 : ((bstr [114, 101, 97, 100]).toList == [108, 111, 99, 107]) = false := by rw [bstr_list]; rfl
  have q4 : ((bstr [114, 101, 97, 100]).toList == [117, 110, 108, 111, 99, 107]) = false := by rw [bstr_list]; rfl
  have q5 : ((bstr [114, 101, 97, 100]).toList == [108, 111, 97, 100]) = false := by rw [bstr_list]; rfl
  have q6 : ((bstr [114, 101, 97, 100]).toList == [115, 116, 111, 114, 101]) = false := by rw [bstr_list]; rfl
  have q7 : ((bstr [114, 101, 97, 100]).toList == [114, 101, 97, 100]) = true := by rw [bstr_list]; rfl
  have q8 : ((bstr [114, 101, 97, 100]).toList == [119, 114, 105, 116, 101]) = false := by rw [bstr_list]; rfl
  have q9 : ((bstr [114, 101, 97, 100]).toList == [116, 114, 117, 110, 99, 97, 116, 101]) = false := by rw [bstr_list]; rfl
  have q10 : ((bstr [114, 101, 97, 100]).toList == [115, 121, 110, 99]) = false := by rw [bstr_list]; rfl
  have q11 : ((bstr [114, 101, 97, 100]).toList == [102, 111, 114, 107]) = false := by rw [bstr_list]; rfl
  have q12 : ((bstr [114, 101, 97, 100]).toList == [101, 120, 105, 116]) = false := by rw [bstr_list]; rfl
  go_enter Tryd.func40, Tryd.ntmps40
  go_wp2
  go_ret2
  exact ⟨rfl, rfl⟩

set_option maxRecDepth 100000 in
set_option maxHeartbeats 2000000 in
theorem op40_write (W : World) : Calls Tryd.prog 40 #[.string (bstr [119, 114, 105, 116, 101])] W fun e W' => e = .returned (.tuple #[.int .i64 8, .int .i64 5]) ∧ W' = W := by
  have q0 : ((bstr [119, 114, 105, 116, 101]).toList == [109, 97, 112]) = false := by rw [bstr_list]; rfl
  have q1 : ((bstr [119, 114, 105, 116, 101]).toList == [117, 110, 109, 97, 112]) = false := by rw [bstr_list]; rfl
  have q2 : ((bstr [119, 114, 105, 116, 101]).toList == [112, 114, 111, 116, 101, 99, 116]) = false := by rw [bstr_list]; rfl
  have q3 : ((bstr [119, 114, 105, 116, 101]).toList == [108, 111, 99, 107]) = false := by rw [bstr_list]; rfl
  have q4 : ((bstr [119, 114, 105, 116, 101]).toList == [117, 110, 108, 111, 99, 107]) = false := by rw [bstr_list]; rfl
  have q5 : ((bstr [119, 114, 105, 116, 101]).toList == [108, 111, 97, 100]) = false := by rw [bstr_list]; rfl
  have q6 : ((bstr [119, 114, 105, 116, 101]).toList == [115, 116, 111, 114, 101]) = false := by rw [bstr_list]; rfl
  have q7 : ((bstr [119, 114, 105, 116, 101]).toList == [114, 101, 97, 100]) = false := by rw [bstr_list]; rfl
  have q8 : ((bstr [119, 114, 105, 116, 101]).toList == [119, 114, 105, 116, 101]) = true := by rw [bstr_list]; rfl
  have q9 : ((bstr [119, 114, 105, 116, 101]).toList == [116, 114, 117, 110, 99, 97, 116, 101]) = false := by rw [bstr_list]; rfl
  have q10 : ((bstr [119, 114, 105, 116, 101]).toList == [115, 121, 110, 99]) = false := by rw [bstr_list]; rfl
  have q11 : ((bstr [119, 114, 105, 116, 101]).toList == [102, 111, 114, 107]) = false := by rw [bstr_list]; rfl
  have q12 : ((bstr [119, 114, 105, 116, 101]).toList == [101, 120, 105, 116]) = false := by rw [bstr_list]; rfl
  go_enter Tryd.func40, Tryd.ntmps40
  go_wp2
  go_ret2
  exact ⟨rfl, rfl⟩

set_option maxRecDepth 100000 in
set_option maxHeartbeats 2000000 in
theorem op40_truncate (W : World) : Calls Tryd.prog 40 #[.string (bstr [116, 114, 117, 110, 99, 97, 116, 101])] W fun e W' => e = .returned (.tuple #[.int .i64 9, .int .i64 3]) ∧ W' = W := by
  have q0 : ((bstr [116, 114, 117, 110, 99, 97, 116, 101]).toList == [109, 97, 112]) = false := by rw [bstr_list]; rfl
  have q1 : ((bstr [116, 114, 117, 110, 99, 97, 116, 101]).toList == [117, 110, 109, 97, 112]) = false := by rw [bstr_list]; rfl
  have q2 : ((bstr [116, 114, 117, 110, 99, 97, 116, 101]).toList == [112, 114, 111, 116, 101, 99, 116]) = false := by rw [bstr_list]; rfl
  have q3 : ((bstr [116, 114, 117, 110, 99, 97, 116, 101]).toList == [108, 111, 99, 107]) = false := by rw [bstr_list]; rfl
  have q4 : ((bstr [116, 114, 117, 110, 99, 97, 116, 101]).toList == [117, 110, 108, 111, 99, 107]) = false := by rw [bstr_list]; rfl
  have q5 : ((bstr [116, 114, 117, 110, 99, 97, 116, 101]).toList == [108, 111, 97, 100]) = false := by rw [bstr_list]; rfl
  have q6 : ((bstr [116, 114, 117, 110, 99, 97, 116, 101]).toList == [115, 116, 111, 114, 101]) = false := by rw [bstr_list]; rfl
  have q7 : ((bstr [116, 114, 117, 110, 99, 97, 116, 101]).toList == [114, 101, 97, 100]) = false := by rw [bstr_list]; rfl
  have q8 : ((bstr [116, 114, 117, 110, 99, 97, 116, 101]).toList == [119, 114, 105, 116, 101]) = false := by rw [bstr_list]; rfl
  have q9 : ((bstr [116, 114, 117, 110, 99, 97, 116, 101]).toList == [116, 114, 117, 110, 99, 97, 116, 101]) = true := by rw [bstr_list]; rfl
  have q10 : ((bstr [116, 114, 117, 110, 99, 97, 116, 101]).toList == [115, 121, 110, 99]) = false := by rw [bstr_list]; rfl
  have q11 : ((bstr [116, 114, 117, 110, 99, 97, 116, 101]).toList == [102, 111, 114, 107]) = false := by rw [bstr_list]; rfl
  have q12 : ((bstr [116, 114, 117, 110, 99, 97, 116, 101]).toList == [101, 120, 105, 116]) = false := by rw [bstr_list]; rfl
  go_enter Tryd.func40, Tryd.ntmps40
  go_wp2
  go_ret2
  exact ⟨rfl, rfl⟩

set_option maxRecDepth 100000 in
set_option maxHeartbeats 2000000 in
theorem op40_sync (W : World) : Calls Tryd.prog 40 #[.string (bstr [115, 121, 110, 99])] W fun e W' => e = .returned (.tuple #[.int .i64 10, .int .i64 2]) ∧ W' = W := by
  have q0 : ((bstr [115, 121, 110, 99]).toList == [109, 97, 112]) = false := by rw [bstr_list]; rfl
  have q1 : ((bstr [115, 121, 110, 99]).toList == [117, 110, 109, 97, 112]) = false := by rw [bstr_list]; rfl
  have q2 : ((bstr [115, 121, 110, 99]).toList == [112, 114, 111, 116, 101, 99, 116]) = false := by rw [bstr_list]; rfl
  have q3 : ((bstr [115, 121, 110, 99]).toList == [108, 111, 99, 107]) = false := by rw [bstr_list]; rfl
  have q4 : ((bstr [115, 121, 110, 99]).toList == [117, 110, 108, 111, 99, 107]) = false := by rw [bstr_list]; rfl
  have q5 : ((bstr [115, 121, 110, 99]).toList == [108, 111, 97, 100]) = false := by rw [bstr_list]; rfl
  have q6 : ((bstr [115, 121, 110, 99]).toList == [115, 116, 111, 114, 101]) = false := by rw [bstr_list]; rfl
  have q7 : ((bstr [115, 121, 110, 99]).toList == [114, 101, 97, 100]) = false := by rw [bstr_list]; rfl
  have q8 : ((bstr [115, 121, 110, 99]).toList == [119, 114, 105, 116, 101]) = false := by rw [bstr_list]; rfl
  have q9 : ((bstr [115, 121, 110, 99]).toList == [116, 114, 117, 110, 99, 97, 116, 101]) = false := by rw [bstr_list]; rfl
  have q10 : ((bstr [115, 121, 110, 99]).toList == [115, 121, 110, 99]) = true := by rw [bstr_list]; rfl
  have q11 : ((bstr [115, 121, 110, 99]).toList == [102, 111, 114, 107]) = false := by rw [bstr_list]; rfl
  have q12 : ((bstr [115, 121, 110, 99]).toList == [101, 120, 105, 116]) = false := by rw [bstr_list]; rfl
  go_enter Tryd.func40, Tryd.ntmps40
  go_wp2
  go_ret2
  exact ⟨rfl, rfl⟩

set_option maxRecDepth 100000 in
set_option maxHeartbeats 2000000 in
theorem op40_fork (W : World) : Calls Tryd.prog 40 #[.string (bstr [102, 111, 114, 107])] W fun e W' => e = .returned (.tuple #[.int .i64 11, .int .i64 2]) ∧ W' = W := by
  have q0 : ((bstr [102, 111, 114, 107]).toList == [109, 97, 112]) = false := by rw [bstr_list]; rfl
  have q1 : ((bstr [102, 111, 114, 107]).toList == [117, 110, 109, 97, 112]) = false := by rw [bstr_list]; rfl
  have q2 : ((bstr [102, 111, 114, 107]).toList == [112, 114, 111, 116, 101, 99, 116]) = false := by rw [bstr_list]; rfl
  have q3 : ((bstr [102, 111, 114, 107]).toList == [108, 111, 99, 107]) = false := by rw [bstr_list]; rfl
  have q4 : ((bstr [102, 111, 114, 107]).toList == [117, 110, 108, 111, 99, 107]) = false := by rw [bstr_list]; rfl
  have q5 : ((bstr [102, 111, 114, 107]).toList == [108, 111, 97, 100]) = false := by rw [bstr_list]; rfl
  have q6 : ((bstr [102, 111, 114, 107]).toList == [115, 116, 111, 114, 101]) = false := by rw [bstr_list]; rfl
  have q7 : ((bstr [102, 111, 114, 107]).toList == [114, 101, 97, 100]) = false := by rw [bstr_list]; rfl
  have q8 : ((bstr [102, 111, 114, 107]).toList == [119, 114, 105, 116, 101]) = false := by rw [bstr_list]; rfl
  have q9 : ((bstr [102, 111, 114, 107]).toList == [116, 114, 117, 110, 99, 97, 116, 101]) = false := by rw [bstr_list]; rfl
  have q10 : ((bstr [102, 111, 114, 107]).toList == [115, 121, 110, 99]) = false := by rw [bstr_list]; rfl
  have q11 : ((bstr [102, 111, 114, 107]).toList == [102, 111, 114, 107]) = true := by rw [bstr_list]; rfl
  have q12 : ((bstr [102, 111, 114, 107]).toList == [101, 120, 105, 116]) = false := by rw [bstr_list]; rfl
  go_enter Tryd.func40, Tryd.ntmps40
  go_wp2
  go_ret2
  exact ⟨rfl, rfl⟩

set_option maxRecDepth 100000 in
set_option maxHeartbeats 2000000 in
theorem op40_exit (W : World) : Calls Tryd.prog 40 #[.string (bstr [101, 120, 105, 116])] W fun e W' => e = .returned (.tuple #[.int .i64 12, .int .i64 1]) ∧ W' = W := by
  have q0 : ((bstr [101, 120, 105, 116]).toList == [109, 97, 112]) = false := by rw [bstr_list]; rfl
  have q1 : ((bstr [101, 120, 105, 116]).toList == [117, 110, 109, 97, 112]) = false := by rw [bstr_list]; rfl
  have q2 : ((bstr [101, 120, 105, 116]).toList == [112, 114, 111, 116, 101, 99, 116]) = false := by rw [bstr_list]; rfl
  have q3 : ((bstr [101, 120, 105, 116]).toList == [108, 111, 99, 107]) = false := by rw [bstr_list]; rfl
  have q4 : ((bstr [101, 120, 105, 116]).toList == [117, 110, 108, 111, 99, 107]) = false := by rw [bstr_list]; rfl
  have q5 : ((bstr [101, 120, 105, 116]).toList == [108, 111, 97, 100]) = false := by rw [bstr_list]; rfl
  have q6 : ((bstr [101, 120, 105, 116]).toList == [115, 116, 111, 114, 101]) = false := by rw [bstr_list]; rfl
  have q7 : ((bstr [101, 120, 105, 116]).toList == [114, 101, 97, 100]) = false := by rw [bstr_list]; rfl
  have q8 : ((bstr [101, 120, 105, 116]).toList == [119, 114, 105, 116, 101]) = false := by rw [bstr_list]; rfl
  have q9 : ((bstr [101, 120, 105, 116]).toList == [116, 114, 117, 110, 99, 97, 116, 101]) = false := by rw [bstr_list]; rfl
  have q10 : ((bstr [101, 120, 105, 116]).toList == [115, 121, 110, 99]) = false := by rw [bstr_list]; rfl
  have q11 : ((bstr [101, 120, 105, 116]).toList == [102, 111, 114, 107]) = false := by rw [bstr_list]; rfl
  have q12 : ((bstr [101, 120, 105, 116]).toList == [101, 120, 105, 116]) = true := by rw [bstr_list]; rfl
  go_enter Tryd.func40, Tryd.ntmps40
  go_wp2
  go_ret2
  exact ⟨rfl, rfl⟩

set_option maxRecDepth 100000 in
set_option maxHeartbeats 2000000 in
theorem op40_none (w : Wd) (W : World) (h0 : ¬ w = [109, 97, 112]) (h1 : ¬ w = [117, 110, 109, 97, 112]) (h2 : ¬ w = [112, 114, 111, 116, 101, 99, 116]) (h3 : ¬ w = [108, 111, 99, 107]) (h4 : ¬ w = [117, 110, 108, 111, 99, 107]) (h5 : ¬ w = [108, 111, 97, 100]) (h6 : ¬ w = [115, 116, 111, 114, 101]) (h7 : ¬ w = [114, 101, 97, 100]) (h8 : ¬ w = [119, 114, 105, 116, 101]) (h9 : ¬ w = [116, 114, 117, 110, 99, 97, 116, 101]) (h10 : ¬ w = [115, 121, 110, 99]) (h11 : ¬ w = [102, 111, 114, 107]) (h12 : ¬ w = [101, 120, 105, 116]) : Calls Tryd.prog 40 #[.string (bstr w)] W fun e W' => e = .returned (.tuple #[.int .i64 0, .int .i64 0]) ∧ W' = W := by
  have q0 : ((bstr w).toList == [109, 97, 112]) = false := by rw [bstr_list]; simpa using h0
  have q1 : ((bstr w).toList == [117, 110, 109, 97, 112]) = false := by rw [bstr_list]; simpa using h1
  have q2 : ((bstr w).toList == [112, 114, 111, 116, 101, 99, 116]) = false := by rw [bstr_list]; simpa using h2
  have q3 : ((bstr w).toList == [108, 111, 99, 107]) = false := by rw [bstr_list]; simpa using h3
  have q4 : ((bstr w).toList == [117, 110, 108, 111, 99, 107]) = false := by rw [bstr_list]; simpa using h4
  have q5 : ((bstr w).toList == [108, 111, 97, 100]) = false := by rw [bstr_list]; simpa using h5
  have q6 : ((bstr w).toList == [115, 116, 111, 114, 101]) = false := by rw [bstr_list]; simpa using h6
  have q7 : ((bstr w).toList == [114, 101, 97, 100]) = false := by rw [bstr_list]; simpa using h7
  have q8 : ((bstr w).toList == [119, 114, 105, 116, 101]) = false := by rw [bstr_list]; simpa using h8
  have q9 : ((bstr w).toList == [116, 114, 117, 110, 99, 97, 116, 101]) = false := by rw [bstr_list]; simpa using h9
  have q10 : ((bstr w).toList == [115, 121, 110, 99]) = false := by rw [bstr_list]; simpa using h10
  have q11 : ((bstr w).toList == [102, 111, 114, 107]) = false := by rw [bstr_list]; simpa using h11
  have q12 : ((bstr w).toList == [101, 120, 105, 116]) = false := by rw [bstr_list]; simpa using h12
  clear h0 h1 h2 h3 h4 h5 h6 h7 h8 h9 h10 h11 h12
  generalize bstr w = s at *
  go_enter Tryd.func40, Tryd.ntmps40
  go_wp2
  go_ret2
  exact ⟨rfl, rfl⟩
theorem op40 (w : Wd) (W : World) : Calls Tryd.prog 40 #[.string (bstr w)] W fun e W' => e = .returned (.tuple #[.int .i64 (opR w).1, .int .i64 (opR w).2]) ∧ W' = W := by
  by_cases h0 : w = [109, 97, 112]
  · subst h0; exact op40_map W
  by_cases h1 : w = [117, 110, 109, 97, 112]
  · subst h1; exact op40_unmap W
  by_cases h2 : w = [112, 114, 111, 116, 101, 99, 116]
  · subst h2; exact op40_protect W
  by_cases h3 : w = [108, 111, 99, 107]
  · subst h3; exact op40_lock W
  by_cases h4 : w = [117, 110, 108, 111, 99, 107]
  · subst h4; exact op40_unlock W
  by_cases h5 : w = [108, 111, 97, 100]
  · subst h5; exact op40_load W
  by_cases h6 : w = [115, 116, 111, 114, 101]
  · subst h6; exact op40_store W
  by_cases h7 : w = [114, 101, 97, 100]
  · subst h7; exact op40_read W
  by_cases h8 : w = [119, 114, 105, 116, 101]
  · subst h8; exact op40_write W
  by_cases h9 : w = [116, 114, 117, 110, 99, 97, 116, 101]
  · subst h9; exact op40_truncate W
  by_cases h10 : w = [115, 121, 110, 99]
  · subst h10; exact op40_sync W
  by_cases h11 : w = [102, 111, 114, 107]
  · subst h11; exact op40_fork W
  by_cases h12 : w = [101, 120, 105, 116]
  · subst h12; exact op40_exit W
  unfold opR
  rw [if_neg h0, if_neg h1, if_neg h2, if_neg h3, if_neg h4, if_neg h5, if_neg h6, if_neg h7, if_neg h8, if_neg h9, if_neg h10, if_neg h11, if_neg h12]
  exact op40_none w W h0 h1 h2 h3 h4 h5 h6 h7 h8 h9 h10 h11 h12

def protR (w : Wd) : Int := if w = [114] then 1 else if w = [114, 119] then 3 else 0
set_option maxRecDepth 100000 in
theorem prot42 (w : Wd) (W : World) : Calls Tryd.prog 42 #[.string (bstr w)] W fun e W' => e = .returned (.int .i64 (protR w)) ∧ W' = W := by
  have hl := bstr_list w
  by_cases h1 : w = [114]
  · have HE := Kp.mk (show protR w = 1 by rw [protR, if_pos h1])
    have q1 : ((bstr w).toList == [114]) = true := by rw [hl, h1]; rfl
    clear h1 hl
    go_enter Tryd.func42, Tryd.ntmps42
    go_wp2
    go_ret
    exact ⟨by rw [HE.out]; rfl, rfl⟩
  · have q1 : ((bstr w).toList == [114]) = false := by rw [hl]; simpa using h1
    by_cases h2 : w = [114, 119]
    · have HE := Kp.mk (show protR w = 3 by rw [protR, if_neg h1, if_pos h2])
      have q2 : ((bstr w).toList == [114, 119]) = true := by rw [hl, h2]; rfl
      clear h1 h2 hl
      go_enter Tryd.func42, Tryd.ntmps42
      go_wp2
      go_ret
      exact ⟨by rw [HE.out]; rfl, rfl⟩
    · have HE := Kp.mk (show protR w = 0 by rw [protR, if_neg h1, if_neg h2])
      have q2 : ((bstr w).toList == [114, 119]) = false := by rw [hl]; simpa using h2
      clear h1 h2 hl
      go_enter Tryd.func42, Tryd.ntmps42
      go_wp2
      go_ret
      exact ⟨by rw [HE.out]; rfl, rfl⟩

/-- The value of a number, or -1. -/
def refN (w : Wd) : Int := (numW w).getD (-1)
set_option maxRecDepth 100000 in
set_option maxHeartbeats 2000000 in
theorem number41 (w : Wd) (W : World) (hbig : w.length ≤ 1000000) : Calls Tryd.prog 41 #[.string (bstr w)] W fun e W' => e = .returned (.int .i64 (refN w)) ∧ W' = W := by
  have hs := bstr_size w
  obtain ⟨R, hR⟩ : ∃ R, R = refN w := ⟨_, rfl⟩
  rw [← hR]
  have HBad := Kp.mk (fun (h : numW w = none) => show R = -1 by rw [hR, refN, h]; rfl)
  have HOk := Kp.mk (fun n (h : numW w = some n) => show R = n by rw [hR, refN, h]; rfl)
  clear hR
  by_cases hA : w.length < 1
  · have HE := Kp.mk (HBad.out (by rw [numW, if_pos (by omega)]))
    have h1 : (w.length : Int) < 1 := by omega
    clear HBad HOk
    go_enter Tryd.func41, Tryd.ntmps41
    go_wp2
    go_ret
    exact ⟨by rw [HE.out]; rfl, rfl⟩
  have h1 : ¬ (w.length : Int) < 1 := by omega
  by_cases hB : 3 < w.length
  · have HE := Kp.mk (HBad.out (by rw [numW, if_pos (by omega)]))
    have h2 : (3 : Int) < (w.length : Int) := by omega
    clear HBad HOk
    go_enter Tryd.func41, Tryd.ntmps41
    go_wp2
    go_ret
    exact ⟨by rw [HE.out]; rfl, rfl⟩
  have h2 : ¬ (3 : Int) < (w.length : Int) := by omega
  obtain ⟨a, ha⟩ : ∃ a, w[0]? = some a := ⟨w[0]'(by omega), by simp⟩
  have hx0 : ∀ W, (Instr.index 9 (.string (bstr w)) (.int .i64 0)).run Tryd.prog W = .ok (.int .u8 (a.toNat : Int)) W := fun W => index_at w (i := 0) ha W
  by_cases h48 : a = 48 ∧ 1 < w.length
  · have HE := Kp.mk (HBad.out (by rw [numW, if_pos (by right; right; cases w with | nil => simp at ha | cons x t => simp at ha; subst ha; exact ⟨h48.1, h48.2⟩)]))
    obtain ⟨h48, hl1⟩ := h48
    subst h48
    have h3 : (1 : Int) < (w.length : Int) := by omega
    clear HBad HOk
    go_enter Tryd.func41, Tryd.ntmps41
    go_wp2
    go_ret
    exact ⟨by rw [HE.out]; rfl, rfl⟩
  · have HV := Kp.mk (show numW w = digV w 0 by
      rw [numW, if_neg]
      rintro (h | h | h)
      · exact hA h
      · exact hB h
      · refine h48 ⟨?_, h.2⟩
        cases w with | nil => simp at ha | cons x t => simp at ha; subst ha; exact h.1)
    have hn48 : (a.toNat : Int) ≠ 48 ∨ w.length = 1 := by
      by_cases h : a = 48
      · right
        have : ¬ 1 < w.length := fun c => h48 ⟨h, c⟩
        omega
      · left
        intro e
        apply h
        apply UInt8.toNat_inj.1
        have : a.toNat = 48 := by omega
        rw [this]
        rfl
    clear h48
    by_cases hC : 1 < w.length
    all_goals
      go_enter Tryd.func41, Tryd.ntmps41
      go_wp2
      all_goals clear hx0 hn48
      all_goals
        go_loop [3, 4] (fun n x => ∃ (i : Nat) (m : Int), i ≤ w.length ∧ x = .int .i64 i ∧ n = .int .i64 m ∧ 0 ≤ m ∧ m ≤ 10 ^ i - 1 ∧ Kp (numW w = digV (w.drop i) m)) (fun n x => w.length - (intOf x).toNat)
        case atStart => exact ⟨0, 0, by omega, rfl, rfl, by omega, by omega, HV⟩
        case round =>
          clear HV
          obtain ⟨i, m, hil, rfl, rfl, m0, m1, HV⟩ := hrel
          by_cases hi : i < w.length
          · obtain ⟨b, hb⟩ : ∃ b, w[i]? = some b := ⟨w[i], by simp [hi]⟩
            have hx := index_at w hb
            have hst := digV_step hb m
            have hp := pow10 (show i < 3 by omega)
            by_cases hd : b.toNat < 48 ∨ 57 < b.toNat
            · have HE := Kp.mk (HBad.out (by rw [HV.out, hst, if_pos hd]))
              have hd' : (b.toNat : Int) < 48 ∨ 57 < (b.toNat : Int) := by omega
              clear HBad HOk hst
              go_wp2
              all_goals go_ret
              all_goals exact ⟨by rw [HE.out]; rfl, rfl⟩
            · have HV' := Kp.mk (show numW w = digV (w.drop (i + 1)) (10 * m + ((b.toNat : Int) - 48)) by rw [HV.out, hst, if_neg hd])
              have hd1 : 48 ≤ (b.toNat : Int) := by omega
              have hd2 : (b.toNat : Int) ≤ 57 := by omega
              clear hst hd
              go_wp2
              all_goals exact ⟨⟨i + 1, 10 * m + ((b.toNat : Int) - 48), by omega, by congr 1, rfl, by omega, by rw [hp.1]; omega, HV'⟩, by simp only [intOf]; omega⟩
          · have HE := Kp.mk (HOk.out m (by rw [HV.out, List.drop_of_length_le (by omega)]; rfl))
            go_wp2
            go_ret
            exact ⟨by rw [HE.out]; rfl, rfl⟩
end Go.Proofs.YtiomnlgnhdhffaaDoor
