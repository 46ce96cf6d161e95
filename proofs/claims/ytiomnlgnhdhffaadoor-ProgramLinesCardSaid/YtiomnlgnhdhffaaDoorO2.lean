/-
  The capacity of a slice that can be read. Conditions: none but what each theorem names.
-/
import Derived.Test.YtiomnlgnhdhffaaDoorO
namespace Go.Proofs.YtiomnlgnhdhffaaDoor
open Go Go.WideShapes Go.RowKit Go.Deep
set_option linter.unusedVariables false
theorem code_cap {H : Type} {enc : TypeId × Value → H} {W : World} {base : Nat} {spare : Nat → Bool} {held : Bool} {A : Option Addr} {n cap : Nat} {d : DataW H} {p : List MemPlace} (h : DataW.Trod enc Tryd.prog W base spare held 22 (.slice A n cap) d p) : n ≤ cap ∧ cap ≤ 9223372036854775807 := by
  obtain ⟨fuel, hf⟩ := h
  rcases open_slice Tryd.underlying22 hf with ⟨hcs, _⟩ | ⟨a, len', cap', m, k, D, PL, hcs, hb, hl, hm, hmm, hx, hi⟩
  · simp [Value.cells] at hcs
    obtain ⟨rfl, rfl, rfl⟩ := hcs
    exact ⟨Nat.le_refl _, by omega⟩
  · simp [Value.cells] at hcs
    obtain ⟨rfl, rfl, rfl⟩ := hcs
    unfold maxLen at hm
    exact ⟨hl, by omega⟩
end Go.Proofs.YtiomnlgnhdhffaaDoor
