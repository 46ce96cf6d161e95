/-
  The walk of the reference's instr, whole. Conditions: the words lie as said.
-/
import Derived.Test.YtiomnlgnhdhffaaDoorT10
namespace Go.Proofs.YtiomnlgnhdhffaaDoor
open Go.RowKit
set_option linter.unusedVariables false
set_option linter.unusedSimpArgs false
theorem instr26 (v : Wd) (t : List Wd) (A : Option Addr) (cap : Nat) (w : World) (hs : StrsAt w A (v :: t)) (hbig : ∀ x ∈ v :: t, x.length ≤ 1000000) (hlen : t.length ≤ 1000000) (hcap : (v :: t).length ≤ cap) (hcap2 : cap ≤ 9223372036854775807) :
    Calls Tryd.prog 26 #[.slice A (t.length + 1) cap] w fun e w' => InsPost (instrR (v :: t)) w e w' := by
  have hh : (v :: t).headD [] = v := rfl
  by_cases hbad : (opR v).1 = 0 ∨ (t.length : Int) + 1 < (opR v).2 ∨ ((opR v).2 < (t.length : Int) + 1 ∧ (opR v).1 ≠ 1)
  · have he : instrR (v :: t) = (zI, false) := by
      unfold instrR
      rw [hh]
      dsimp only
      rw [if_pos]
      have hr := opR_rng v
      rcases hbad with h | h | h
      · exact .inl h
      · right; left; simp; omega
      · right; right
        refine ⟨?_, h.2⟩
        have : 0 ≤ (opR v).2 := by
          rcases hr with hr | hr
          · rw [hr]; decide
          · omega
        simp; omega
    rw [he]
    exact (instr_no v t A cap w hs hlen hbad).mono fun e w' h => h
  · rcases opR_rng v with hr | ⟨h1, h2, h3, h4, h5, h6⟩
    · exact absurd (.inl (by rw [hr])) hbad
    · by_cases ho1 : (opR v).1 = 1
      · have hop : opR v = (1, 4) := by ext; exact ho1; exact h5 ho1
        obtain ⟨m, hm⟩ : ∃ m, t.length + 1 = m + 4 := ⟨t.length - 3, by rw [hop] at hbad; simp at hbad; omega⟩
        rw [hm]
        by_cases hm0 : m = 0
        · exact instr_map4 v t m A cap w hs hbig hop hm hcap hcap2 hm0
        · exact instr_map5 v t m A cap w hs hbig hop hm hcap hcap2 (by omega)
      · have hl : (t.length : Int) + 1 = (opR v).2 := by omega
        by_cases ho3 : (opR v).1 = 3
        · have hop : opR v = (3, 4) := by ext; exact ho3; exact h6 ho3
          exact rinstr_protect v t A cap w hs hbig hop (by rw [hop] at hl; simp at hl; omega)
        · have hop : opR v = ((opR v).1, ((t.length + 1 : Nat) : Int)) := by ext; rfl; simp; omega
          exact instr_other v t (opR v).1 (t.length + 1) A cap w hs hbig hop ⟨h1, h2⟩ (by omega) rfl ho1 ho3
end Go.Proofs.YtiomnlgnhdhffaaDoor
