/-
  How the statements' arguments are opened: arrays of two and three numbers by value, slices of ints. Conditions: none but what each theorem names.
-/
import Derived.Test.YtmomcelnfljnmaaC
import Derived.Test.YtmomcelnfljnmaaWSized
import Derived.WalkKit
import Derived.ProofKit
import Derived.OpenShut
import Derived.SizedLaws
namespace Go.Proofs.Ytmomcelnfljnmaa
open Go.RowKit Go.ChangeShapes Go.WideShapes
set_option linter.unusedVariables false

section
variable {H : Type} {enc : TypeId × Value → H} {P : Program} {W : World} {base : Nat} {spare : Nat → Bool} {held : Bool}

theorem okWide_array {t e : TypeId} {n : Nat} {v : Value} {r : Reach} {b : Nat} (ht : P.underlying t = some (.array n e)) (h : Value.okWide P W r b t v) : ∃ cs, v = .agg cs ∧ cs.size = P.cellsOf t := by
  simp only [Value.okWide, ht] at h
  obtain ⟨cs, h1, h2, _⟩ := h
  exact ⟨cs, h1, h2⟩
/-- An array of ints by value: each cell is an int. -/
theorem open_arr {t e : TypeId} {n : Nat} {k : IntKind} {v : Value} {d : DataW H} {p : List MemPlace} {r : Reach} {b : Nat} (ht : P.underlying t = some (.array n e)) (he : P.underlying e = some (.int k)) (hc : P.cellsOf e = 1) (hn : P.cellsOf t = n)
    (hv : Value.okWide P W r b t v) (h : DataW.Trod enc P W base spare held t v d p) : ∃ cs : Array Value, v = .agg cs ∧ cs.size = n ∧ ∀ i, i < n → ∃ x, cs.toList[i]? = some (.int k x) ∧ (Lit.int k x).wf = true := by
  obtain ⟨cs, rfl, hs⟩ := okWide_array ht hv
  obtain ⟨fuel, hf⟩ := h
  obtain ⟨xs, m, _, _, hl, hx, hi⟩ := DataW.trod_array ht hf
  refine ⟨cs, rfl, hs.trans hn, fun i hin => ?_⟩
  have h1 := hi i hin
  rw [List.getElem?_eq_getElem (by omega), hc, Nat.mul_one] at h1
  obtain ⟨x, e0, _, wf⟩ := DataW.trod_int he h1
  have hlen : (Value.cells (.agg cs)).toList.length = n := by simpa [Value.cells] using hs.trans hn
  have e1 : ((Value.cells (.agg cs)).toList.drop i).take 1 = [(Value.cells (.agg cs)).toList[i]'(by omega)] := by
    rw [List.take_one, List.head?_drop, List.getElem?_eq_getElem (by omega)]
    rfl
  rw [e1] at e0
  simp only [List.cons.injEq, and_true] at e0
  refine ⟨x, ?_, wf⟩
  rw [List.getElem?_eq_getElem (by simpa [Value.cells] using (show i < (Value.cells (.agg cs)).toList.length by omega))]
  exact congrArg some (by simpa [Value.cells] using e0)
theorem open_arr2 {t e : TypeId} {k : IntKind} {v : Value} {d : DataW H} {p : List MemPlace} {r : Reach} {b : Nat} (ht : P.underlying t = some (.array 2 e)) (he : P.underlying e = some (.int k)) (hc : P.cellsOf e = 1) (hn : P.cellsOf t = 2)
    (hv : Value.okWide P W r b t v) (h : DataW.Trod enc P W base spare held t v d p) : ∃ x y, v = .agg #[.int k x, .int k y] := by
  obtain ⟨cs, rfl, hs, hi⟩ := open_arr ht he hc hn hv h
  obtain ⟨x, hx, _⟩ := hi 0 (by omega)
  obtain ⟨y, hy, _⟩ := hi 1 (by omega)
  refine ⟨x, y, ?_⟩
  obtain ⟨l⟩ := cs
  match l, hs with
  | [a, b], _ => simp at hx hy; rw [hx, hy]
theorem open_arr3 {t e : TypeId} {k : IntKind} {v : Value} {d : DataW H} {p : List MemPlace} {r : Reach} {b : Nat} (ht : P.underlying t = some (.array 3 e)) (he : P.underlying e = some (.int k)) (hc : P.cellsOf e = 1) (hn : P.cellsOf t = 3)
    (hv : Value.okWide P W r b t v) (h : DataW.Trod enc P W base spare held t v d p) : ∃ x y z, v = .agg #[.int k x, .int k y, .int k z] ∧ (Lit.int k x).wf = true ∧ (Lit.int k y).wf = true ∧ (Lit.int k z).wf = true := by
  obtain ⟨cs, rfl, hs, hi⟩ := open_arr ht he hc hn hv h
  obtain ⟨x, hx, wx⟩ := hi 0 (by omega)
  obtain ⟨y, hy, wy⟩ := hi 1 (by omega)
  obtain ⟨z, hz, wz⟩ := hi 2 (by omega)
  refine ⟨x, y, z, ?_, wx, wy, wz⟩
  obtain ⟨l⟩ := cs
  match l, hs with
  | [a, b, c], _ => simp at hx hy hz; rw [hx, hy, hz]
/-- A slice of ints that came in. -/
theorem open_ints_at {t e : TypeId} {v : Value} {d : DataW H} {p : List MemPlace} {ts : List TypeId} {ds : List (DataW H)} {j : Nat} {r : Reach} {b : Nat}
    (hsz : (DataW.weightsEach P ts ds).all (· ≤ reachBytes) = true) (hts : ts[j]? = some t) (hd : ds[j]? = some d) (ht : P.underlying t = some (.slice e)) (he : P.underlying e = some (.int .i64)) (hc : P.cellsOf e = 1) (hB : P.bytesOf e = 8)
    (hv : Value.okWide P W r b t v) (h : DataW.Trod enc P W base spare held t v d p) : ∃ A l cap, v = .slice A l.length cap ∧ IntsAt W A l ∧ l.length ≤ cap ∧ l.length ≤ 4611686018427387904 := by
  obtain ⟨a0, len, cap, rfl⟩ := okWide_slice ht hv
  have hlen := Go.Proofs.YtmomcelnfljnmaaW.PrintWords.sized_ints hsz hts hd ht he hc hB h
  obtain ⟨fuel, hf⟩ := h
  rcases open_ints ht he hc hf with ⟨hcs, _⟩ | ⟨x, l, c, zs, hcs, _, hl, hm, hz, _, hcell, hwz⟩
  · simp [Value.cells] at hcs
    obtain ⟨rfl, rfl, rfl⟩ := hcs
    exact ⟨none, [], 0, rfl, ⟨by simp, fun h => absurd rfl h⟩, by simp, by simp⟩
  · simp [Value.cells] at hcs
    obtain ⟨rfl, rfl, rfl⟩ := hcs
    have hlz : len ≤ zs.length := by rw [hz]; split <;> omega
    have hl' : (zs.take len).length = len := by rw [List.length_take]; omega
    refine ⟨some x, zs.take len, cap, by rw [hl'], ⟨by omega, fun hne => ⟨x, rfl, ?_, fun j y hj => ?_⟩⟩, by omega, by omega⟩
    · have h0 : 0 < zs.length := by
        rcases Nat.eq_zero_or_pos zs.length with h0 | h0
        · exact absurd (by rw [List.eq_nil_of_length_eq_zero h0]; simp) hne
        · exact h0
      have := block_lt_of_cell (hcell 0 h0)
      simpa [Addr.add] using this
    · rw [List.getElem?_take] at hj
      split at hj
      · rw [hcell j (List.getElem?_eq_some_iff.1 hj).1]
        simp [List.getD, hj]
      · simp at hj
end
end Go.Proofs.Ytmomcelnfljnmaa
