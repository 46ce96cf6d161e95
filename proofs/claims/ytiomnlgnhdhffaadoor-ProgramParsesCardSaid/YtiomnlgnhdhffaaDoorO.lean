/-
  How the statements' arguments are opened: a slice of instructions; the listed table of powers. Conditions: none but what each theorem names.
-/
import Derived.Test.YtiomnlgnhdhffaaDoorF2
import Derived.Test.YtiomnlgnhdhffaaDoorB5
import Derived.Test.YtiomnlgnhdhffaaDoorRows
import Derived.WalkKit
import Derived.ProofKit
import Derived.OpenShut
import Derived.SizedLaws
import Derived.Deep.Slices
import Derived.Lib.LaidU8
import Derived.Lib.LaidTab
namespace Go.Proofs.YtiomnlgnhdhffaaDoor
open Go.RowKit Go.ChangeShapes Go.WideShapes Go.Deep
set_option linter.unusedVariables false
set_option linter.unusedSimpArgs false
set_option maxRecDepth 4000

section
variable {H : Type} {enc : TypeId × Value → H} {W : World} {base : Nat} {spare : Nat → Bool} {held : Bool}

theorem eight_of {α : Type} : ∀ cs : List α, cs.length = 8 → ∃ c0 c1 c2 c3 c4 c5 c6 c7, cs = [c0, c1, c2, c3, c4, c5, c6, c7]
  | [c0, c1, c2, c3, c4, c5, c6, c7], _ => ⟨c0, c1, c2, c3, c4, c5, c6, c7, rfl⟩
theorem list_of {α : Type} {R : Nat → α → Prop} : ∀ n : Nat, (∀ i, i < n → ∃ x, R i x) → ∃ l : List α, l.length = n ∧ ∀ i x, l[i]? = some x → R i x
  | 0, _ => ⟨[], rfl, fun i x h => by simp at h⟩
  | n + 1, h => by
    obtain ⟨l, hl, hr⟩ := list_of n fun i hi => h i (by omega)
    obtain ⟨x, hx⟩ := h n (by omega)
    refine ⟨l ++ [x], by simp [hl], fun i y hy => ?_⟩
    by_cases hi : i < n
    · rw [List.getElem?_append_left (by omega)] at hy
      exact hr i y hy
    · rw [List.getElem?_append_right (by omega)] at hy
      have : i = n := by
        rcases Nat.lt_or_ge (i - l.length) 1 with h1 | h1
        · omega
        · rw [List.getElem?_eq_none (by simpa using h1)] at hy; cases hy
      subst this
      rw [hl] at hy
      simp at hy
      rw [← hy]
      exact hx

theorem ins_of_trod {fuel : Nat} {cs : List Value} {x : DataW H × List MemPlace} (h : DataW.trod enc Tryd.prog W base spare held fuel 36 cs = some x) : ∃ z : Ins, cs = z.cells := by
  obtain ⟨xs, n, _, hx, hlen, hxl, hf⟩ := DataW.trod_struct Tryd.underlying36 h
  have hc36 : Tryd.prog.cellsOf 36 = 8 := by kernel_rfl
  have hc3 : Tryd.prog.cellsOf 3 = 1 := by kernel_rfl
  rw [hc36] at hlen
  obtain ⟨c0, c1, c2, c3, c4, c5, c6, c7, rfl⟩ := eight_of cs hlen
  obtain ⟨y0, y1, y2, y3, y4, y5, y6, y7, rfl⟩ := eight_of xs hxl
  have g0 := hf 0 _ rfl
  have g1 := hf 1 _ rfl
  have g2 := hf 2 _ rfl
  have g3 := hf 3 _ rfl
  have g4 := hf 4 _ rfl
  have g5 := hf 5 _ rfl
  have g6 := hf 6 _ rfl
  have g7 := hf 7 _ rfl
  simp only [hc3, List.drop_zero, List.drop_succ_cons, List.take_succ_cons, List.take_zero, List.getElem?_cons_zero, List.getElem?_cons_succ] at g0 g1 g2 g3 g4 g5 g6 g7
  obtain ⟨x0, e0, _, _⟩ := DataW.trod_int Tryd.underlying3 g0
  obtain ⟨x1, e1, _, _⟩ := DataW.trod_int Tryd.underlying3 g1
  obtain ⟨x2, e2, _, _⟩ := DataW.trod_int Tryd.underlying3 g2
  obtain ⟨x3, e3, _, _⟩ := DataW.trod_int Tryd.underlying3 g3
  obtain ⟨x4, e4, _, _⟩ := DataW.trod_int Tryd.underlying3 g4
  obtain ⟨x5, e5, _, _⟩ := DataW.trod_int Tryd.underlying3 g5
  obtain ⟨x6, e6, _, _⟩ := DataW.trod_int Tryd.underlying3 g6
  obtain ⟨x7, e7, _, _⟩ := DataW.trod_int Tryd.underlying3 g7
  obtain rfl : c0 = .int .i64 x0 := (List.cons.inj e0).1
  obtain rfl : c1 = .int .i64 x1 := (List.cons.inj e1).1
  obtain rfl : c2 = .int .i64 x2 := (List.cons.inj e2).1
  obtain rfl : c3 = .int .i64 x3 := (List.cons.inj e3).1
  obtain rfl : c4 = .int .i64 x4 := (List.cons.inj e4).1
  obtain rfl : c5 = .int .i64 x5 := (List.cons.inj e5).1
  obtain rfl : c6 = .int .i64 x6 := (List.cons.inj e6).1
  obtain rfl : c7 = .int .i64 x7 := (List.cons.inj e7).1
  exact ⟨⟨x0, x1, x2, x3, x4, x5, x6, x7⟩, rfl⟩

theorem open_code {v : Value} {d : DataW H} {p : List MemPlace} {ts : List TypeId} {ds : List (DataW H)} {j : Nat} {r : Reach} {b : Nat}
    (hsz : (DataW.weightsEach Tryd.prog ts ds).all (· ≤ reachBytes) = true) (hts : ts[j]? = some 22) (hd : ds[j]? = some d)
    (hv : Value.okWide Tryd.prog W r b 22 v) (h : DataW.Trod enc Tryd.prog W base spare held 22 v d p) : ∃ A xs cap, v = .slice A xs.length cap ∧ InsAt W A xs ∧ xs.length ≤ 4611686018427387904 := by
  have hw : ∀ n ∈ d.weights Tryd.prog 22, n ≤ reachBytes := fun n hn => by simpa using List.all_eq_true.1 hsz _ (DataW.weights_mem_each hts hd n hn)
  obtain ⟨a0, len, cap, rfl⟩ := okWide_slice Tryd.underlying22 hv
  obtain ⟨fuel, hf⟩ := h
  have hc36 : Tryd.prog.cellsOf 36 = 8 := by kernel_rfl
  have hb36 : Tryd.prog.bytesOf 36 = 64 := by kernel_rfl
  rcases open_slice Tryd.underlying22 hf with ⟨hcs, _⟩ | ⟨a, len', cap', m, n, D, PL, hcs, hb, hl, hm, hmm, hx, hi⟩
  · simp [Value.cells] at hcs
    obtain ⟨rfl, rfl, rfl⟩ := hcs
    exact ⟨none, [], 0, rfl, fun h => absurd rfl h, by simp⟩
  · simp [Value.cells] at hcs
    obtain ⟨rfl, rfl, rfl⟩ := hcs
    have hdx : d = .slice ((List.range len).map D) ((List.range (m - len)).map fun j => D (len + j)) := (Prod.mk.inj hx).1
    have hlm : len ≤ m := by rw [hmm]; split <;> omega
    have h62 : len * 64 ≤ reachBytes := by
      have h1 := hw ((((List.range len).map D).length + ((List.range (m - len)).map fun j => D (len + j)).length) * Tryd.prog.bytesOf 36) (by rw [hdx]; simp [DataW.weights, Tryd.underlying22])
      rw [hb36] at h1
      simp only [List.length_map, List.length_range] at h1
      omega
    obtain ⟨zs, hzl, hzs⟩ := list_of (R := fun i (z : Ins) => ∀ j v, z.cells[j]? = some v → W.cell? (a.add (i * 8 + j)) = some v) len (fun i hil => by
      obtain ⟨cs', hc, ht⟩ := hi i (by omega)
      rw [hc36] at hc
      obtain ⟨_, hcl, hat⟩ := World.cells?_some hc
      obtain ⟨z, hcz⟩ := ins_of_trod ht
      refine ⟨z, fun j v hj => ?_⟩
      have hj8 : j < 8 := by have := (List.getElem?_eq_some_iff.1 hj).1; simpa [Ins.cells] using this
      have := hat j hj8
      rw [hcz] at this
      rw [← Go.Deep.add_add, this]
      exact hj)
    refine ⟨some a, zs, cap, by rw [hzl], fun hne => ?_, by simp only [reachBytes] at h62; omega⟩
    have hl0 : 0 < zs.length := List.length_pos_iff.2 hne
    have h0 := hzs 0 zs[0] (by simp [hl0]) 0 _ rfl
    have hspot : a.spot = none := by simpa [Addr.add] using World.cell?_spot h0
    have hblk := block_lt_of_cell h0
    obtain ⟨b, off, spot⟩ := a
    simp only at hspot
    subst hspot
    refine ⟨b, off, rfl, by simpa [Addr.add] using hblk, fun j z hj i v hv => ?_⟩
    have := hzs j z hj i v hv
    rw [Go.WideShapes.add_plain] at this
    rw [Nat.add_assoc]
    exact this
end

/-- The listed table, out of the row's condition. -/
theorem tab_of_laid {W : World} {l : List (String × DataW Unit)} (h : laidMet Tryd.prog l W) (hm : ("internal/strconv.uint64pow10", Lib.tabData .u64 Lib.pow10Tab) ∈ l) : Tb W.heap.size W := by
  refine Lib.tabBelow_of_tabIs ?_
  obtain ⟨g, t, cs, fuel, p, hg, ht, hvar, hd⟩ := Lib.laidMet.reads h hm
  have hg0 : Tryd.prog.globalNamed "internal/strconv.uint64pow10" = some 3 := by kernel_rfl
  obtain rfl := Option.some.inj (hg0.symm.trans hg)
  have ht0 : (Tryd.prog.globals[3]?).map (·.type) = some 104 := by kernel_rfl
  obtain rfl := Option.some.inj (ht0.symm.trans ht)
  unfold Lib.TabIs
  rw [hvar, ← Lib.cells_of_tab Tryd.underlying104 Tryd.underlying87 (by kernel_rfl) (by kernel_rfl) hd]
end Go.Proofs.YtiomnlgnhdhffaaDoor
