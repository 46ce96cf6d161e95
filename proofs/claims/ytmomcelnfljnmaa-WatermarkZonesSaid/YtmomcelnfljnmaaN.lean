/-
  How the statement's argument is opened: a slice of zones. Conditions: none but what each theorem names.
-/
import Derived.Test.YtmomcelnfljnmaaY
import Derived.WalkKit
import Derived.ProofKit
import Derived.OpenShut
import Derived.SizedLaws
import Derived.Deep.Slices
namespace Go.Proofs.Ytmomcelnfljnmaa
open Go.RowKit Go.ChangeShapes Go.WideShapes Go.Deep
set_option linter.unusedVariables false
set_option linter.unusedSimpArgs false
set_option maxRecDepth 4000

section
variable {H : Type} {enc : TypeId × Value → H} {W : World} {base : Nat} {spare : Nat → Bool} {held : Bool}

theorem ten_of {α : Type} : ∀ cs : List α, cs.length = 10 → ∃ c0 c1 c2 c3 c4 c5 c6 c7 c8 c9, cs = [c0, c1, c2, c3, c4, c5, c6, c7, c8, c9]
  | [c0, c1, c2, c3, c4, c5, c6, c7, c8, c9], _ => ⟨c0, c1, c2, c3, c4, c5, c6, c7, c8, c9, rfl⟩
theorem six_of {α : Type} : ∀ cs : List α, cs.length = 6 → ∃ c0 c1 c2 c3 c4 c5, cs = [c0, c1, c2, c3, c4, c5]
  | [c0, c1, c2, c3, c4, c5], _ => ⟨c0, c1, c2, c3, c4, c5, rfl⟩
theorem five_of {α : Type} : ∀ cs : List α, cs.length = 5 → ∃ c0 c1 c2 c3 c4, cs = [c0, c1, c2, c3, c4]
  | [c0, c1, c2, c3, c4], _ => ⟨c0, c1, c2, c3, c4, rfl⟩
theorem mem_weightsAll {P : Program} {e : TypeId} {n : Nat} : ∀ {ds : List (DataW H)} {d : DataW H}, d ∈ ds → n ∈ d.weights P e → n ∈ DataW.weightsAll P e ds
  | x :: r, d, h, hn => by
    simp only [DataW.weightsAll, List.mem_append]
    rcases List.mem_cons.1 h with rfl | h
    · exact .inl hn
    · exact .inr (mem_weightsAll h hn)
theorem list_of {α : Type} {R : Nat → α → Prop} : ∀ n : Nat, (∀ i, i < n → ∃ x, R i x) → ∃ l : List α, l.length = n ∧ ∀ i x, l[i]? = some x → R i x
  | 0, _ => ⟨[], rfl, fun i x h => by simp at h⟩
  | n + 1, h => by
    obtain ⟨l, hl, hr⟩ := list_of n fun i hi => h i (by omega)
    obtain ⟨x, hx⟩ := h n (by omega)
    refine ⟨l ++ [x], by simp [hl], fun i y hy => ?_⟩
    by_cases hi : i < n
    · rw [List.getElem?_append_left (by omega)] at hy
      exact hr i y hy
    · rw [List.getElem?_append_right (by omega)] at hy
      have : i = n := by
        rcases Nat.lt_or_ge (i - l.length) 1 with h1 | h1
        · omega
        · rw [List.getElem?_eq_none (by simpa using h1)] at hy; cases hy
      subst this
      rw [hl] at hy
      simp at hy
      rw [← hy]
      exact hx

/-- A list that lies in one cell. -/
theorem ints_of_trod {fuel : Nat} {c : Value} {x : DataW H × List MemPlace} (h : DataW.trod enc Try.prog W base spare held fuel 33 [c] = some x) (hw : ∀ n ∈ x.1.weights Try.prog 33, n ≤ reachBytes) : ∃ A l cap, c = .slice A l.length cap ∧ IntsAt W A l := by
  rcases open_ints Try.underlying33 Try.underlying3 (by kernel_rfl) h with ⟨hcs, _⟩ | ⟨x, l, cap, zs, hcs, _, hl, hm, hz, hx, hcell, hwz⟩
  · obtain rfl : c = .slice none 0 0 := by simpa using hcs
    exact ⟨none, [], 0, rfl, by simp, fun h => absurd rfl h⟩
  · obtain rfl : c = .slice (some x) l cap := by simpa using hcs
    have hlz : l ≤ zs.length := by rw [hz]; split <;> omega
    have hl' : (zs.take l).length = l := by rw [List.length_take]; omega
    have hb : Try.prog.bytesOf 3 = 8 := by kernel_rfl
    have h62 : l * 8 ≤ reachBytes := by
      have h1 := hw (((lits (H := H) .i64 (zs.take l)).length + (lits (H := H) .i64 (zs.drop l)).length) * Try.prog.bytesOf 3) (by rw [hx]; simp [DataW.weights, Try.underlying33])
      rw [hb] at h1
      simp only [lits, List.length_map, hl'] at h1
      omega
    refine ⟨some x, zs.take l, cap, by rw [hl'], by simp only [reachBytes] at h62; omega, fun hne => ⟨x, rfl, ?_, fun j y hj => ?_⟩⟩
    · have h0 : 0 < zs.length := by
        rcases Nat.eq_zero_or_pos zs.length with h0 | h0
        · exact absurd (by rw [List.eq_nil_of_length_eq_zero h0]; simp) hne
        · exact h0
      have := block_lt_of_cell (hcell 0 h0)
      simpa [Addr.add] using this
    · rw [List.getElem?_take] at hj
      split at hj
      · rw [hcell j (List.getElem?_eq_some_iff.1 hj).1]
        simp [List.getD, hj]
      · simp at hj

theorem zone_of_trod {fuel : Nat} {cs : List Value} {x : DataW H × List MemPlace} (h : DataW.trod enc Try.prog W base spare held fuel 60 cs = some x) (hw : ∀ n ∈ x.1.weights Try.prog 60, n ≤ reachBytes) : ∃ z P, cs = (cellsZ z P).toList ∧ ∀ k, k < 5 → IntsAt W (P.A k) (z.l k) := by
  obtain ⟨xs, n, _, hx, hlen, hxl, hf⟩ := DataW.trod_struct Try.underlying60 h
  have hc60 : Try.prog.cellsOf 60 = 10 := by kernel_rfl
  have hc3 : Try.prog.cellsOf 3 = 1 := by kernel_rfl
  have hc58 : Try.prog.cellsOf 58 = 5 := by kernel_rfl
  have hc33 : Try.prog.cellsOf 33 = 1 := by kernel_rfl
  rw [hc60] at hlen
  obtain ⟨c0, c1, c2, c3, c4, c5, c6, c7, c8, c9, rfl⟩ := ten_of cs hlen
  obtain ⟨y0, y1, y2, y3, y4, y5, rfl⟩ := six_of xs hxl
  have g0 := hf 0 _ rfl
  have g1 := hf 1 _ rfl
  have g2 := hf 2 _ rfl
  have g3 := hf 3 _ rfl
  have g4 := hf 4 _ rfl
  have g5' := hf 5 _ rfl
  simp only [hc3, hc58, List.drop_zero, List.drop_succ_cons, List.take_succ_cons, List.take_zero, List.getElem?_cons_zero, List.getElem?_cons_succ] at g0 g1 g2 g3 g4 g5'
  obtain ⟨x0, e0, _, _⟩ := DataW.trod_int Try.underlying3 g0
  obtain ⟨x1, e1, _, _⟩ := DataW.trod_int Try.underlying3 g1
  obtain ⟨x2, e2, _, _⟩ := DataW.trod_int Try.underlying3 g2
  obtain ⟨x3, e3, _, _⟩ := DataW.trod_int Try.underlying3 g3
  obtain ⟨x4, e4, _, _⟩ := DataW.trod_int Try.underlying3 g4
  have w5 : ∀ n ∈ y5.1.weights Try.prog 58, n ≤ reachBytes := by
    intro n hn
    refine hw n ?_
    rw [hx]
    simp only [DataW.weights, Try.underlying60]
    exact DataW.weights_mem_each (j := 5) rfl rfl n hn
  obtain ⟨zs, m, _, hy5, _, hzl, hz⟩ := DataW.trod_array Try.underlying58 g5'
  obtain ⟨a0, a1, a2, a3, a4, rfl⟩ := five_of zs hzl
  have t0 := hz 0 (by omega)
  have t1 := hz 1 (by omega)
  have t2 := hz 2 (by omega)
  have t3 := hz 3 (by omega)
  have t4 := hz 4 (by omega)
  simp only [hc33, Nat.zero_mul, Nat.one_mul, Nat.reduceMul, List.drop_zero, List.drop_succ_cons, List.take_succ_cons, List.take_zero, List.getElem?_cons_zero, List.getElem?_cons_succ] at t0 t1 t2 t3 t4
  have wz : ∀ y ∈ [a0, a1, a2, a3, a4], ∀ n ∈ y.1.weights Try.prog 33, n ≤ reachBytes := by
    intro y hy n hn
    refine w5 n ?_
    rw [hy5]
    simp only [DataW.weights, Try.underlying58]
    exact mem_weightsAll (List.mem_map.2 ⟨y, hy, rfl⟩) hn
  obtain ⟨A0, l0, p0, f0, i0⟩ := ints_of_trod t0 (wz a0 (.head _))
  obtain ⟨A1, l1, p1, f1, i1⟩ := ints_of_trod t1 (wz a1 (.tail _ (.head _)))
  obtain ⟨A2, l2, p2, f2, i2⟩ := ints_of_trod t2 (wz a2 (.tail _ (.tail _ (.head _))))
  obtain ⟨A3, l3, p3, f3, i3⟩ := ints_of_trod t3 (wz a3 (.tail _ (.tail _ (.tail _ (.head _)))))
  obtain ⟨A4, l4, p4, f4, i4⟩ := ints_of_trod t4 (wz a4 (.tail _ (.tail _ (.tail _ (.tail _ (.head _))))))
  obtain rfl : c0 = .int .i64 x0 := (List.cons.inj e0).1
  obtain rfl : c1 = .int .i64 x1 := (List.cons.inj e1).1
  obtain rfl : c2 = .int .i64 x2 := (List.cons.inj e2).1
  obtain rfl : c3 = .int .i64 x3 := (List.cons.inj e3).1
  obtain rfl : c4 = .int .i64 x4 := (List.cons.inj e4).1
  subst f0 f1 f2 f3 f4
  refine ⟨⟨x0, x1, x2, x3, x4, fun k => match k with | 0 => l0 | 1 => l1 | 2 => l2 | 3 => l3 | _ => l4⟩, ⟨fun k => match k with | 0 => A0 | 1 => A1 | 2 => A2 | 3 => A3 | _ => A4, fun k => match k with | 0 => p0 | 1 => p1 | 2 => p2 | 3 => p3 | _ => p4⟩, rfl, fun k hk => ?_⟩
  have : k = 0 ∨ k = 1 ∨ k = 2 ∨ k = 3 ∨ k = 4 := by omega
  rcases this with rfl | rfl | rfl | rfl | rfl
  · exact i0
  · exact i1
  · exact i2
  · exact i3
  · exact i4

theorem open_zones {v : Value} {d : DataW H} {p : List MemPlace} {ts : List TypeId} {ds : List (DataW H)} {j : Nat} {r : Reach} {b : Nat}
    (hsz : (DataW.weightsEach Try.prog ts ds).all (· ≤ reachBytes) = true) (hts : ts[j]? = some 57) (hd : ds[j]? = some d)
    (hv : Value.okWide Try.prog W r b 57 v) (h : DataW.Trod enc Try.prog W base spare held 57 v d p) : ∃ A zs cap, v = .slice A zs.length cap ∧ ZsAt W A zs ∧ zs.length ≤ 4611686018427387904 := by
  have hw : ∀ n ∈ d.weights Try.prog 57, n ≤ reachBytes := fun n hn => by simpa using List.all_eq_true.1 hsz _ (DataW.weights_mem_each hts hd n hn)
  obtain ⟨a0, len, cap, rfl⟩ := okWide_slice Try.underlying57 hv
  obtain ⟨fuel, hf⟩ := h
  have hc60 : Try.prog.cellsOf 60 = 10 := by kernel_rfl
  have hb60 : Try.prog.bytesOf 60 = 160 := by kernel_rfl
  rcases open_slice Try.underlying57 hf with ⟨hcs, _⟩ | ⟨a, len', cap', m, n, D, PL, hcs, hb, hl, hm, hmm, hx, hi⟩
  · simp [Value.cells] at hcs
    obtain ⟨rfl, rfl, rfl⟩ := hcs
    exact ⟨none, [], 0, rfl, ⟨fun h => absurd rfl h, fun zp h => by cases h⟩, by simp⟩
  · simp [Value.cells] at hcs
    obtain ⟨rfl, rfl, rfl⟩ := hcs
    have hdx : d = .slice ((List.range len).map D) ((List.range (m - len)).map fun j => D (len + j)) := (Prod.mk.inj hx).1
    have hlm : len ≤ m := by rw [hmm]; split <;> omega
    have h62 : len * 160 ≤ reachBytes := by
      have h1 := hw ((((List.range len).map D).length + ((List.range (m - len)).map fun j => D (len + j)).length) * Try.prog.bytesOf 60) (by rw [hdx]; simp [DataW.weights, Try.underlying57])
      rw [hb60] at h1
      simp only [List.length_map, List.length_range] at h1
      omega
    obtain ⟨zs, hzl, hzs⟩ := list_of (R := fun i (zp : Zn × Pl) => (∀ j v, (cellsZ zp.1 zp.2).toList[j]? = some v → W.cell? (a.add (i * 10 + j)) = some v) ∧ ∀ k, k < 5 → IntsAt W (zp.2.A k) (zp.1.l k)) len (fun i hil => by
      obtain ⟨cs', hc, ht⟩ := hi i (by omega)
      rw [hc60] at hc
      obtain ⟨_, hcl, hat⟩ := World.cells?_some hc
      obtain ⟨z, P, hcz, hints⟩ := zone_of_trod ht (fun n hn => hw n (by
        rw [hdx]
        simp only [DataW.weights, Try.underlying57]
        exact List.mem_cons_of_mem _ (List.mem_append.2 (.inl (mem_weightsAll (List.mem_map.2 ⟨i, List.mem_range.2 hil, rfl⟩) hn)))))
      refine ⟨(z, P), fun j v hj => ?_, hints⟩
      have hj10 : j < 10 := by have := (List.getElem?_eq_some_iff.1 hj).1; simpa [cellsZ] using this
      have := hat j hj10
      rw [hcz] at this
      rw [← Go.Deep.add_add, this]
      exact hj)
    refine ⟨some a, zs, cap, by rw [hzl], ⟨fun hne => ?_, fun zp hzp k hk => ?_⟩, by simp only [reachBytes] at h62; omega⟩
    · have hl0 : 0 < zs.length := List.length_pos_iff.2 hne
      have h0 := (hzs 0 zs[0] (by simp [hl0])).1 0 _ rfl
      have hspot : a.spot = none := by simpa [Addr.add] using World.cell?_spot h0
      have hblk := block_lt_of_cell h0
      obtain ⟨b, off, spot⟩ := a
      simp only at hspot
      subst hspot
      refine ⟨b, off, rfl, by simpa [Addr.add] using hblk, fun j zp hj i v hv => ?_⟩
      have := (hzs j zp hj).1 i v hv
      rw [Go.WideShapes.add_plain] at this
      rw [Nat.add_assoc]
      exact this
    · obtain ⟨i, hi', e⟩ := List.getElem_of_mem hzp
      exact (hzs i zp (by rw [← e]; simp [hi'])).2 k hk
end
end Go.Proofs.Ytmomcelnfljnmaa
