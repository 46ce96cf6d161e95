/-
  The walk of line.mapping. Conditions: none but what each theorem names.
-/
import Derived.Test.YtiomnlgnhdhffaaDoorP2
import Derived.Test.YtiomnlgnhdhffaaDoorB5
namespace Go.Proofs.YtiomnlgnhdhffaaDoor
open Go.RowKit
set_option linter.unusedVariables false
set_option linter.unusedSimpArgs false

theorem gate_none {P : Program} {ops : Array Oper} {Q : Exit → Act → World → Prop} {rest : List Oper} {o : Oper} {a : Act} {w : World} (_ : o.dst = none) (h : wpList P ops Q (o :: rest) a w) : wpList P ops Q (o :: rest) a w := h
def c8 (x0 x1 x2 x3 x4 x5 x6 x7 : Int) : Array Value := #[.int .i64 x0, .int .i64 x1, .int .i64 x2, .int .i64 x3, .int .i64 x4, .int .i64 x5, .int .i64 x6, .int .i64 x7]
/-- The world of a function that reads an instruction: the line, the result's row. -/
structure M1 (W : World) (B p R : Nat) (s : St) (V : World) : Prop where
  ln : LnAt B p s V
  r : V.heap[R]? = some (.cells (c8 0 0 0 0 0 0 0 0) 36 (0, 0))
  g : W.grownBy V (some p)
  p : p < B
  b : B ≤ R
/-- .. and the instruction that is built. -/
structure M2 (W : World) (B p R X : Nat) (s : St) (x : Array Value) (V : World) : Prop where
  m : M1 W B p R s V
  x : V.heap[X]? = some (.cells x 36 (0, 0))
  lt : R < X
theorem LnAt.size {B p : Nat} {s : St} {W : World} (h : LnAt B p s W) : p < B ∧ B ≤ W.heap.size := by
  obtain ⟨A, cap, _, _, _, _, h4, h5, _⟩ := h
  exact ⟨h4, h5⟩
section
variable {W V V' : World} {B p R X : Nat} {s s' : St} {x : Array Value}
theorem M1.start (h : LnAt B p s W) : M1 W B p W.heap.size s (W.alloc (.cells (c8 0 0 0 0 0 0 0 0) 36)) :=
  ⟨h.next (World.grownBy_alloc _ _ _), heap_at rfl _, World.grownBy_alloc _ _ _, h.size.1, h.size.2⟩
theorem M1.call (h : M1 W B p R s V) (hl : LnAt B p s' V') (hg : V.grownBy V' (some p)) : M1 W B p R s' V' :=
  ⟨hl, (hg.block R (lt_of_block h.r) (by have := h.p; have := h.b; intro e; cases e; omega)).trans h.r, h.g.trans hg, h.p, h.b⟩
theorem M1.box (h : M1 W B p R s V) (x : Array Value) : M2 W B p R V.heap.size s x (V.alloc (.cells x 36)) :=
  ⟨⟨h.ln.next (World.grownBy_alloc _ _ _), heap_keep h.r _, h.g.trans (World.grownBy_alloc _ _ _), h.p, h.b⟩, heap_at rfl _, lt_of_block h.r⟩
theorem M2.call (h : M2 W B p R X s x V) (hl : LnAt B p s' V') (hg : V.grownBy V' (some p)) : M2 W B p R X s' x V' :=
  ⟨h.m.call hl hg, (hg.block X (lt_of_block h.x) (by have := h.m.p; have := h.m.b; have := h.lt; intro e; cases e; omega)).trans h.x, h.lt⟩
theorem grown_set (hg : W.grownBy V (some p)) {q i : Nat} (hq : W.heap.size ≤ q) (v : Value) : W.grownBy (V.setCell ⟨q, i, none⟩ v) (some p) :=
  ⟨hg.os, hg.tape, hg.output, by have := hg.size; simpa [World.setCell] using this, fun k hk hn => by
    rw [Below.heap_setCell V ⟨q, i, none⟩ v k (by simp; omega)]
    exact hg.block k hk hn⟩
theorem M2.set (h : M2 W B p R X s x V) (hW : W.heap.size ≤ R) (i : Nat) (v : Value) : M2 W B p R X s (x.setIfInBounds i v) (V.setCell ⟨X, i, none⟩ v) := by
  have hp := h.m.p
  have hb := h.m.b
  have hlt := h.lt
  refine ⟨⟨h.m.ln.below (by simp [World.setCell]) (fun k hk => Below.heap_setCell V _ _ k (by simp; omega)), (Below.heap_setCell V _ _ R (by simp; omega)).trans h.m.r, grown_set h.m.g (by omega) v, hp, hb⟩, setCell_row v h.x, hlt⟩
theorem M2.cells {x0 x1 x2 x3 x4 x5 x6 x7 : Int} (h : M2 W B p R X s (c8 x0 x1 x2 x3 x4 x5 x6 x7) V) : V.cell? ⟨X, 0, none⟩ = some (.int .i64 x0) ∧ V.cell? ⟨X, 1, none⟩ = some (.int .i64 x1) ∧ V.cell? ⟨X, 2, none⟩ = some (.int .i64 x2) ∧ V.cell? ⟨X, 3, none⟩ = some (.int .i64 x3) ∧
    V.cell? ⟨X, 4, none⟩ = some (.int .i64 x4) ∧ V.cell? ⟨X, 5, none⟩ = some (.int .i64 x5) ∧ V.cell? ⟨X, 6, none⟩ = some (.int .i64 x6) ∧ V.cell? ⟨X, 7, none⟩ = some (.int .i64 x7) ∧ (∀ i, V.frozen? ⟨X, i, none⟩ = false) := by
  refine ⟨?_, ?_, ?_, ?_, ?_, ?_, ?_, ?_, fun i => ?_⟩
  all_goals first | (rw [cell_of_row _ _ _ _ _ _ h.x]; rfl) | simp [World.frozen?, h.x]
end
theorem M2.drew {W V : World} {B p R X : Nat} {s : St} {x : Array Value} (h : M2 W B p R X s x V) : M2 W B p R X s x V.drew :=
  h.call (h.m.ln.next ⟨rfl, rfl, rfl, Nat.le_refl _, fun _ _ _ => rfl⟩) ⟨rfl, rfl, rfl, Nat.le_refl _, fun _ _ _ => rfl⟩
theorem M2.fin {W V : World} {B p R X : Nat} {s : St} {x : Array Value} (h : M2 W B p R X s x V) (hW : W.heap.size ≤ R) : (V.setRow R x).heap[R]? = some (.cells x 36 (0, 0)) ∧ LnAt B p s (V.setRow R x) ∧ W.grownBy (V.setRow R x) (some p) := by
  have hp := h.m.p
  have hb := h.m.b
  refine ⟨setRow_heap V R _ _ 36 _ h.m.r, h.m.ln.below (by simp [World.setRow]) (fun k hk => setRow_other V _ _ _ (by omega)), ?_⟩
  exact ⟨h.m.g.os, h.m.g.tape, h.m.g.output, by have := h.m.g.size; simpa [World.setRow] using this, fun k hk hn => by
    rw [setRow_other V _ _ _ (by omega)]
    exact h.m.g.block k hk hn⟩
theorem at58' {B p : Nat} {s : St} (c : Wd) (W : World) (h : LnAt B p s W) : Calls Tryd.prog 58 #[.pointer (some ⟨p, 0, none⟩), .string (bstr c)] W fun e W' => e = .returned (.bool (atS c s).1) ∧ LnAt B p (atS c s).2 W' ∧ W.grownBy W' (some p) := by
  have := at58 (bstr c) W h
  simpa [bstr] using this

def flagW : Nat → Wd
  | 0 => [115, 104, 97, 114, 101, 100]
  | 1 => [103, 114, 111, 119, 115]
  | 2 => [108, 111, 99, 107, 101, 100]
  | _ => [104, 117, 103, 101]
/-- The flags of the words that follow, from the k-th on. -/
def flagS (s : St) : Nat → Int × St
  | 0 => (0, s)
  | k + 1 => let r := flagS s k; let a := atS (flagW k) r.2; (if a.1 then r.1 + 2 ^ k else r.1, a.2)
def mapS (s : St) : Ins × St :=
  let a := atS [97, 110, 121] s
  let pg := if a.1 then (-1, a.2) else numS a.2
  let ct := numS pg.2
  let pr := protS ct.2
  let fl := flagS pr.2 4
  let f := atS [102, 105, 108, 101] fl.2
  let fi := if f.1 then numS f.2 else (-1, f.2)
  let ix := if f.1 then numS fi.2 else (0, fi.2)
  (⟨1, pg.1, ct.1, ix.1, 0, fi.1, pr.1, fl.1⟩, ix.2)
def FV : Value := .agg #[.string (bstr (flagW 0)), .string (bstr (flagW 1)), .string (bstr (flagW 2)), .string (bstr (flagW 3))]
theorem flags59 (W : World) : Calls Tryd.prog 59 #[] W fun e W' => e = .returned FV ∧ W.grownBy W' none := by
  go_enter Tryd.func59, Tryd.ntmps59
  go_wp2
  exact bodyPost_ret (v := FV) (results_row rfl _ _ W.heap.size 81 _ (0, 0) _ rfl (heap_at rfl _) Tryd.underlying81 rfl (by kernel_rfl)) rfl ⟨rfl, World.grownBy_alloc _ _ _⟩
theorem idx81 {k : Nat} (hk : k < 4) (w : World) : (Instr.index 81 FV (.int .i64 (k : Int))).run Tryd.prog w = .ok (.string (bstr (flagW k))) w := by
  have hc : k = 0 ∨ k = 1 ∨ k = 2 ∨ k = 3 := by omega
  have h0 : (Instr.index 81 FV (.int .i64 0)).run Tryd.prog w = .ok (.string (bstr (flagW 0))) w := by kernel_rfl
  have h1 : (Instr.index 81 FV (.int .i64 1)).run Tryd.prog w = .ok (.string (bstr (flagW 1))) w := by kernel_rfl
  have h2 : (Instr.index 81 FV (.int .i64 2)).run Tryd.prog w = .ok (.string (bstr (flagW 2))) w := by kernel_rfl
  have h3 : (Instr.index 81 FV (.int .i64 3)).run Tryd.prog w = .ok (.string (bstr (flagW 3))) w := by kernel_rfl
  rcases hc with rfl | rfl | rfl | rfl
  · exact h0
  · exact h1
  · exact h2
  · exact h3
theorem grown_none {W V : World} (h : W.grownBy V none) (r : Option Nat) : W.grownBy V r := ⟨h.os, h.tape, h.output, h.size, fun k hk _ => h.block k hk (by simp)⟩
theorem flagS_bd (s : St) : ∀ k, 0 ≤ (flagS s k).1 ∧ (flagS s k).1 < 2 ^ k
  | 0 => by simp [flagS]
  | k + 1 => by
    have ih := flagS_bd s k
    have : (2 : Int) ^ (k + 1) = 2 ^ k * 2 := Int.pow_succ ..
    simp only [flagS]
    split <;> omega
theorem flagS_no {s : St} {k : Nat} (h : (atS (flagW k) (flagS s k).2).1 = false) : (flagS s (k + 1)).1 = (flagS s k).1 ∧ (flagS s (k + 1)).2 = (atS (flagW k) (flagS s k).2).2 := by simp [flagS, h]
theorem flagS_yes {s : St} {k : Nat} (h : (atS (flagW k) (flagS s k).2).1 = true) : (flagS s (k + 1)).1 = (flagS s k).1 + 2 ^ k ∧ (flagS s (k + 1)).2 = (atS (flagW k) (flagS s k).2).2 := by simp [flagS, h]
theorem wrap_k {k : Nat} (h : k < 4) : wrap64 ((2 : Int) ^ k) = 2 ^ k := by
  have : k = 0 ∨ k = 1 ∨ k = 2 ∨ k = 3 := by omega
  rcases this with rfl | rfl | rfl | rfl <;> simp [wrap64]
theorem shl_k4 {k : Nat} (h : k < 4) : IntKind.i64.wrap (2 ^ min (k : Int).toNat 64) = 2 ^ k := by
  have : k = 0 ∨ k = 1 ∨ k = 2 ∨ k = 3 := by omega
  rcases this with rfl | rfl | rfl | rfl <;> decide
theorem bits_or : ∀ (f : Fin 16) (k : Fin 4), f.val < 2 ^ k.val → bits BinOp.or IntKind.i64 (f.val : Int) (2 ^ k.val) = (f.val : Int) + 2 ^ k.val := by decide +kernel
theorem bits_or' {f : Int} {k : Nat} (h0 : 0 ≤ f) (h1 : f < 2 ^ k) (hk : k < 4) : bits BinOp.or IntKind.i64 f (2 ^ k) = f + 2 ^ k := by
  obtain ⟨n, rfl⟩ := Int.eq_ofNat_of_zero_le h0
  have h2 : n < 2 ^ k := by exact_mod_cast h1
  have h16 : (2 : Nat) ^ k ≤ 16 := by
    have : k = 0 ∨ k = 1 ∨ k = 2 ∨ k = 3 := by omega
    rcases this with rfl | rfl | rfl | rfl <;> decide
  exact bits_or ⟨n, by omega⟩ ⟨k, hk⟩ h2

set_option maxRecDepth 100000 in
set_option maxHeartbeats 4000000 in
theorem mapping37 {B p : Nat} {s : St} (W : World) (h : LnAt B p s W) : Calls Tryd.prog 37 #[.pointer (some ⟨p, 0, none⟩)] W fun e W' => e = .returned (mapS s).1.V ∧ LnAt B p (mapS s).2 W' ∧ W.grownBy W' (some p) := by
  have M : Kp (M2 W B p W.heap.size (W.heap.size + 1) s (c8 1 (-1) 0 0 0 (-1) 0 0) ((W.alloc (.cells (c8 0 0 0 0 0 0 0 0) 36)).alloc (.cells (c8 1 (-1) 0 0 0 (-1) 0 0) 36))) := ⟨by
    have h2 := (M1.start h).box (c8 1 (-1) 0 0 0 (-1) 0 0)
    rwa [World.size_alloc] at h2⟩
  clear h
  go_enter Tryd.func37, Tryd.ntmps37
  go_wp2_with fail
  refine (at58' [97, 110, 121] _ M.out.m.ln).mono ?_
  rintro e V0 ⟨rfl, hl, hg⟩
  have M := Kp.mk (M.out.call hl hg)
  clear hl hg
  cases hb : (atS [97, 110, 121] s).1
  · have HB := Kp.mk hb
    clear hb
    go_wp2_with fail
    refine (number38 _ M.out.m.ln).mono ?_
    rintro e V1 ⟨rfl, hl, hg⟩
    have M := Kp.mk (M.out.call hl hg)
    clear hl hg
    have d := M.out.cells
    obtain ⟨d0, d1, d2, d3, d4, d5, d6, d7, df⟩ := d
    have df := df 1
    have M : Kp (M2 W B p W.heap.size (W.heap.size + 1) _ (c8 1 (numS (atS [97, 110, 121] s).2).1 0 0 0 (-1) 0 0) (V1.setCell ⟨W.heap.size + 1, 1, none⟩ (.int .i64 (numS (atS [97, 110, 121] s).2).1))) := ⟨M.out.set (Nat.le_refl _) 1 _⟩
    go_wp2_with fail
    clear d0 d1 d2 d3 d4 d5 d6 d7 df
    refine (number38 _ M.out.m.ln).mono ?_
    rintro e V ⟨rfl, hl, hg⟩
    have M := Kp.mk (M.out.call hl hg)
    clear hl hg
    have d := M.out.cells
    obtain ⟨d0, d1, d2, d3, d4, d5, d6, d7, df⟩ := d
    have df := df 2
    have M : Kp (M2 W B p W.heap.size (W.heap.size + 1) _ (c8 1 (numS (atS [97, 110, 121] s).2).1 (numS (numS (atS [97, 110, 121] s).2).2).1 0 0 (-1) 0 0) (V.setCell ⟨W.heap.size + 1, 2, none⟩ (.int .i64 (numS (numS (atS [97, 110, 121] s).2).2).1))) := ⟨M.out.set (Nat.le_refl _) 2 _⟩
    go_wp2_with fail
    clear d0 d1 d2 d3 d4 d5 d6 d7 df
    refine (prot39 _ M.out.m.ln).mono ?_
    rintro e V2 ⟨rfl, hl, hg⟩
    have M := Kp.mk (M.out.call hl hg)
    clear hl hg
    have d := M.out.cells
    obtain ⟨d0, d1, d2, d3, d4, d5, d6, d7, df⟩ := d
    have df := df 6
    have M : Kp (M2 W B p W.heap.size (W.heap.size + 1) _ (c8 1 (numS (atS [97, 110, 121] s).2).1 (numS (numS (atS [97, 110, 121] s).2).2).1 0 0 (-1) (protS (numS (numS (atS [97, 110, 121] s).2).2).2).1 0) (V2.setCell ⟨W.heap.size + 1, 6, none⟩ (.int .i64 (protS (numS (numS (atS [97, 110, 121] s).2).2).2).1))) := ⟨M.out.set (Nat.le_refl _) 6 _⟩
    go_wp2_with fail
    clear d0 d1 d2 d3 d4 d5 d6 d7 df
    refine (flags59 _).mono ?_
    rintro e V3 ⟨rfl, hg⟩
    have M := Kp.mk (M.out.call (M.out.m.ln.next hg) (grown_none hg _))
    clear hg
    have M0 : Kp (∃ f, f = (flagS (protS (numS (numS (atS [97, 110, 121] s).2).2).2).2 0).1 ∧ M2 W B p W.heap.size (W.heap.size + 1) (flagS (protS (numS (numS (atS [97, 110, 121] s).2).2).2).2 0).2 (c8 1 (numS (atS [97, 110, 121] s).2).1 (numS (numS (atS [97, 110, 121] s).2).2).1 0 0 (-1) (protS (numS (numS (atS [97, 110, 121] s).2).2).2).1 f) V3) := ⟨_, rfl, M.out⟩
    clear M
    generalize hq1 : (numS (numS (atS [97, 110, 121] s).2).2).1 = ct at M0
    generalize hq2 : (protS (numS (numS (atS [97, 110, 121] s).2).2).2).1 = pr at M0
    generalize hq3 : (protS (numS (numS (atS [97, 110, 121] s).2).2).2).2 = s4 at M0
    have HQ := Kp.mk (And.intro hq1 (And.intro hq2 hq3))
    clear hq1 hq2 hq3
    go_wp2_with fail
    go_loopw [20] (fun i V => ∃ k : Nat, k ≤ 4 ∧ i = .int .i64 k ∧ Kp (∃ f, f = (flagS s4 k).1 ∧ M2 W B p W.heap.size (W.heap.size + 1) (flagS s4 k).2 (c8 1 (numS (atS [97, 110, 121] s).2).1 ct 0 0 (-1) pr f) V)) (fun i _ => 4 - (intOf i).toNat)
    case atStart => exact ⟨0, by omega, rfl, M0⟩
    case round =>
      clear M0
      obtain ⟨k, hk4, rfl, M⟩ := hrel
      obtain ⟨f, hf, hM⟩ := M.out
      have M := Kp.mk hM
      have HF := Kp.mk hf
      clear hM
      by_cases hk : k < 4
      · have hki : (k : Int) < 4 := by omega
        have hkp : (0 : Int) ≤ (k : Int) := by omega
        have hix := idx81 hk
        go_wp2_with fail
        refine (at58' (flagW k) _ M.out.m.ln).mono ?_
        rintro e V5 ⟨rfl, hl, hg⟩
        have M := Kp.mk (M.out.call hl hg)
        clear hl hg
        cases hb2 : (atS (flagW k) (flagS s4 k).2).1
        · have M' : Kp (∃ f, f = (flagS s4 (k + 1)).1 ∧ M2 W B p W.heap.size (W.heap.size + 1) (flagS s4 (k + 1)).2 (c8 1 (numS (atS [97, 110, 121] s).2).1 ct 0 0 (-1) pr f) V5) := ⟨f, by rw [(flagS_no hb2).1]; exact HF.out, by rw [(flagS_no hb2).2]; exact M.out⟩
          clear M hf hb2
          go_wp2_with fail
          exact ⟨⟨k + 1, by omega, by congr 1, M'⟩, by simp only [intOf]; omega⟩
        · have hx := bits_or' (show 0 ≤ f by rw [HF.out]; exact (flagS_bd s4 k).1) (show f < 2 ^ k by rw [HF.out]; exact (flagS_bd s4 k).2) hk
          have M' : Kp (∃ f', f' = (flagS s4 (k + 1)).1 ∧ M2 W B p W.heap.size (W.heap.size + 1) (flagS s4 (k + 1)).2 (c8 1 (numS (atS [97, 110, 121] s).2).1 ct 0 0 (-1) pr f') (V5.setCell ⟨W.heap.size + 1, 7, none⟩ (.int .i64 (f + 2 ^ k)))) := ⟨f + 2 ^ k, by rw [(flagS_yes hb2).1, ← HF.out], by rw [(flagS_yes hb2).2]; exact M.out.set (Nat.le_refl _) 7 _⟩
          obtain ⟨_, _, _, _, _, _, _, d7, df⟩ := M.out.cells
          have df := df 7
          have hsh := shl_k4 hk
          have HM2 := Kp.mk M.out
          clear M hf hb2
          go_wp2_with fail
          go_region
          rw [wrap_k hk, hx]
          go_wp2_with fail
          exact ⟨⟨k + 1, by omega, by congr 1, ⟨by obtain ⟨f', h1, h2⟩ := M'.out; exact ⟨f', h1, h2.drew⟩⟩⟩, by simp only [intOf]; omega⟩
      · have HK : Kp (k = 4) := ⟨by omega⟩
        have M : Kp (M2 W B p W.heap.size (W.heap.size + 1) (flagS s4 4).2 (c8 1 (numS (atS [97, 110, 121] s).2).1 ct 0 0 (-1) pr (flagS s4 4).1) wr) := ⟨by rw [← HK.out, ← HF.out]; exact M.out⟩
        clear hf HF
        go_wp2_with fail
        refine (at58' [102, 105, 108, 101] _ M.out.m.ln).mono ?_
        rintro e V6 ⟨rfl, hl, hg⟩
        have M := Kp.mk (M.out.call hl hg)
        clear hl hg
        cases hb3 : (atS [102, 105, 108, 101] (flagS s4 4).2).1
        · have HB3 := Kp.mk hb3
          clear hb3
          obtain ⟨d0, d1, d2, d3, d4, d5, d6, d7, df⟩ := M.out.cells
          go_wp2_with ((with_reducible refine gate_op (op := .store 36 (.tmp 2) (.tmp 42)) rfl ?_); go_must (refine wpList_store_row rfl 36 (.tmp 2) (.tmp 42) rfl W.heap.size _ rfl rfl 36 (c8 0 0 0 0 0 0 0 0) M.out.m.r (by kernel_rfl) rfl (by simp [Value.oneCell']) ?_))
          have HE := Kp.mk (show mapS s = (⟨1, (numS (atS [97, 110, 121] s).2).1, ct, 0, 0, (-1), pr, (flagS s4 4).1⟩, (atS [102, 105, 108, 101] (flagS s4 4).2).2) by
            obtain ⟨q1, q2, q3⟩ := HQ.out
            simp only [mapS, HB.out, HB3.out, if_true, if_false, Bool.false_eq_true, q1, q2, q3])
          obtain ⟨k1, k2, k3⟩ := M.out.fin (Nat.le_refl _)
          exact bodyPost_ret (v := .agg (c8 1 (numS (atS [97, 110, 121] s).2).1 ct 0 0 (-1) pr (flagS s4 4).1)) (results_row rfl _ _ W.heap.size 36 _ (0, 0) _ rfl k1 Tryd.underlying36 rfl (by kernel_rfl)) rfl ⟨by rw [HE.out]; rfl, by rw [HE.out]; exact k2, k3⟩
        · have HB3 := Kp.mk hb3
          clear hb3
          go_wp2_with fail
          refine (number38 _ M.out.m.ln).mono ?_
          rintro e V7 ⟨rfl, hl, hg⟩
          have M := Kp.mk (M.out.call hl hg)
          clear hl hg
          have d := M.out.cells
          obtain ⟨d0, d1, d2, d3, d4, d5, d6, d7, df⟩ := d
          have df := df 5
          have M : Kp (M2 W B p W.heap.size (W.heap.size + 1) _ (c8 1 (numS (atS [97, 110, 121] s).2).1 ct 0 0 (numS (atS [102, 105, 108, 101] (flagS s4 4).2).2).1 pr (flagS s4 4).1) (V7.setCell ⟨W.heap.size + 1, 5, none⟩ (.int .i64 (numS (atS [102, 105, 108, 101] (flagS s4 4).2).2).1))) := ⟨M.out.set (Nat.le_refl _) 5 _⟩
          go_wp2_with fail
          clear d0 d1 d2 d3 d4 d5 d6 d7 df
          refine (number38 _ M.out.m.ln).mono ?_
          rintro e V8 ⟨rfl, hl, hg⟩
          have M := Kp.mk (M.out.call hl hg)
          clear hl hg
          have d := M.out.cells
          obtain ⟨d0, d1, d2, d3, d4, d5, d6, d7, df⟩ := d
          have df := df 3
          have M : Kp (M2 W B p W.heap.size (W.heap.size + 1) _ (c8 1 (numS (atS [97, 110, 121] s).2).1 ct (numS (numS (atS [102, 105, 108, 101] (flagS s4 4).2).2).2).1 0 (numS (atS [102, 105, 108, 101] (flagS s4 4).2).2).1 pr (flagS s4 4).1) (V8.setCell ⟨W.heap.size + 1, 3, none⟩ (.int .i64 (numS (numS (atS [102, 105, 108, 101] (flagS s4 4).2).2).2).1))) := ⟨M.out.set (Nat.le_refl _) 3 _⟩
          obtain ⟨d0', d1', d2', d3', d4', d5', d6', d7', df'⟩ := M.out.cells
          go_wp2_with ((with_reducible refine gate_op (op := .store 36 (.tmp 2) (.tmp 42)) rfl ?_); go_must (refine wpList_store_row rfl 36 (.tmp 2) (.tmp 42) rfl W.heap.size _ rfl rfl 36 (c8 0 0 0 0 0 0 0 0) M.out.m.r (by kernel_rfl) rfl (by simp [Value.oneCell']) ?_))
          have HE := Kp.mk (show mapS s = (⟨1, (numS (atS [97, 110, 121] s).2).1, ct, (numS (numS (atS [102, 105, 108, 101] (flagS s4 4).2).2).2).1, 0, (numS (atS [102, 105, 108, 101] (flagS s4 4).2).2).1, pr, (flagS s4 4).1⟩, (numS (numS (atS [102, 105, 108, 101] (flagS s4 4).2).2).2).2) by
            obtain ⟨q1, q2, q3⟩ := HQ.out
            simp only [mapS, HB.out, HB3.out, if_true, if_false, Bool.false_eq_true, q1, q2, q3])
          obtain ⟨k1, k2, k3⟩ := M.out.fin (Nat.le_refl _)
          exact bodyPost_ret (v := .agg (c8 1 (numS (atS [97, 110, 121] s).2).1 ct (numS (numS (atS [102, 105, 108, 101] (flagS s4 4).2).2).2).1 0 (numS (atS [102, 105, 108, 101] (flagS s4 4).2).2).1 pr (flagS s4 4).1)) (results_row rfl _ _ W.heap.size 36 _ (0, 0) _ rfl k1 Tryd.underlying36 rfl (by kernel_rfl)) rfl ⟨by rw [HE.out]; rfl, by rw [HE.out]; exact k2, k3⟩
  · have HB := Kp.mk hb
    clear hb
    go_wp2_with fail
    refine (number38 _ M.out.m.ln).mono ?_
    rintro e V ⟨rfl, hl, hg⟩
    have M := Kp.mk (M.out.call hl hg)
    clear hl hg
    have d := M.out.cells
    obtain ⟨d0, d1, d2, d3, d4, d5, d6, d7, df⟩ := d
    have df := df 2
    have M : Kp (M2 W B p W.heap.size (W.heap.size + 1) _ (c8 1 (-1) (numS (atS [97, 110, 121] s).2).1 0 0 (-1) 0 0) (V.setCell ⟨W.heap.size + 1, 2, none⟩ (.int .i64 (numS (atS [97, 110, 121] s).2).1))) := ⟨M.out.set (Nat.le_refl _) 2 _⟩
    go_wp2_with fail
    clear d0 d1 d2 d3 d4 d5 d6 d7 df
    refine (prot39 _ M.out.m.ln).mono ?_
    rintro e V2 ⟨rfl, hl, hg⟩
    have M := Kp.mk (M.out.call hl hg)
    clear hl hg
    have d := M.out.cells
    obtain ⟨d0, d1, d2, d3, d4, d5, d6, d7, df⟩ := d
    have df := df 6
    have M : Kp (M2 W B p W.heap.size (W.heap.size + 1) _ (c8 1 (-1) (numS (atS [97, 110, 121] s).2).1 0 0 (-1) (protS (numS (atS [97, 110, 121] s).2).2).1 0) (V2.setCell ⟨W.heap.size + 1, 6, none⟩ (.int .i64 (protS (numS (atS [97, 110, 121] s).2).2).1))) := ⟨M.out.set (Nat.le_refl _) 6 _⟩
    go_wp2_with fail
    clear d0 d1 d2 d3 d4 d5 d6 d7 df
    refine (flags59 _).mono ?_
    rintro e V3 ⟨rfl, hg⟩
    have M := Kp.mk (M.out.call (M.out.m.ln.next hg) (grown_none hg _))
    clear hg
    have M0 : Kp (∃ f, f = (flagS (protS (numS (atS [97, 110, 121] s).2).2).2 0).1 ∧ M2 W B p W.heap.size (W.heap.size + 1) (flagS (protS (numS (atS [97, 110, 121] s).2).2).2 0).2 (c8 1 (-1) (numS (atS [97, 110, 121] s).2).1 0 0 (-1) (protS (numS (atS [97, 110, 121] s).2).2).1 f) V3) := ⟨_, rfl, M.out⟩
    clear M
    generalize hq1 : (numS (atS [97, 110, 121] s).2).1 = ct at M0
    generalize hq2 : (protS (numS (atS [97, 110, 121] s).2).2).1 = pr at M0
    generalize hq3 : (protS (numS (atS [97, 110, 121] s).2).2).2 = s4 at M0
    have HQ := Kp.mk (And.intro hq1 (And.intro hq2 hq3))
    clear hq1 hq2 hq3
    go_wp2_with fail
    go_loopw [20] (fun i V => ∃ k : Nat, k ≤ 4 ∧ i = .int .i64 k ∧ Kp (∃ f, f = (flagS s4 k).1 ∧ M2 W B p W.heap.size (W.heap.size + 1) (flagS s4 k).2 (c8 1 (-1) ct 0 0 (-1) pr f) V)) (fun i _ => 4 - (intOf i).toNat)
    case atStart => exact ⟨0, by omega, rfl, M0⟩
    case round =>
      clear M0
      obtain ⟨k, hk4, rfl, M⟩ := hrel
      obtain ⟨f, hf, hM⟩ := M.out
      have M := Kp.mk hM
      have HF := Kp.mk hf
      clear hM
      by_cases hk : k < 4
      · have hki : (k : Int) < 4 := by omega
        have hkp : (0 : Int) ≤ (k : Int) := by omega
        have hix := idx81 hk
        go_wp2_with fail
        refine (at58' (flagW k) _ M.out.m.ln).mono ?_
        rintro e V5 ⟨rfl, hl, hg⟩
        have M := Kp.mk (M.out.call hl hg)
        clear hl hg
        cases hb2 : (atS (flagW k) (flagS s4 k).2).1
        · have M' : Kp (∃ f, f = (flagS s4 (k + 1)).1 ∧ M2 W B p W.heap.size (W.heap.size + 1) (flagS s4 (k + 1)).2 (c8 1 (-1) ct 0 0 (-1) pr f) V5) := ⟨f, by rw [(flagS_no hb2).1]; exact HF.out, by rw [(flagS_no hb2).2]; exact M.out⟩
          clear M hf hb2
          go_wp2_with fail
          exact ⟨⟨k + 1, by omega, by congr 1, M'⟩, by simp only [intOf]; omega⟩
        · have hx := bits_or' (show 0 ≤ f by rw [HF.out]; exact (flagS_bd s4 k).1) (show f < 2 ^ k by rw [HF.out]; exact (flagS_bd s4 k).2) hk
          have M' : Kp (∃ f', f' = (flagS s4 (k + 1)).1 ∧ M2 W B p W.heap.size (W.heap.size + 1) (flagS s4 (k + 1)).2 (c8 1 (-1) ct 0 0 (-1) pr f') (V5.setCell ⟨W.heap.size + 1, 7, none⟩ (.int .i64 (f + 2 ^ k)))) := ⟨f + 2 ^ k, by rw [(flagS_yes hb2).1, ← HF.out], by rw [(flagS_yes hb2).2]; exact M.out.set (Nat.le_refl _) 7 _⟩
          obtain ⟨_, _, _, _, _, _, _, d7, df⟩ := M.out.cells
          have df := df 7
          have hsh := shl_k4 hk
          have HM2 := Kp.mk M.out
          clear M hf hb2
          go_wp2_with fail
          go_region
          rw [wrap_k hk, hx]
          go_wp2_with fail
          exact ⟨⟨k + 1, by omega, by congr 1, ⟨by obtain ⟨f', h1, h2⟩ := M'.out; exact ⟨f', h1, h2.drew⟩⟩⟩, by simp only [intOf]; omega⟩
      · have HK : Kp (k = 4) := ⟨by omega⟩
        have M : Kp (M2 W B p W.heap.size (W.heap.size + 1) (flagS s4 4).2 (c8 1 (-1) ct 0 0 (-1) pr (flagS s4 4).1) wr) := ⟨by rw [← HK.out, ← HF.out]; exact M.out⟩
        clear hf HF
        go_wp2_with fail
        refine (at58' [102, 105, 108, 101] _ M.out.m.ln).mono ?_
        rintro e V6 ⟨rfl, hl, hg⟩
        have M := Kp.mk (M.out.call hl hg)
        clear hl hg
        cases hb3 : (atS [102, 105, 108, 101] (flagS s4 4).2).1
        · have HB3 := Kp.mk hb3
          clear hb3
          obtain ⟨d0, d1, d2, d3, d4, d5, d6, d7, df⟩ := M.out.cells
          go_wp2_with ((with_reducible refine gate_op (op := .store 36 (.tmp 2) (.tmp 42)) rfl ?_); go_must (refine wpList_store_row rfl 36 (.tmp 2) (.tmp 42) rfl W.heap.size _ rfl rfl 36 (c8 0 0 0 0 0 0 0 0) M.out.m.r (by kernel_rfl) rfl (by simp [Value.oneCell']) ?_))
          have HE := Kp.mk (show mapS s = (⟨1, (-1), ct, 0, 0, (-1), pr, (flagS s4 4).1⟩, (atS [102, 105, 108, 101] (flagS s4 4).2).2) by
            obtain ⟨q1, q2, q3⟩ := HQ.out
            simp only [mapS, HB.out, HB3.out, if_true, if_false, Bool.false_eq_true, q1, q2, q3])
          obtain ⟨k1, k2, k3⟩ := M.out.fin (Nat.le_refl _)
          exact bodyPost_ret (v := .agg (c8 1 (-1) ct 0 0 (-1) pr (flagS s4 4).1)) (results_row rfl _ _ W.heap.size 36 _ (0, 0) _ rfl k1 Tryd.underlying36 rfl (by kernel_rfl)) rfl ⟨by rw [HE.out]; rfl, by rw [HE.out]; exact k2, k3⟩
        · have HB3 := Kp.mk hb3
          clear hb3
          go_wp2_with fail
          refine (number38 _ M.out.m.ln).mono ?_
          rintro e V7 ⟨rfl, hl, hg⟩
          have M := Kp.mk (M.out.call hl hg)
          clear hl hg
          have d := M.out.cells
          obtain ⟨d0, d1, d2, d3, d4, d5, d6, d7, df⟩ := d
          have df := df 5
          have M : Kp (M2 W B p W.heap.size (W.heap.size + 1) _ (c8 1 (-1) ct 0 0 (numS (atS [102, 105, 108, 101] (flagS s4 4).2).2).1 pr (flagS s4 4).1) (V7.setCell ⟨W.heap.size + 1, 5, none⟩ (.int .i64 (numS (atS [102, 105, 108, 101] (flagS s4 4).2).2).1))) := ⟨M.out.set (Nat.le_refl _) 5 _⟩
          go_wp2_with fail
          clear d0 d1 d2 d3 d4 d5 d6 d7 df
          refine (number38 _ M.out.m.ln).mono ?_
          rintro e V8 ⟨rfl, hl, hg⟩
          have M := Kp.mk (M.out.call hl hg)
          clear hl hg
          have d := M.out.cells
          obtain ⟨d0, d1, d2, d3, d4, d5, d6, d7, df⟩ := d
          have df := df 3
          have M : Kp (M2 W B p W.heap.size (W.heap.size + 1) _ (c8 1 (-1) ct (numS (numS (atS [102, 105, 108, 101] (flagS s4 4).2).2).2).1 0 (numS (atS [102, 105, 108, 101] (flagS s4 4).2).2).1 pr (flagS s4 4).1) (V8.setCell ⟨W.heap.size + 1, 3, none⟩ (.int .i64 (numS (numS (atS [102, 105, 108, 101] (flagS s4 4).2).2).2).1))) := ⟨M.out.set (Nat.le_refl _) 3 _⟩
          obtain ⟨d0', d1', d2', d3', d4', d5', d6', d7', df'⟩ := M.out.cells
          go_wp2_with ((with_reducible refine gate_op (op := .store 36 (.tmp 2) (.tmp 42)) rfl ?_); go_must (refine wpList_store_row rfl 36 (.tmp 2) (.tmp 42) rfl W.heap.size _ rfl rfl 36 (c8 0 0 0 0 0 0 0 0) M.out.m.r (by kernel_rfl) rfl (by simp [Value.oneCell']) ?_))
          have HE := Kp.mk (show mapS s = (⟨1, (-1), ct, (numS (numS (atS [102, 105, 108, 101] (flagS s4 4).2).2).2).1, 0, (numS (atS [102, 105, 108, 101] (flagS s4 4).2).2).1, pr, (flagS s4 4).1⟩, (numS (numS (atS [102, 105, 108, 101] (flagS s4 4).2).2).2).2) by
            obtain ⟨q1, q2, q3⟩ := HQ.out
            simp only [mapS, HB.out, HB3.out, if_true, if_false, Bool.false_eq_true, q1, q2, q3])
          obtain ⟨k1, k2, k3⟩ := M.out.fin (Nat.le_refl _)
          exact bodyPost_ret (v := .agg (c8 1 (-1) ct (numS (numS (atS [102, 105, 108, 101] (flagS s4 4).2).2).2).1 0 (numS (atS [102, 105, 108, 101] (flagS s4 4).2).2).1 pr (flagS s4 4).1)) (results_row rfl _ _ W.heap.size 36 _ (0, 0) _ rfl k1 Tryd.underlying36 rfl (by kernel_rfl)) rfl ⟨by rw [HE.out]; rfl, by rw [HE.out]; exact k2, k3⟩
end Go.Proofs.YtiomnlgnhdhffaaDoor
