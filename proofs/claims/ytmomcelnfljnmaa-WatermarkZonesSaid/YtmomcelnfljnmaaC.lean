/-
  The contract of watermark.cells at every slice of ints. Conditions: none but what each theorem names.
-/
import Derived.Test.YtmomcelnfljnmaaB
import Derived.Handy
import Derived.Laws.CopyOwn
namespace Go.Proofs.Ytmomcelnfljnmaa
open Go.RowKit
set_option linter.unusedVariables false

/-- A slice of ints that reads as l. -/
def IntsAt (w : World) (A : Option Addr) (l : List Int) : Prop := l.length ≤ 4611686018427387904 ∧ (l ≠ [] → ∃ ad, A = some ad ∧ ad.block < w.heap.size ∧ ∀ j x, l[j]? = some x → w.cell? (ad.add j) = some (.int .i64 x))

theorem IntsAt.below {w w' : World} {A : Option Addr} {l : List Int} (h : IntsAt w A l) (hb : Below w.heap.size w w') : IntsAt w' A l := by
  refine ⟨h.1, fun hl => ?_⟩
  obtain ⟨ad, h1, h2, h3⟩ := h.2 hl
  refine ⟨ad, h1, Nat.lt_of_lt_of_le h2 hb.size, fun j x hj => ?_⟩
  rw [hb.cell (p := ad.add j) (by unfold Addr.add; split <;> simpa using h2)]
  exact h3 j x hj

def g5 (l : List Int) (i : Nat) : Int := l.getD i 0
def arr5 (l : List Int) : Value := .agg #[.int .i64 (g5 l 0), .int .i64 (g5 l 1), .int .i64 (g5 l 2), .int .i64 (g5 l 3), .int .i64 (g5 l 4)]
def ok5 (l : List Int) : Bool := inB (g5 l 0) && inB (g5 l 1) && inB (g5 l 2) && inB (g5 l 3) && inB (g5 l 4)
def cellsV (l : List Int) : Value := .tuple #[arr5 l, .bool (ok5 l)]

theorem splice5 (l : List Int) : splice [.int .i64 0, .int .i64 0, .int .i64 0, .int .i64 0, .int .i64 0] 0 ((l.take 5).map (Value.int .i64)) = [.int .i64 (g5 l 0), .int .i64 (g5 l 1), .int .i64 (g5 l 2), .int .i64 (g5 l 3), .int .i64 (g5 l 4)] := by
  unfold splice g5
  match l with
  | [] => rfl
  | [a] => rfl
  | [a, b] => rfl
  | [a, b, c] => rfl
  | [a, b, c, d] => rfl
  | a :: b :: c :: d :: e :: t => rfl

theorem gate_dst {P : Program} {ops : Array Oper} {Q : Exit → Act → World → Prop} {rest : List Oper} {o : Oper} {a : Act} {w : World} {N : Nat} (_ : o.dst = some N) (h : wpList P ops Q (o :: rest) a w) : wpList P ops Q (o :: rest) a w := h

theorem take5_len (l : List Int) : ((l.take 5).map (Value.int .i64)).length = Nat.min l.length 5 := by simp [Nat.min_comm]
theorem take5_one (l : List Int) : ∀ v ∈ (l.take 5).map (Value.int .i64), v.oneCell' = true := by
  intro v hv
  obtain ⟨x, _, rfl⟩ := List.mem_map.1 hv
  rfl
theorem take5_src {w w' : World} {A : Option Addr} {l : List Int} (h : IntsAt w A l) (hb : Below w.heap.size w w') : 0 < ((l.take 5).map (Value.int .i64)).length → ∃ ad, A = some ad ∧ ∀ j v, ((l.take 5).map (Value.int .i64))[j]? = some v → w'.cell? (ad.add j) = some v := by
  intro h0
  obtain ⟨ad, h1, _, h3⟩ := (h.below hb).2 (by rintro rfl; simp at h0)
  refine ⟨ad, h1, fun j v hj => ?_⟩
  rw [List.getElem?_map, Option.map_eq_some_iff] at hj
  obtain ⟨x, hx, rfl⟩ := hj
  refine h3 j x ?_
  rw [List.getElem?_take] at hx
  split at hx
  · exact hx
  · simp at hx

/- copy into the newest block, from its head. -/
theorem setRow_alloc_last (w : World) (c c' : Array Value) (t : TypeId) : (w.alloc (.cells c t)).setRow w.heap.size c' = w.alloc (.cells c' t) := by
  simp only [World.setRow, World.alloc]
  congr 1
  apply Array.ext_getElem?
  intro i
  rw [Array.getElem?_modify, Array.getElem?_push, Array.getElem?_push]
  split
  · subst i
    simp
  · split
    · omega
    · rfl
theorem wpList_copy_new {P : Program} {w : World} {ops : Array Oper} {rest : List Oper} {o : Oper} {a : Act} {Q : Exit → Act → World → Prop} (hgd : o.guard = none) (d s : Operand) (dT sT : TypeId)
    (ho : o.op = .call { callee := .builtin .copy, args := #[d, s], argTypes := #[dT, sT] }) (elem : TypeId) (hu : P.underlying dT = some (.slice elem)) (hsz : (P.info? elem).map (·.size) = some 1)
    (g : Nat) (hg : g = w.heap.size) (sp : Option Addr) (dLen dCap sLen sCap : Nat) (hd : a.eval d = .slice (some ⟨g, 0, none⟩) dLen dCap) (hs : a.eval s = .slice sp sLen sCap)
    (cur : List Value) (t : TypeId) (cs : List Value) (hn : cs.length = Nat.min sLen dLen)
    (hpos : 0 < cs.length → ∃ ad, sp = some ad ∧ ∀ j v, cs[j]? = some v → (w.alloc (.cells cur.toArray t)).cell? (ad.add j) = some v)
    (hfit : cs.length ≤ cur.length) (h1 : ∀ v ∈ cs, v.oneCell' = true)
    (h : wpList P ops Q rest (a.put o.dst (goInt cs.length)) (w.alloc (.cells (splice cur 0 cs).toArray t))) :
    wpList P ops Q (o :: rest) a (w.alloc (.cells cur.toArray t)) := by
  subst hg
  by_cases h0 : cs.length = 0
  · obtain rfl : cs = [] := List.eq_nil_of_length_eq_zero h0
    refine wpList_copy_nothing hgd d s dT sT ho elem hu hsz _ sp dLen dCap sLen sCap hd hs (by simpa using hn.symm) ?_
    simpa [splice] using h
  · obtain ⟨ad, rfl, hsrc⟩ := hpos (by omega)
    refine wpList_copy_own hgd d s dT sT ho elem hu hsz w.heap.size 0 dLen dCap ad sLen sCap hd hs cur.toArray t (heap_alloc_new _ _) cs hn hsrc (by simpa using hfit) h1 ?_
    have e : (w.alloc (.cells cur.toArray t)).setRow w.heap.size (splice cur 0 cs).toArray = w.alloc (.cells (splice cur 0 cs).toArray t) := setRow_alloc_last _ _ _ _
    simp only [splice, Nat.zero_add, List.take_zero, List.nil_append] at h e
    simp only [Nat.zero_add, List.take_zero, List.nil_append]
    rw [e]
    exact h
theorem idx77 (x0 x1 x2 x3 x4 : Int) : (∀ w, (Instr.index 77 (.agg #[.int .i64 x0, .int .i64 x1, .int .i64 x2, .int .i64 x3, .int .i64 x4]) (.int .i64 0)).run Try.prog w = .ok (.int .i64 x0) w)
    ∧ (∀ w, (Instr.index 77 (.agg #[.int .i64 x0, .int .i64 x1, .int .i64 x2, .int .i64 x3, .int .i64 x4]) (.int .i64 1)).run Try.prog w = .ok (.int .i64 x1) w)
    ∧ (∀ w, (Instr.index 77 (.agg #[.int .i64 x0, .int .i64 x1, .int .i64 x2, .int .i64 x3, .int .i64 x4]) (.int .i64 2)).run Try.prog w = .ok (.int .i64 x2) w)
    ∧ (∀ w, (Instr.index 77 (.agg #[.int .i64 x0, .int .i64 x1, .int .i64 x2, .int .i64 x3, .int .i64 x4]) (.int .i64 3)).run Try.prog w = .ok (.int .i64 x3) w)
    ∧ (∀ w, (Instr.index 77 (.agg #[.int .i64 x0, .int .i64 x1, .int .i64 x2, .int .i64 x3, .int .i64 x4]) (.int .i64 4)).run Try.prog w = .ok (.int .i64 x4) w) :=
  ⟨fun _ => by kernel_rfl, fun _ => by kernel_rfl, fun _ => by kernel_rfl, fun _ => by kernel_rfl, fun _ => by kernel_rfl⟩
abbrev z5 : List Value := [.int .i64 0, .int .i64 0, .int .i64 0, .int .i64 0, .int .i64 0]

set_option maxRecDepth 100000 in
set_option maxHeartbeats 4000000 in
theorem cells41 (A : Option Addr) (l : List Int) (cap : Nat) (w : World) (hl : IntsAt w A l) (hcap : l.length ≤ cap) :
    Calls Try.prog 41 #[.slice A l.length cap] w fun e w' => e = .returned (cellsV l) ∧ Below w.heap.size w w' := by
  have hb0 := (((Below.refl w.heap.size w).alloc (Nat.le_refl _) (.cells #[.int .i64 0, .int .i64 0, .int .i64 0, .int .i64 0, .int .i64 0] 77)).alloc (by simp) (.cells #[.int .i64 0, .int .i64 0, .int .i64 0, .int .i64 0, .int .i64 0] 77))
  have HS := Kp.mk (take5_src hl hb0)
  have E0 : ∃ b, b = ok5 l := ⟨_, rfl⟩
  obtain ⟨b, E0⟩ := E0
  have HE := Kp.mk (show cellsV l = .tuple #[.agg #[.int .i64 (g5 l 0), .int .i64 (g5 l 1), .int .i64 (g5 l 2), .int .i64 (g5 l 3), .int .i64 (g5 l 4)], .bool b] by rw [E0]; rfl)
  clear hb0 hl
  unfold ok5 at E0
  cases i0 : inB (g5 l 0) <;> (try cases i1 : inB (g5 l 1)) <;> (try cases i2 : inB (g5 l 2)) <;> (try cases i3 : inB (g5 l 3)) <;> (try cases i4 : inB (g5 l 4))
  all_goals
    simp only [i0, i1, i2, i3, i4, Bool.and_true, Bool.and_false] at E0
    subst E0
    obtain ⟨x0, x1, x2, x3, x4⟩ := idx77 (g5 l 0) (g5 l 1) (g5 l 2) (g5 l 3) (g5 l 4)
    go_enter Try.func41, Try.ntmps41
    go_wp2_with ((with_reducible refine gate_dst (N := 9) rfl ?_); go_must (refine wpList_copy_new rfl (.tmp 7) (.tmp 8) 33 33 rfl 3 Try.underlying33 (by kernel_rfl) (w.heap.size + 1) (by simp) A 5 5 l.length cap rfl rfl z5 77 ((l.take 5).map (Value.int .i64)) (take5_len l) HS.out (by rw [take5_len]; exact Nat.min_le_right _ _) (take5_one l) ?_; rw [splice5]))
    refine wp_loop_rounds 6 ?_
    rw [rounds_succ]
    go_wp2_with (go_at_call 39; refine (in39 _ _).mono ?_; rintro e w' ⟨rfl, rfl⟩)
    (try (rw [rounds_succ]; go_wp2_with (go_at_call 39; refine (in39 _ _).mono ?_; rintro e w' ⟨rfl, rfl⟩)))
    (try (rw [rounds_succ]; go_wp2_with (go_at_call 39; refine (in39 _ _).mono ?_; rintro e w' ⟨rfl, rfl⟩)))
    (try (rw [rounds_succ]; go_wp2_with (go_at_call 39; refine (in39 _ _).mono ?_; rintro e w' ⟨rfl, rfl⟩)))
    (try (rw [rounds_succ]; go_wp2_with (go_at_call 39; refine (in39 _ _).mono ?_; rintro e w' ⟨rfl, rfl⟩)))
    (try (rw [rounds_succ]; go_wp2_with (go_at_call 39; refine (in39 _ _).mono ?_; rintro e w' ⟨rfl, rfl⟩)))
    exact bodyPost_ret (v := cellsV l) (by rw [HE.out]; simp [results, Try.results41, go_sem]) rfl ⟨rfl, by repeat (first | exact Below.refl _ _ | refine Below.setCell ?_ (by simp) _ | refine Below.alloc ?_ (by simp) _)⟩
end Go.Proofs.Ytmomcelnfljnmaa
