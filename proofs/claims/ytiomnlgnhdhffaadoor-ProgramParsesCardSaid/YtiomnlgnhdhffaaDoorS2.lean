/-
  Contracts of strings.Index at one byte and of strings.SplitSeq at a separator of one byte. Conditions: none but what each theorem names.
-/
import Derived.Test.YtiomnlgnhdhffaaDoorS1
import Derived.Test.YtiomnlgnhdhffaaDoorBase
import Derived.Shelf.Abstract
import Derived.WalkKit
import Derived.OwnWalkIn
import Derived.TacticsInMore
import Derived.LoopNIn
import Derived.LoopIn
import Derived.Handy
import Derived.Lib.Strings
import Derived.Lib.Slices
import Derived.Lib.Walk
import Derived.Lib.Bytealg
namespace Go.Proofs.YtiomnlgnhdhffaaDoor
open Go.RowKit Go.Shelf
attribute [local go_sem] Oper.semAt_some
set_option linter.unusedVariables false

set_option maxHeartbeats 1000000 in
set_option maxRecDepth 100000 in
theorem indexByte65 (s : ByteArray) (c : Int) (w : World) : Calls Tryd.prog 65 #[.string s, .int .u8 c] w fun e w' => e = .returned (.int .i64 (Lib.indexByte s.data.toList c.toNat.toUInt8)) ∧ w = w' := by
  go_enter Tryd.func65, Tryd.ntmps65
  go_wp2
  rw [run_callFunc_extern Tryd.func70 (by kernel_rfl) (by kernel_rfl) (by kernel_rfl) (e := Extern.BytealgIndexByte.indexByte) (by kernel_rfl), Lib.run_indexByteString]
  simp only [Result.andThen]
  rw [Oper.upon_value]
  go_wp2
  go_ret
  exact ⟨rfl, rfl⟩
set_option maxHeartbeats 2000000 in
set_option maxRecDepth 100000 in
theorem index63 (s : ByteArray) (c : UInt8) (w : World) : Calls Tryd.prog 63 #[.string s, .string ⟨#[c]⟩] w fun e w' => e = .returned (.int .i64 (Lib.indexByte s.data.toList c)) ∧ w = w' := by
  go_enter Tryd.func63, Tryd.ntmps63
  go_wp2_with (go_at_call 65; refine (indexByte65 _ _ _).mono ?_; rintro e w' ⟨rfl, rfl⟩)
  · have h : ([c] == s.toList) = true := by assumption
    go_ret
    refine ⟨?_, rfl⟩
    have e : s.data.toList = [c] := by rw [← Lib.toList_data]; exact (beq_iff_eq.1 h).symm
    rw [e]
    simp [Lib.indexByte]
  · go_ret
    exact ⟨rfl, rfl⟩
theorem index57 (s : ByteArray) (c : UInt8) (w : World) : Calls Tryd.prog 57 #[.string s, .string ⟨#[c]⟩] w fun e w' => e = .returned (.int .i64 (Lib.indexByte s.data.toList c)) ∧ w = w' := by
  go_enter Tryd.func57, Tryd.ntmps57
  go_wp2_with (go_at_call 63; refine (index63 _ _ _).mono ?_; rintro e w' ⟨rfl, rfl⟩)
  go_ret
  exact ⟨rfl, rfl⟩

/-- The fragments of a list of bytes between the bytes c. -/
def cutAt (c : UInt8) : List UInt8 → List (List UInt8)
  | [] => [[]]
  | b :: l => if b = c then [] :: cutAt c l else match cutAt c l with
    | [] => [[b]]
    | f :: r => (b :: f) :: r
theorem cutAt_ne (c : UInt8) : ∀ l, cutAt c l ≠ []
  | [] => by simp [cutAt]
  | b :: l => by
    unfold cutAt
    split
    · simp
    · split <;> simp
theorem cutAt_none {c : UInt8} : ∀ {l : List UInt8}, Lib.indexByte l c < 0 → cutAt c l = [l]
  | [], _ => rfl
  | b :: l, h => by
    unfold Lib.indexByte at h
    have hg := Lib.indexByte_ge l c
    by_cases hb : (b == c) = true
    · rw [if_pos hb] at h; omega
    · rw [if_neg hb] at h
      by_cases hn : (Lib.indexByte l c == -1) = true
      · have ih := cutAt_none (c := c) (l := l) (by have := beq_iff_eq.1 hn; omega)
        unfold cutAt
        rw [if_neg (by simpa using hb), ih]
      · rw [if_neg hn] at h
        have : Lib.indexByte l c ≠ -1 := by simpa using hn
        omega
theorem cutAt_some {c : UInt8} : ∀ {l : List UInt8} {i : Nat}, Lib.indexByte l c = (i : Int) → i < l.length ∧ cutAt c l = l.take i :: cutAt c (l.drop (i + 1))
  | [], i, h => by simp [Lib.indexByte] at h
  | b :: l, i, h => by
    unfold Lib.indexByte at h
    have hg := Lib.indexByte_ge l c
    by_cases hb : (b == c) = true
    · rw [if_pos hb] at h
      obtain rfl : i = 0 := by omega
      refine ⟨by simp, ?_⟩
      rw [cutAt, if_pos (by simpa using hb)]
      rfl
    · rw [if_neg hb] at h
      by_cases hn : (Lib.indexByte l c == -1) = true
      · rw [if_pos hn] at h; omega
      · rw [if_neg hn] at h
        have hne : Lib.indexByte l c ≠ -1 := by simpa using hn
        obtain ⟨j, rfl⟩ : ∃ j, i = j + 1 := ⟨i - 1, by omega⟩
        obtain ⟨h1, h2⟩ := cutAt_some (c := c) (l := l) (i := j) (by omega)
        refine ⟨by simp; omega, ?_⟩
        rw [cutAt, if_neg (by simpa using hb), h2]
        simp
def bstr (l : List UInt8) : ByteArray := ⟨l.toArray⟩
/-- The strings that SplitSeq hands over. -/
def frags (c : UInt8) (l : List UInt8) : List ByteArray := (cutAt c l).map bstr
theorem frags_none {c : UInt8} {l : List UInt8} (h : Lib.indexByte l c < 0) : frags c l = [bstr l] := by rw [frags, cutAt_none h]; rfl
theorem frags_some {c : UInt8} {l : List UInt8} {i : Nat} (h : Lib.indexByte l c = (i : Int)) : i < l.length ∧ frags c l = bstr (l.take i) :: frags c (l.drop (i + 1)) := by
  obtain ⟨h1, h2⟩ := cutAt_some h
  exact ⟨h1, by rw [frags, h2]; rfl⟩
/-- The three cells of the closure. -/
structure SqAt (b : Nat) (c : UInt8) (rest : List UInt8) (W : World) : Prop where
  s : W.heap[b]? = some (.cells #[.string (bstr rest)] 9 (0, 0))
  sep : W.heap[b + 1]? = some (.cells #[.string ⟨#[c]⟩] 9 (0, 0))
  z : W.heap[b + 2]? = some (.cells #[.int .i64 0] 3 (0, 0))
/-- What a round keeps of them. -/
def SqKp (b : Nat) (W W' : World) : Prop := W'.heap[b]? = W.heap[b]? ∧ W'.heap[b + 1]? = W.heap[b + 1]? ∧ W'.heap[b + 2]? = W.heap[b + 2]?
theorem SqAt.kp {b : Nat} {c : UInt8} {rest : List UInt8} {W W' : World} (h : SqAt b c rest W) (hk : SqKp b W W') : SqAt b c rest W' := ⟨hk.1.trans h.s, hk.2.1.trans h.sep, hk.2.2.trans h.z⟩
theorem SqAt.below {b : Nat} {c : UInt8} {rest : List UInt8} {W W' : World} (h : SqAt b c rest W) (hb : Below W.heap.size W W') : SqAt b c rest W' :=
  ⟨(hb.block _ (lt_of_block h.s)).trans h.s, (hb.block _ (lt_of_block h.sep)).trans h.sep, (hb.block _ (lt_of_block h.z)).trans h.z⟩
theorem SqAt.cells {b : Nat} {c : UInt8} {rest : List UInt8} {W : World} (h : SqAt b c rest W) : W.cell? ⟨b, 0, none⟩ = some (.string (bstr rest)) ∧ W.cell? ⟨b + 1, 0, none⟩ = some (.string ⟨#[c]⟩) ∧ W.cell? ⟨b + 2, 0, none⟩ = some (.int .i64 0) ∧ W.frozen? ⟨b, 0, none⟩ = false := by
  refine ⟨?_, ?_, ?_, ?_⟩
  · rw [cell_of_row _ _ _ _ _ _ h.s]; rfl
  · rw [cell_of_row _ _ _ _ _ _ h.sep]; rfl
  · rw [cell_of_row _ _ _ _ _ _ h.z]; rfl
  · simp [World.frozen?, h.s]

theorem bstr_take (l : List UInt8) (i : Nat) : bstr (l.take i) = (bstr l).extract 0 i := by
  apply ByteArray.ext
  simp [bstr, ByteArray.data_extract]
theorem bstr_drop (l : List UInt8) (i : Nat) : (bstr l).extract i l.length = bstr (l.drop i) := by
  apply ByteArray.ext
  simp only [bstr, ByteArray.data_extract, List.extract_toArray]
  rw [List.extract_eq_take_drop, List.take_of_length_le (by simp)]
theorem SqAt.store {b : Nat} {c : UInt8} {rest rest' : List UInt8} {W : World} (h : SqAt b c rest W) : SqAt b c rest' (W.setCell ⟨b, 0, none⟩ (.string (bstr rest'))) := by
  refine ⟨?_, (Below.heap_setCell W ⟨b, 0, none⟩ _ (b + 1) (by simp)).trans h.sep, (Below.heap_setCell W ⟨b, 0, none⟩ _ (b + 2) (by simp)).trans h.z⟩
  have := h.s
  simp [World.setCell, Array.getElem?_modify, this]
def restLen (b : Nat) (W : World) : Nat := match W.cell? ⟨b, 0, none⟩ with | some (.string s) => s.size | _ => 0
theorem SqAt.len {b : Nat} {c : UInt8} {rest : List UInt8} {W : World} (h : SqAt b c rest W) : restLen b W = rest.length := by
  unfold restLen
  rw [h.cells.1]
  simp [bstr, ByteArray.size]
theorem index57' (rest : List UInt8) (c : UInt8) (w : World) : Calls Tryd.prog 57 #[.string (bstr rest), .string ⟨#[c]⟩] w fun e w' => e = .returned (.int .i64 (Lib.indexByte rest c)) ∧ w = w' := by
  have := index57 (bstr rest) c w
  simpa [bstr] using this
set_option maxHeartbeats 4000000 in
set_option maxRecDepth 100000 in
theorem splitSeq55 (n : Nat) (hn : 1 ≤ n) (b : Nat) (c : UInt8) (l : List UInt8) (hlen : l.length ≤ 4611686018427387904) (w : World) (h : SqAt b c l w) :
    SeqStopsB Fence.wide n Tryd.prog 55 #[.pointer (some ⟨b + 1, 0, none⟩), .pointer (some ⟨b, 0, none⟩), .pointer (some ⟨b + 2, 0, none⟩)] (fun x : ByteArray => #[.string x]) (SqKp b) (frags c l) b w := by
  intro l₀ J Jx W hW hJ hY h0
  have HS := Kp.mk (h.below hW)
  clear h
  refine callsIn_of_wp Tryd.func55 rfl trivial ?_ rfl
  simp only [Tryd.ntmps55, List.size_toArray, List.length_cons, List.length_nil, Nat.reduceAdd, Nat.reduceSub, Array.replicate_succ, Array.replicate_zero, List.push_toArray, List.append_toArray, List.nil_append, List.cons_append]
  obtain ⟨c0, c1, c2, c3⟩ := HS.out.cells
  gi_wp2
  clear c0 c1 c2 c3
  gi_loopw [7] (fun _ W => ∃ (pre : List ByteArray) (rest : List UInt8), rest.length ≤ l.length ∧ Kp (pre ++ frags c rest = frags c l) ∧ Kp (SqAt b c rest W) ∧ Kp (J pre W)) (fun _ W => restLen b W)
  case atStart => exact ⟨[], l, Nat.le_refl _, ⟨rfl⟩, HS, ⟨h0⟩⟩
  case round =>
    clear HS h0
    obtain ⟨pre, rest, hr, HP, HS, HJ⟩ := hrel
    obtain ⟨c0, c1, c2, c3⟩ := HS.out.cells
    have hml := HS.out.len
    have hsz : (bstr rest).size = rest.length := by simp [bstr, ByteArray.size]
    by_cases hi : Lib.indexByte rest c < 0
    · have HF := Kp.mk (frags_none hi)
      obtain ⟨fn, tmps, assign, body, hy, hR⟩ := hY pre (bstr rest) wr HJ.out (by rw [← HP.out, HF.out]; exact List.prefix_refl _)
      gi_wp2_with (first | (refine ⟨trivial, ?_⟩; gi_at_call 57; refine (callsIn_wide.2 (index57' rest c wr)).mono ?_; rintro e w' ⟨rfl, rfl⟩))
      refine hR.mono ?_
      rintro e W' (⟨rfl, hJ', hk⟩ | ⟨rfl, hJx'⟩)
      · gi_wp2
        refine bodyPost_end (results_none rfl _ _ _) rfl ?_
        exact ⟨⟨_, rfl⟩, .inl (by rw [← HP.out, HF.out]; exact hJ')⟩
      · gi_wp2
        refine bodyPost_end (results_none rfl _ _ _) rfl ?_
        exact ⟨⟨_, rfl⟩, .inr ⟨pre ++ [bstr rest], by rw [← HP.out, HF.out]; exact List.prefix_refl _, hJx'⟩⟩
    · obtain ⟨i, hi'⟩ := Int.eq_ofNat_of_zero_le (show 0 ≤ Lib.indexByte rest c by omega)
      obtain ⟨hil, hfs⟩ := frags_some hi'
      have HF := Kp.mk hfs
      clear hfs
      obtain ⟨fn, tmps, assign, body, hy, hR⟩ := hY pre (bstr (rest.take i)) wr HJ.out (by rw [← HP.out, HF.out]; exact ⟨frags c (rest.drop (i + 1)), by simp⟩)
      have hb0 : (0 : Int) ≤ (i : Int) := by omega
      have hb1 : (i : Int) ≤ ((bstr rest).size : Int) := by omega
      have hneg : ¬ ((i : Int) < 0) := by omega
      rw [bstr_take] at hy
      gi_wp2_with (first | (refine ⟨trivial, ?_⟩; gi_at_call 57; refine (callsIn_wide.2 (index57' rest c wr)).mono ?_; rintro e w' ⟨rfl, rfl⟩; rw [hi']))
      refine hR.mono ?_
      rintro e W' (⟨rfl, hJ', hk⟩ | ⟨rfl, hJx'⟩)
      · have HS' := Kp.mk (HS.out.kp hk)
        clear c0 c1 c2 c3
        obtain ⟨c0, c1, c2, c3⟩ := HS'.out.cells
        have HJ' := Kp.mk hJ'
        clear hJ' hk hY
        gi_wp2
        rw [bstr_drop]
        have hst := HS'.out.store (rest' := rest.drop (i + 1))
        refine ⟨⟨pre ++ [bstr (rest.take i)], rest.drop (i + 1), by simp; omega, ⟨by rw [← HP.out, HF.out]; simp⟩, ⟨hst⟩, ⟨hJ _ _ _ HJ'.out (grownBy_setCell' _ _ _)⟩⟩, ?_⟩
        rw [hst.len, hml]
        simp
        omega
      · gi_wp2
        go_returns
        exact ⟨⟨_, rfl⟩, .inr ⟨pre ++ [bstr (rest.take i)], by rw [← HP.out, HF.out]; exact ⟨frags c (rest.drop (i + 1)), by simp⟩, hJx'⟩⟩
end Go.Proofs.YtiomnlgnhdhffaaDoor
