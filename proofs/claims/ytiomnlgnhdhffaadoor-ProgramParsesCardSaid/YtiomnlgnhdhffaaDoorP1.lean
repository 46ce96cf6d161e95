/-
  The words of a line that is read: contracts of next, number, prot and at. Conditions: none but what each theorem names.
-/
import Derived.Test.YtiomnlgnhdhffaaDoorS2
namespace Go.Proofs.YtiomnlgnhdhffaaDoor
open Go.RowKit
set_option linter.unusedVariables false

abbrev Wd := List UInt8
abbrev St := List Wd × Bool
def nextS : St → Wd × St
  | ([], _) => ([], ([], false))
  | (w :: t, f) => (w, (t, f))
def digV : List UInt8 → Int → Option Int
  | [], n => some n
  | b :: l, n => if b.toNat < 48 ∨ 57 < b.toNat then none else digV l (10 * n + ((b.toNat : Int) - 48))
def numW (w : Wd) : Option Int := if w.length < 1 ∨ 3 < w.length ∨ (w.headD 0 = 48 ∧ 1 < w.length) then none else digV w 0
def numS (s : St) : Int × St := match numW (nextS s).1 with
  | some n => (n, (nextS s).2)
  | none => (0, ((nextS s).2.1, false))
def protS (s : St) : Int × St :=
  if (nextS s).1 = [114] then (1, (nextS s).2) else if (nextS s).1 = [114, 119] then (3, (nextS s).2) else (0, ((nextS s).2.1, false))
def atS (c : Wd) : St → Bool × St
  | ([], f) => (false, ([], f))
  | (w :: t, f) => if w = c then (true, (t, f)) else (false, (w :: t, f))

def StrsAt (W : World) (A : Option Addr) (ws : List Wd) : Prop := ws.length ≤ 4611686018427387904 ∧ (ws ≠ [] → ∃ ad, A = some ad ∧ ad.block < W.heap.size ∧ ∀ j x, ws[j]? = some x → W.cell? (ad.add j) = some (.string (bstr x)))
theorem StrsAt.head {W : World} {A : Option Addr} {w : Wd} {t : List Wd} (h : StrsAt W A (w :: t)) : ∃ b off, A = some ⟨b, off, none⟩ ∧ W.cell? ⟨b, off, none⟩ = some (.string (bstr w)) := by
  obtain ⟨ad, rfl, _, hc⟩ := h.2 (by simp)
  have h0 := hc 0 w rfl
  have hs : ad.spot = none := by simpa [Addr.add] using World.cell?_spot h0
  obtain ⟨b, off, spot⟩ := ad
  simp only at hs
  subst hs
  exact ⟨b, off, rfl, by simpa [Addr.add] using h0⟩
/-- A line that is read lies in block p: its words and whether it is fine; its words' row is another block; both lie below B. -/
def LnAt (B p : Nat) (s : St) (W : World) : Prop := ∃ A cap, W.heap[p]? = some (.cells #[.slice A s.1.length cap, .bool s.2] 45 (0, 0)) ∧ s.1.length ≤ cap ∧ cap ≤ 9223372036854775807 ∧ StrsAt W A s.1 ∧ p < B ∧ B ≤ W.heap.size ∧ ∀ ad, A = some ad → s.1 ≠ [] → ad.block ≠ p ∧ ad.block < B
theorem strs_move {W W' : World} {A : Option Addr} {ws : List Wd} (h : StrsAt W A ws) (hs : W.heap.size ≤ W'.heap.size) (hb : ∀ ad, A = some ad → ws ≠ [] → W'.heap[ad.block]? = W.heap[ad.block]?) : StrsAt W' A ws := by
  refine ⟨h.1, fun hn => ?_⟩
  obtain ⟨ad, rfl, h2, h3⟩ := h.2 hn
  refine ⟨ad, rfl, by omega, fun j x hx => ?_⟩
  rw [← h3 j x hx]
  refine World.cell?_of_block ?_
  rw [show (ad.add j).block = ad.block by unfold Addr.add; split <;> rfl]
  exact hb ad rfl hn
theorem LnAt.below {B p : Nat} {s : St} {W W' : World} (h : LnAt B p s W) (hs : W.heap.size ≤ W'.heap.size) (hb : ∀ k, k < B → W'.heap[k]? = W.heap[k]?) : LnAt B p s W' := by
  obtain ⟨A, cap, h1, h2, h2', h3, h4, h5, h6⟩ := h
  exact ⟨A, cap, (hb p h4).trans h1, h2, h2', strs_move h3 hs (fun ad hA hn => hb _ (h6 ad hA hn).2), h4, Nat.le_trans h5 hs, h6⟩
theorem LnAt.cells {p : Nat} {A : Option Addr} {n cap : Nat} {f : Bool} {W : World} (h : W.heap[p]? = some (.cells #[.slice A n cap, .bool f] 45 (0, 0))) :
    W.cell? ⟨p, 0, none⟩ = some (.slice A n cap) ∧ W.cell? ⟨p, 1, none⟩ = some (.bool f) ∧ W.frozen? ⟨p, 0, none⟩ = false ∧ W.frozen? ⟨p, 1, none⟩ = false := by
  refine ⟨?_, ?_, ?_, ?_⟩
  · rw [cell_of_row _ _ _ _ _ _ h]; rfl
  · rw [cell_of_row _ _ _ _ _ _ h]; rfl
  · simp [World.frozen?, h]
  · simp [World.frozen?, h]
theorem setCell_row {W : World} {p i : Nat} {c : Array Value} {t : TypeId} (v : Value) (h : W.heap[p]? = some (.cells c t (0, 0))) : (W.setCell ⟨p, i, none⟩ v).heap[p]? = some (.cells (c.setIfInBounds i v) t (0, 0)) := by
  simp [World.setCell, Array.getElem?_modify, h]
theorem setCell_grown (W : World) (p i : Nat) (v : Value) : W.grownBy (W.setCell ⟨p, i, none⟩ v) (some p) :=
  ⟨rfl, rfl, rfl, by simp [World.setCell], fun k _ hk => Below.heap_setCell W ⟨p, i, none⟩ v k (fun e => hk (by rw [e]))⟩
theorem LnAt.setFine {B p : Nat} {s : St} {W : World} (h : LnAt B p s W) (f : Bool) : LnAt B p (s.1, f) (W.setCell ⟨p, 1, none⟩ (.bool f)) := by
  obtain ⟨A, cap, h1, h2, h2', h3, h4, h5, h6⟩ := h
  refine ⟨A, cap, by rw [setCell_row _ h1]; rfl, h2, h2', strs_move h3 (by simp [World.setCell]) (fun ad hA hn => Below.heap_setCell W _ _ _ (h6 ad hA hn).1), h4, by simpa [World.setCell] using h5, h6⟩
theorem LnAt.tail {B p : Nat} {w : Wd} {t : List Wd} {f : Bool} {W : World} {A : Option Addr} {cap : Nat} (h1 : W.heap[p]? = some (.cells #[.slice A (t.length + 1) cap, .bool f] 45 (0, 0))) (h2 : t.length + 1 ≤ cap) (h2' : cap ≤ 9223372036854775807)
    (h3 : StrsAt W A (w :: t)) (h4 : p < B) (h5 : B ≤ W.heap.size) (h6 : ∀ ad, A = some ad → w :: t ≠ [] → ad.block ≠ p ∧ ad.block < B) {A' : Option Addr} (hA : t ≠ [] → ∃ ad, A = some ad ∧ A' = some (ad.add 1)) :
    LnAt B p (t, f) (W.setCell ⟨p, 0, none⟩ (.slice A' t.length (cap - 1))) := by
  have hst : StrsAt W A' t := by
    refine ⟨by have := h3.1; simp at this ⊢; omega, fun hn => ?_⟩
    obtain ⟨ad, hA1, hA2⟩ := hA hn
    obtain ⟨ad', hA3, k2, k3⟩ := h3.2 (by simp)
    rw [hA1] at hA3
    cases hA3
    refine ⟨_, hA2, by rw [show (ad.add 1).block = ad.block by unfold Addr.add; split <;> rfl]; exact k2, fun j x hx => ?_⟩
    rw [← k3 (j + 1) x (by simpa using hx)]
    congr 1
    unfold Addr.add
    by_cases hj : j = 0 <;> simp [hj, Nat.add_assoc, Nat.add_comm 1]
  have hbl : ∀ ad, A' = some ad → t ≠ [] → ad.block ≠ p ∧ ad.block < B := by
    intro ad hA' hn
    obtain ⟨ad0, hA1, hA2⟩ := hA hn
    rw [hA2] at hA'
    cases hA'
    rw [show (ad0.add 1).block = ad0.block by unfold Addr.add; split <;> rfl]
    exact h6 ad0 hA1 (by simp)
  exact ⟨A', cap - 1, by rw [setCell_row _ h1]; rfl, show t.length ≤ cap - 1 by omega, by omega, strs_move hst (by simp [World.setCell]) (fun ad hA hn => Below.heap_setCell W _ _ _ (hbl ad hA hn).1), h4, by simpa [World.setCell] using h5, hbl⟩

set_option maxHeartbeats 1000000 in
theorem next36 {B p : Nat} {s : St} (W : World) (h : LnAt B p s W) : Calls Tryd.prog 36 #[.pointer (some ⟨p, 0, none⟩)] W fun e W' => e = .returned (.string (bstr (nextS s).1)) ∧ LnAt B p (nextS s).2 W' ∧ W.grownBy W' (some p) := by
  obtain ⟨ws, f⟩ := s
  have H0 := Kp.mk h
  obtain ⟨A, cap, h1, h2, h2', h3, h4, h5, h6⟩ := h
  obtain ⟨c0, c1, c2, c3⟩ := LnAt.cells h1
  cases ws with
  | nil =>
    have HS := Kp.mk (H0.out.setFine false)
    clear h1 h3 h6
    simp only [List.length_nil] at c0
    go_enter Tryd.func36, Tryd.ntmps36
    go_wp2
    go_ret
    exact ⟨rfl, HS.out, setCell_grown _ _ _ _⟩
  | cons w t =>
    obtain ⟨b, off, rfl, c4⟩ := h3.head
    simp only [List.length_cons] at c0 h1 h2
    have HT := Kp.mk (fun A' hA => LnAt.tail (w := w) (f := f) (A' := A') h1 h2 h2' h3 h4 h5 h6 hA)
    have hlen := h3.1
    simp only [List.length_cons] at hlen
    clear h1 h3 h6 H0
    have hc1 : (1 : Int) ≤ ((t.length : Int) + 1) := by omega
    go_enter Tryd.func36, Tryd.ntmps36
    go_wp2
    · have hcap : cap = 1 := by assumption
      subst hcap
      obtain rfl : t = [] := List.eq_nil_of_length_eq_zero (by omega)
      go_ret
      exact ⟨rfl, HT.out _ (fun h => absurd rfl h), setCell_grown _ _ _ _⟩
    · go_ret
      exact ⟨rfl, HT.out _ (fun _ => ⟨_, rfl, rfl⟩), setCell_grown _ _ _ _⟩

theorem LnAt.next {B p : Nat} {s : St} {W W' : World} (h : LnAt B p s W) (hg : W.grownBy W' none) : LnAt B p s W' :=
  h.below hg.size (fun k hk => hg.block k (by obtain ⟨A, cap, _, _, _, _, _, h5, _⟩ := h; omega) (by simp))
theorem LnAt.fine {B p : Nat} {s : St} {W : World} (h : LnAt B p s W) : ∃ A cap, W.cell? ⟨p, 0, none⟩ = some (.slice A s.1.length cap) ∧ W.cell? ⟨p, 1, none⟩ = some (.bool s.2) ∧ W.frozen? ⟨p, 0, none⟩ = false ∧ W.frozen? ⟨p, 1, none⟩ = false := by
  obtain ⟨A, cap, h1, _⟩ := h
  exact ⟨A, cap, LnAt.cells h1⟩
theorem bstr_list (l : List UInt8) : (bstr l).toList = l := by rw [Lib.toList_data]; simp [bstr]
theorem bstr_size (l : List UInt8) : (bstr l).size = l.length := by simp [bstr, ByteArray.size]

set_option maxHeartbeats 1000000 in
theorem prot39 {B p : Nat} {s : St} (W : World) (h : LnAt B p s W) : Calls Tryd.prog 39 #[.pointer (some ⟨p, 0, none⟩)] W fun e W' => e = .returned (.int .i64 (protS s).1) ∧ LnAt B p (protS s).2 W' ∧ W.grownBy W' (some p) := by
  have H0 := Kp.mk h
  clear h
  have hl := bstr_list (nextS s).1
  by_cases h1 : (nextS s).1 = [114]
  · have HE := Kp.mk (show protS s = (1, (nextS s).2) by rw [protS, if_pos h1])
    have q1 : ((bstr (nextS s).1).toList == [114]) = true := by rw [hl, h1]; rfl
    clear h1 hl
    go_enter Tryd.func39, Tryd.ntmps39
    go_wp2_with (go_at_call 36; refine (next36 _ H0.out).mono ?_; rintro e W' ⟨rfl, hL, hg⟩; have HL' := Kp.mk hL; have HG := Kp.mk hg; clear hL hg; obtain ⟨A, cap, c0, c1, c2, c3⟩ := HL'.out.fine)
    go_ret
    exact ⟨by rw [HE.out]; rfl, by rw [HE.out]; exact HL'.out, HG.out⟩
  · have q1 : ((bstr (nextS s).1).toList == [114]) = false := by rw [hl]; simpa using h1
    by_cases h2 : (nextS s).1 = [114, 119]
    · have HE := Kp.mk (show protS s = (3, (nextS s).2) by rw [protS, if_neg h1, if_pos h2])
      have q2 : ((bstr (nextS s).1).toList == [114, 119]) = true := by rw [hl, h2]; rfl
      clear h1 h2 hl
      go_enter Tryd.func39, Tryd.ntmps39
      go_wp2_with (go_at_call 36; refine (next36 _ H0.out).mono ?_; rintro e W' ⟨rfl, hL, hg⟩; have HL' := Kp.mk hL; have HG := Kp.mk hg; clear hL hg; obtain ⟨A, cap, c0, c1, c2, c3⟩ := HL'.out.fine)
      go_ret
      exact ⟨by rw [HE.out]; rfl, by rw [HE.out]; exact HL'.out, HG.out⟩
    · have HE := Kp.mk (show protS s = (0, ((nextS s).2.1, false)) by rw [protS, if_neg h1, if_neg h2])
      have q2 : ((bstr (nextS s).1).toList == [114, 119]) = false := by rw [hl]; simpa using h2
      clear h1 h2 hl
      go_enter Tryd.func39, Tryd.ntmps39
      go_wp2_with (go_at_call 36; refine (next36 _ H0.out).mono ?_; rintro e W' ⟨rfl, hL, hg⟩; have HL' := Kp.mk hL; have HG := Kp.mk hg; clear hL hg; obtain ⟨A, cap, c0, c1, c2, c3⟩ := HL'.out.fine)
      go_ret
      exact ⟨by rw [HE.out]; rfl, by rw [HE.out]; exact HL'.out.setFine false, HG.out.trans (setCell_grown _ _ _ _)⟩

set_option maxHeartbeats 1000000 in
theorem at58 {B p : Nat} {s : St} (c : ByteArray) (W : World) (h : LnAt B p s W) : Calls Tryd.prog 58 #[.pointer (some ⟨p, 0, none⟩), .string c] W fun e W' => e = .returned (.bool (atS c.data.toList s).1) ∧ LnAt B p (atS c.data.toList s).2 W' ∧ W.grownBy W' (some p) := by
  obtain ⟨ws, f⟩ := s
  have H0 := Kp.mk h
  obtain ⟨A, cap, h1, h2, h2', h3, h4, h5, h6⟩ := h
  obtain ⟨c0, c1, c2, c3⟩ := LnAt.cells h1
  cases ws with
  | nil =>
    clear h1 h3 h6
    simp only [List.length_nil] at c0
    go_enter Tryd.func58, Tryd.ntmps58
    go_wp2
    go_ret
    exact ⟨rfl, H0.out, World.grownBy.refl _ _⟩
  | cons w t =>
    obtain ⟨b, off, rfl, c4⟩ := h3.head
    simp only [List.length_cons] at c0 h1 h2
    have hlen := h3.1
    simp only [List.length_cons] at hlen
    clear h1 h3 h6
    have hc1 : (1 : Int) ≤ ((t.length : Int) + 1) := by omega
    have hl := bstr_list w
    have hl2 := Lib.toList_data c
    by_cases hw : w = c.data.toList
    · have q1 : ((bstr w).toList == c.toList) = true := by rw [hl, hl2, hw]; simp
      have HE := Kp.mk (show atS c.data.toList (w :: t, f) = (true, (t, f)) by rw [atS, if_pos hw])
      clear hw hl hl2
      go_enter Tryd.func58, Tryd.ntmps58
      go_wp2_with (go_at_call 36; refine (next36 _ H0.out).mono ?_; rintro e W' ⟨rfl, hL, hg⟩; have HL' := Kp.mk hL; have HG := Kp.mk hg; clear hL hg)
      go_ret
      exact ⟨by rw [HE.out]; rfl, by rw [HE.out]; exact HL'.out, HG.out⟩
    · have q1 : ((bstr w).toList == c.toList) = false := by rw [hl, hl2]; simpa using hw
      have HE := Kp.mk (show atS c.data.toList (w :: t, f) = (false, (w :: t, f)) by rw [atS, if_neg hw])
      clear hw hl hl2
      go_enter Tryd.func58, Tryd.ntmps58
      go_wp2
      go_ret
      exact ⟨by rw [HE.out]; rfl, by rw [HE.out]; exact H0.out, World.grownBy.refl _ _⟩
end Go.Proofs.YtiomnlgnhdhffaaDoor
