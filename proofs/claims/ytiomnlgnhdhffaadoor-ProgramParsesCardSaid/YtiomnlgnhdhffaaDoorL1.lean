/-
  The walks of the reference's Lines and Words. Conditions: the text is not longer than a million bytes.
-/
import Derived.Test.YtiomnlgnhdhffaaDoorT1
import Derived.OwnWalk
namespace Go.Proofs.YtiomnlgnhdhffaaDoor
open Go.RowKit
set_option linter.unusedVariables false
set_option linter.unusedSimpArgs false

theorem cutW {c : UInt8} : ∀ {w : List UInt8}, c ∉ w → cutAt c w = [w]
  | [], _ => rfl
  | b :: w, h => by
    have hb : b ≠ c := fun e => h (by simp [e])
    have ih := cutW (c := c) (w := w) (fun e => h (by simp [e]))
    rw [cutAt, if_neg hb, ih]
theorem cutM {c : UInt8} : ∀ {w : List UInt8} (l : List UInt8), c ∉ w → cutAt c (w ++ c :: l) = w :: cutAt c l
  | [], l, _ => by simp [cutAt]
  | b :: w, l, h => by
    have hb : b ≠ c := fun e => h (by simp [e])
    have ih := cutM (c := c) (w := w) l (fun e => h (by simp [e]))
    rw [List.cons_append, cutAt, if_neg hb, ih]
/-- The lines of a text. -/
def linesR (l : List UInt8) : List Wd := if (cutAt 10 l).getLast? = some [] then (cutAt 10 l).dropLast else cutAt 10 l
/-- The words of a line. -/
def wordsR (l : List UInt8) : List Wd := (cutAt 32 l).filter (fun w => !w.isEmpty)
def subL (l : List UInt8) (a b : Nat) : Wd := (l.drop a).take (b - a)
theorem bstr_sub (l : Wd) (a b : Nat) : (bstr l).extract a b = bstr (subL l a b) := by
  apply ByteArray.ext
  rw [ByteArray.data_extract]
  exact List.extract_toArray
theorem sub_next {l : Wd} {a b : Nat} {c : UInt8} (h : a ≤ b) (hc : l[b]? = some c) : subL l a (b + 1) = subL l a b ++ [c] := by
  obtain ⟨hb, e⟩ := List.getElem?_eq_some_iff.1 hc
  unfold subL
  rw [show b + 1 - a = (b - a) + 1 by omega, List.take_add_one, List.getElem?_drop, show a + (b - a) = b by omega, hc]
  rfl
theorem sub_cut {l : Wd} {a b : Nat} {c : UInt8} (h : a ≤ b) (hc : l[b]? = some c) : l.drop a = subL l a b ++ c :: l.drop (b + 1) := by
  obtain ⟨hb, e⟩ := List.getElem?_eq_some_iff.1 hc
  have h1 : l.drop b = c :: l.drop (b + 1) := by rw [List.drop_eq_getElem_cons hb, e]
  rw [← h1]
  conv => lhs; rw [← List.take_append_drop (b - a) (l.drop a)]
  rw [List.drop_drop, show a + (b - a) = b by omega]
  rfl
theorem sub_all (l : Wd) (a : Nat) : subL l a l.length = l.drop a := by
  unfold subL
  exact List.take_of_length_le (by simp)
theorem infoE9 : (Tryd.prog.info? 9).map (fun i => (i.zero, i.size, i.bytes)) = some (some (.string ⟨#[]⟩), 1, 16) := by kernel_rfl
def strC (xs : List Wd) : List Value := xs.map fun x => .string (bstr x)
/-- A row of strings of one's own. -/
structure SW (w0 : World) (v : Value) (xs : List Wd) (W : World) : Prop where
  below : Below w0.heap.size w0 W
  own : W.ownsRow w0.heap.size 9 1 v xs.length (strC xs)
section
variable {w0 W W' : World} {v v' : Value} {xs : List Wd}
theorem SW.start (w0 : World) : SW w0 (.slice none 0 0) [] w0 := ⟨Below.refl _ _, World.ownsRow_nil _ _ _ _⟩
theorem SW.more (h : SW w0 v xs W) {x : Wd} {s : ByteArray} (hs : s = bstr x) {o : Obj} (ho : W'.ownsRow w0.heap.size 9 1 v' (xs.length + 1) (strC xs ++ [.string s])) (hg : (W.alloc o).grownBy W' v.ownBlock) : SW w0 v' (xs ++ [x]) W' := by
  subst hs
  refine ⟨(h.below.alloc h.below.size o).trans ⟨hg.os, hg.tape, hg.output, hg.size, fun k hk => ?_⟩, by simpa [strC] using ho⟩
  refine hg.block k ?_ ?_
  · have := h.below.size; simp; omega
  · intro e
    have := h.own.lt k e.symm
    omega
def StrsPost (ls : List Wd) (w : World) (e : Ending) (w' : World) : Prop := ∃ A cap, e = .returned (.slice A ls.length cap) ∧ StrsAt w' A ls ∧ Below w.heap.size w w' ∧ ls.length ≤ cap ∧ cap ≤ 9223372036854775807
theorem SW.ends (h : SW w0 v xs W) (hn : xs.length ≤ 4611686018427387904) : ∃ A c, v = .slice A xs.length c ∧ StrsAt W A xs ∧ xs.length ≤ c ∧ c ≤ 9223372036854775807 := by
  rcases h.own.2 with ⟨rfl, h0⟩ | ⟨g, cap, cur, rfl, hg, hh, hle, hmx, hsz, htk⟩
  · exact ⟨none, 0, by rw [h0], ⟨hn, fun hne => absurd (List.eq_nil_of_length_eq_zero h0) hne⟩, by omega, by omega⟩
  · refine ⟨_, cap, rfl, ⟨hn, fun _ => ⟨_, rfl, lt_of_block hh, fun j x hj => ?_⟩⟩, hle, ?_⟩
    · refine h.own.cells (g := g) rfl j _ ?_
      simp [strC, hj]
    · exact hmx
end
set_option maxRecDepth 100000 in
set_option maxHeartbeats 4000000 in
theorem lines18 (l : Wd) (w : World) (hn : l.length ≤ 1000000) : Calls Tryd.prog 18 #[.string (bstr l)] w (StrsPost (linesR l) w) := by
  have hs := bstr_size l
  obtain ⟨i0, hi, hz0, hz1, hz2⟩ := info_parts infoE9
  obtain ⟨R, hR⟩ : ∃ R, R = linesR l := ⟨_, rfl⟩
  rw [← hR]
  have HR := Kp.mk hR
  clear hR
  go_enter Tryd.func18, Tryd.ntmps18
  go_wp2
  go_loopw [3, 4, 5] (fun v f i W => ∃ (L : List Wd) (a b : Nat), a ≤ b ∧ b ≤ l.length ∧ L.length ≤ a ∧ f = .int .i64 a ∧ i = .int .i64 b ∧ Kp (SW w v L W) ∧ Kp (cutAt 10 l = L ++ cutAt 10 (l.drop a)) ∧ Kp (10 ∉ subL l a b)) (fun _ _ i _ => l.length - (intOf i).toNat)
  case atStart => exact ⟨[], 0, 0, by omega, by omega, by simp, rfl, rfl, ⟨SW.start w⟩, ⟨by simp⟩, ⟨by simp [subL]⟩⟩
  case round =>
    obtain ⟨L, a, b, hab, hbl, hLa, rfl, rfl, O, HC, HN⟩ := hrel
    by_cases hb : b < l.length
    · obtain ⟨c, hc⟩ : ∃ c, l[b]? = some c := ⟨l[b], by simp [hb]⟩
      have hx := index_at l hc
      by_cases h10 : c = 10
      · subst h10
        have HC' := Kp.mk (show cutAt 10 l = (L ++ [subL l a b]) ++ cutAt 10 (l.drop (b + 1)) by
          rw [HC.out, sub_cut hab hc, cutM _ HN.out]; simp)
        go_wp2_with (at_builtin; go_loud (refine wpList_append_own _ rfl _ _ 32 rfl w.heap.size 9 i0 (.string ⟨#[]⟩) 1 16 Tryd.underlying32 hi hz0 hz1 hz2 rfl (by decide) _ _ _ rfl (O.out.own.alloc _) ⟨wr.heap.size, 0, none⟩ 1 1 [.string ((bstr l).extract a b)] rfl rfl (cell_one_new _ _ _) (by intro u hu; simp at hu; subst hu; rfl) (by simp only [maxLen]; omega) (by omega) (by have := O.out.below.size; simp; omega) ?_); intro v' w2 hown hgrow hnil; have O := Kp.mk (O.out.more (bstr_sub l a b) hown hgrow); clear hown hgrow hnil)
        exact ⟨⟨L ++ [subL l a b], b + 1, b + 1, by omega, by omega, by simp; omega, by congr 1, by congr 1, O, HC', ⟨by simp [subL]⟩⟩, by simp only [intOf]; omega⟩
      · have HN' := Kp.mk (show 10 ∉ subL l a (b + 1) by
          rw [sub_next hab hc]
          intro hm
          rcases List.mem_append.1 hm with hm | hm
          · exact HN.out hm
          · simp at hm; exact h10 hm.symm)
        have h10' : ¬ (c.toNat : Int) = 10 := by
          intro e
          apply h10
          apply UInt8.toNat_inj.1
          have : c.toNat = 10 := by omega
          rw [this]; rfl
        go_wp2_with fail
        exact ⟨⟨L, a, b + 1, by omega, by omega, by omega, rfl, by congr 1, O, HC, HN'⟩, by simp only [intOf]; omega⟩
    · have hbe : b = l.length := by omega
      by_cases ha : a < l.length
      · have HE := Kp.mk (show R = L ++ [l.drop a] by
          have h1 : cutAt 10 (l.drop a) = [l.drop a] := cutW (by have := HN.out; rwa [hbe, sub_all] at this)
          have h2 : l.drop a ≠ [] := by intro e; have := congrArg List.length e; simp at this; omega
          rw [HR.out, linesR, HC.out, h1, if_neg (by simpa using h2)])
        have hbs : (bstr l).extract a l.length = bstr (l.drop a) := by rw [bstr_sub, sub_all]
        have HBS := Kp.mk hbs
        clear hbs
        go_wp2_with (at_builtin; go_loud (refine wpList_append_own _ rfl _ _ 32 rfl w.heap.size 9 i0 (.string ⟨#[]⟩) 1 16 Tryd.underlying32 hi hz0 hz1 hz2 rfl (by decide) _ _ _ rfl (O.out.own.alloc _) ⟨wr.heap.size, 0, none⟩ 1 1 [.string ((bstr l).extract a l.length)] rfl rfl (cell_one_new _ _ _) (by intro u hu; simp at hu; subst hu; rfl) (by simp only [maxLen]; omega) (by omega) (by have := O.out.below.size; simp; omega) ?_); intro v' w2 hown hgrow hnil; have O := Kp.mk (O.out.more HBS.out hown hgrow); clear hown hgrow hnil)
        obtain ⟨A, cap, rfl, hA, hc1, hc2⟩ := O.out.ends (by simp; omega)
        rw [← HE.out] at hA hc1 ⊢
        go_ret
        exact ⟨A, cap, rfl, hA, O.out.below, hc1, hc2⟩
      · have HE := Kp.mk (show R = L by
          have h1 : l.drop a = [] := List.drop_of_length_le (by omega)
          rw [HR.out, linesR, HC.out, h1, if_pos (by simp [cutAt])]
          simp [cutAt])
        go_wp2_with fail
        obtain ⟨A, cap, rfl, hA, hc1, hc2⟩ := O.out.ends (by omega)
        rw [← HE.out] at hA hc1 ⊢
        go_ret
        exact ⟨A, cap, rfl, hA, O.out.below, hc1, hc2⟩

set_option maxRecDepth 100000 in
set_option maxHeartbeats 4000000 in
theorem words25 (l : Wd) (w : World) (hn : l.length ≤ 1000000) : Calls Tryd.prog 25 #[.string (bstr l)] w (StrsPost (wordsR l) w) := by
  have hs := bstr_size l
  obtain ⟨i0, hi, hz0, hz1, hz2⟩ := info_parts infoE9
  obtain ⟨R, hR⟩ : ∃ R, R = wordsR l := ⟨_, rfl⟩
  rw [← hR]
  have HR := Kp.mk hR
  clear hR
  go_enter Tryd.func25, Tryd.ntmps25
  go_wp2
  go_loopw [3, 4, 5] (fun v f i W => ∃ (L : List Wd) (x : Wd) (b : Nat), b ≤ l.length + 1 ∧ L.length + x.length ≤ b ∧ x.length ≤ b ∧ f = .string (bstr x) ∧ i = .int .i64 b ∧ Kp (SW w v L W) ∧ Kp (b = l.length + 1 → R = L) ∧ Kp (b ≤ l.length → R = L ++ (cutAt 32 (x ++ l.drop b)).filter (fun w => !w.isEmpty)) ∧ Kp (32 ∉ x)) (fun _ _ i _ => l.length + 1 - (intOf i).toNat)
  case atStart => exact ⟨[], [], 0, by omega, by simp, by simp, rfl, rfl, ⟨SW.start w⟩, ⟨by intro h; cases h⟩, ⟨fun _ => by rw [HR.out]; rfl⟩, ⟨by simp⟩⟩
  case round =>
    obtain ⟨L, x, b, hbl, hLb, hxb, rfl, rfl, O, HF, HC, HN⟩ := hrel
    by_cases hb : b < l.length
    · obtain ⟨c, hc⟩ : ∃ c, l[b]? = some c := ⟨l[b], by simp [hb]⟩
      have hx := index_at l hc
      have hsub : (bstr l).extract b (b + 1) = ⟨#[c]⟩ := by
        rw [bstr_sub]
        unfold subL
        rw [Nat.add_sub_cancel_left, List.take_one, List.head?_drop, hc]
        rfl
      have hdr : l.drop b = c :: l.drop (b + 1) := by
        obtain ⟨hb', e⟩ := List.getElem?_eq_some_iff.1 hc
        rw [List.drop_eq_getElem_cons hb', e]
      by_cases h32 : c = 32
      · subst h32
        have HC' := Kp.mk (show R = L ++ ((if x.isEmpty then [] else [x]) ++ (cutAt 32 (l.drop (b + 1))).filter (fun w => !w.isEmpty)) by
          rw [HC.out (by omega), hdr, cutM _ HN.out, List.filter_cons]
          cases x <;> simp)
        clear hdr hsub
        have hs2 := bstr_size x
        by_cases hx0 : x = []
        · have q : (bstr x).toList.isEmpty = true := by rw [bstr_list, hx0]; rfl
          have HE := Kp.mk (show R = L ++ (cutAt 32 ([] ++ l.drop (b + 1))).filter (fun w => !w.isEmpty) by rw [HC'.out, hx0]; rfl)
          clear hx0
          go_wp2_with fail
          exact ⟨⟨L, [], b + 1, by omega, by simp; omega, by simp, rfl, by congr 1, O, ⟨fun h => by omega⟩, ⟨fun _ => HE.out⟩, ⟨by simp⟩⟩, by simp only [intOf]; omega⟩
        · have q : (bstr x).toList.isEmpty = false := by rw [bstr_list]; simpa using hx0
          have HE := Kp.mk (show R = (L ++ [x]) ++ (cutAt 32 ([] ++ l.drop (b + 1))).filter (fun w => !w.isEmpty) by
            have : x.isEmpty = false := by simpa using hx0
            rw [HC'.out, this]; simp)
          clear hx0
          go_wp2_with (at_builtin; go_loud (refine wpList_append_own _ rfl _ _ 32 rfl w.heap.size 9 i0 (.string ⟨#[]⟩) 1 16 Tryd.underlying32 hi hz0 hz1 hz2 rfl (by decide) _ _ _ rfl (O.out.own.alloc _) ⟨wr.heap.size, 0, none⟩ 1 1 [.string (bstr x)] rfl rfl (cell_one_new _ _ _) (by intro u hu; simp at hu; subst hu; rfl) (by simp only [maxLen]; omega) (by omega) (by have := O.out.below.size; simp; omega) ?_); intro v' w2 hown hgrow hnil; have O := Kp.mk (O.out.more rfl hown hgrow); clear hown hgrow hnil)
          exact ⟨⟨L ++ [x], [], b + 1, by omega, by simp; omega, by simp, rfl, by congr 1, O, ⟨fun h => by omega⟩, ⟨fun _ => HE.out⟩, ⟨by simp⟩⟩, by simp only [intOf]; omega⟩
      · have h32' : ¬ (c.toNat : Int) = 32 := by
          intro e
          apply h32
          apply UInt8.toNat_inj.1
          have : c.toNat = 32 := by omega
          rw [this]; rfl
        have HC' := Kp.mk (show R = L ++ (cutAt 32 ((x ++ [c]) ++ l.drop (b + 1))).filter (fun w => !w.isEmpty) by
          rw [HC.out (by omega), hdr]; simp)
        have HN' := Kp.mk (show 32 ∉ x ++ [c] by
          intro hm
          rcases List.mem_append.1 hm with hm | hm
          · exact HN.out hm
          · simp at hm; exact h32 hm.symm)
        have HSub := Kp.mk (show bstr x ++ (bstr l).extract b (b + 1) = bstr (x ++ [c]) by rw [hsub]; apply ByteArray.ext; simp [bstr, ByteArray.data_append])
        have hs2 := bstr_size x
        clear hdr hsub h32
        go_wp2_with fail
        exact ⟨⟨L, x ++ [c], b + 1, by omega, by simp; omega, by simp; omega, by rw [← HSub.out], by congr 1, O, ⟨fun h => by omega⟩, ⟨fun _ => HC'.out⟩, HN'⟩, by simp only [intOf]; omega⟩
    · by_cases hbe : b = l.length
      · subst hbe
        have hdr : l.drop l.length = [] := List.drop_length
        have HC' := Kp.mk (show R = L ++ (if x.isEmpty then [] else [x]) by
          rw [HC.out (by omega), hdr, List.append_nil, cutW HN.out, List.filter_cons]
          cases x <;> simp)
        clear hdr
        have hs2 := bstr_size x
        by_cases hx0 : x = []
        · have q : (bstr x).toList.isEmpty = true := by rw [bstr_list, hx0]; rfl
          have HE := Kp.mk (show R = L by rw [HC'.out, hx0]; simp)
          clear hx0
          go_wp2_with fail
          exact ⟨⟨L, [], l.length + 1, by omega, by simp; omega, by simp, rfl, by congr 1, O, ⟨fun _ => HE.out⟩, ⟨fun h => by omega⟩, ⟨by simp⟩⟩, by simp only [intOf]; omega⟩
        · have q : (bstr x).toList.isEmpty = false := by rw [bstr_list]; simpa using hx0
          have HE := Kp.mk (show R = L ++ [x] by
            have : x.isEmpty = false := by simpa using hx0
            rw [HC'.out, this]; rfl)
          clear hx0
          go_wp2_with (at_builtin; go_loud (refine wpList_append_own _ rfl _ _ 32 rfl w.heap.size 9 i0 (.string ⟨#[]⟩) 1 16 Tryd.underlying32 hi hz0 hz1 hz2 rfl (by decide) _ _ _ rfl (O.out.own.alloc _) ⟨wr.heap.size, 0, none⟩ 1 1 [.string (bstr x)] rfl rfl (cell_one_new _ _ _) (by intro u hu; simp at hu; subst hu; rfl) (by simp only [maxLen]; omega) (by omega) (by have := O.out.below.size; simp; omega) ?_); intro v' w2 hown hgrow hnil; have O := Kp.mk (O.out.more rfl hown hgrow); clear hown hgrow hnil)
          exact ⟨⟨L ++ [x], [], l.length + 1, by omega, by simp; omega, by simp, rfl, by congr 1, O, ⟨fun _ => HE.out⟩, ⟨fun h => by omega⟩, ⟨by simp⟩⟩, by simp only [intOf]; omega⟩
      · have HE := Kp.mk (HF.out (by omega))
        have hbe2 : ¬ (b : Int) ≤ (l.length : Int) := by omega
        go_wp2_with fail
        obtain ⟨A, cap, rfl, hA, hc1, hc2⟩ := O.out.ends (by omega)
        rw [← HE.out] at hA hc1 ⊢
        go_ret
        exact ⟨A, cap, rfl, hA, O.out.below, hc1, hc2⟩
end Go.Proofs.YtiomnlgnhdhffaaDoor
