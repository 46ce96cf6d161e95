/-
  program.format whole. Conditions: the instruction's numbers are of three digits at most; the table reads as listed.
-/
import Derived.Test.YtiomnlgnhdhffaaDoorF5
namespace Go.Proofs.YtiomnlgnhdhffaaDoor
open Go.RowKit
set_option linter.unusedVariables false

theorem below_drew1 (W : World) : Below W.heap.size W W.drew := ⟨rfl, rfl, rfl, Nat.le_refl _, fun _ _ => rfl⟩
theorem below_new (W : World) (o : Obj) : Below W.heap.size W (W.alloc o) := (Below.refl _ _).alloc (Nat.le_refl _) o
set_option maxRecDepth 100000 in
set_option maxHeartbeats 2000000 in
theorem format_exit (x0 x1 x2 x3 x4 x5 x6 x7 : Int) (w : World) (hv : x0 < 1 ∨ 11 < x0) :
    Calls Tryd.prog 28 #[(⟨x0, x1, x2, x3, x4, x5, x6, x7⟩ : Ins).V] w fun e w' => e = .returned (.string ⟨#[101, 120, 105, 116]⟩) ∧ Below w.heap.size w w' := by
  have M := Kp.mk (XM.start w (c8 x0 x1 x2 x3 x4 x5 x6 x7))
  obtain ⟨d0, d1, d2, d3, d4, d5, d6, d7⟩ := M.out.cells
  clear d1 d2 d3 d4 d5 d6 d7
  have h1 : ¬ x0 = 1 := by omega
  have h2 : ¬ x0 = 2 := by omega
  have h3 : ¬ x0 = 3 := by omega
  have h4 : ¬ x0 = 4 := by omega
  have h5 : ¬ x0 = 5 := by omega
  have h6 : ¬ x0 = 6 := by omega
  have h7 : ¬ x0 = 7 := by omega
  have h8 : ¬ x0 = 8 := by omega
  have h9 : ¬ x0 = 9 := by omega
  have h10 : ¬ x0 = 10 := by omega
  have h11 : ¬ x0 = 11 := by omega
  clear hv
  go_enter Tryd.func28, Tryd.ntmps28
  go_wp2
  go_ret
  exact ⟨rfl, M.out.below⟩

set_option maxRecDepth 100000 in
set_option maxHeartbeats 2000000 in
theorem format_map {B : Nat} (x1 x2 x3 x4 x5 x6 x7 : Int) (w : World) (hT : Tb B w) (hB : B ≤ w.heap.size) (hv : OkI ⟨1, x1, x2, x3, x4, x5, x6, x7⟩) :
    Calls Tryd.prog 28 #[(⟨1, x1, x2, x3, x4, x5, x6, x7⟩ : Ins).V] w fun e w' => e = .returned (.string (mapT ⟨1, x1, x2, x3, x4, x5, x6, x7⟩)) ∧ Below w.heap.size w w' := by
  have HT := Kp.mk hT
  have HV := Kp.mk hv
  have M := Kp.mk (XM.start w (c8 1 x1 x2 x3 x4 x5 x6 x7))
  clear hT hv
  obtain ⟨d0, d1, d2, d3, d4, d5, d6, d7⟩ := M.out.cells
  clear d1 d2 d3 d4 d5 d6 d7
  have HR := Kp.mk (World.rangeAt_of_block M.out.x 0 8)
  go_enter Tryd.func28, Tryd.ntmps28
  go_wp2_with (first | ((with_reducible refine gate_dst (N := 7) rfl ?_); go_must (refine wpList_load_mid rfl 36 (.tmp 1) rfl w.heap.size 0 rfl _ _ HR.out Tryd.underlying36 rfl (by kernel_rfl) ?_)) | fail)
  refine (formatMap46 (B := B) ⟨1, x1, x2, x3, x4, x5, x6, x7⟩ _ (HT.out.on hB M.out.below) (by simp; omega) HV.out).mono ?_
  rintro e w2 ⟨rfl, hb⟩
  have HB := Kp.mk (M.out.below.trans (hb.mono (by simp)))
  clear hb
  go_wp2
  go_ret
  exact ⟨rfl, HB.out⟩

set_option maxRecDepth 100000 in
set_option maxHeartbeats 2000000 in
theorem format_protect {B : Nat} (x1 x2 x3 x4 x5 x6 x7 : Int) (w : World) (hT : Tb B w) (hB : B ≤ w.heap.size) (hv : (0 ≤ x1 ∧ x1 < 1000) ∧ (0 ≤ x2 ∧ x2 < 1000)) :
    Calls Tryd.prog 28 #[(⟨3, x1, x2, x3, x4, x5, x6, x7⟩ : Ins).V] w fun e w' => e = .returned (.string (joinT ⟨#[112, 114, 111, 116, 101, 99, 116]⟩ [x1, x2] ++ ⟨#[32]⟩ ++ protT x6)) ∧ Below w.heap.size w w' := by
  have HT := Kp.mk hT
  have hz1 := join_size [x1, x2] (by simpa using hv) ⟨#[112, 114, 111, 116, 101, 99, 116]⟩
  have HV := Kp.mk hv
  have M := Kp.mk (XM.start w (c8 3 x1 x2 x3 x4 x5 x6 x7))
  clear hT hv
  obtain ⟨d0, d1, d2, d3, d4, d5, d6, d7⟩ := M.out.cells
  clear d3 d4 d5 d7
  have hz2 := prot_size x6
  obtain ⟨tc, htc⟩ : ∃ tc, tc = joinT ⟨#[112, 114, 111, 116, 101, 99, 116]⟩ [x1, x2] := ⟨_, rfl⟩
  obtain ⟨tp, htp⟩ : ∃ tp, tp = protT x6 := ⟨_, rfl⟩
  rw [← htc, ← htp]
  rw [← htc] at hz1
  rw [← htp] at hz2
  simp only [ByteArray.size_mk', List.length_cons, List.length_nil, List.size_toArray] at hz1
  have HTC := Kp.mk htc
  have HTP := Kp.mk htp
  clear htc htp
  have q1 : ¬ (9223372036854775807 < tc.size + 1) := by omega
  have q2 : ¬ (9223372036854775807 < tc.size + 1 + tp.size) := by omega
  go_enter Tryd.func28, Tryd.ntmps28
  go_wp2_with fail
  have I := Kp.mk (M.out.next (below_drew1 _))
  go_region_held3 (fun W => W.cell? ⟨w.heap.size, 1, none⟩ = some (.int .i64 x1) ∧ W.cell? ⟨w.heap.size, 2, none⟩ = some (.int .i64 x2) ∧ W.cell? ⟨w.heap.size, 6, none⟩ = some (.int .i64 x6) ∧ Kp (XM w w.heap.size (c8 3 x1 x2 x3 x4 x5 x6 x7) W))
    ((first
       | exact ⟨I.out.cells.2.1, I.out.cells.2.2.1, I.out.cells.2.2.2.2.2.2.1, I⟩
       | (have I := Kp.mk ((M.out.next (below_new _ (.cells #[.int .i64 x1, .int .i64 x2] 3))).next (below_drew1 _)); exact ⟨I.out.cells.2.1, I.out.cells.2.2.1, I.out.cells.2.2.2.2.2.2.1, I⟩)))
    (first
      | (go_at_call 47; refine (join47 (B := B) ⟨#[112, 114, 111, 116, 101, 99, 116]⟩ [x1, x2] (w.heap.size + 1) 2 _ (HT.out.on hB ((M.out.next (below_new _ (.cells #[.int .i64 x1, .int .i64 x2] 3))).next (below_drew1 _)).below) (by simp; omega) (by exact IntsAt.row (W := World.drew _) (heap_at (by simp) _) rfl) (by decide) (by simp) (by simpa using HV.out)).mono ?_; rintro e w' ⟨rfl, hb⟩; have I := Kp.mk (((M.out.next (below_new _ (.cells #[.int .i64 x1, .int .i64 x2] 3))).next (below_drew1 _)).next hb); clear hb; rw [← HTC.out])
      | (go_at_call 48; with_reducible refine (formatProt48 x6 _).mono ?_; rintro e w' ⟨rfl, rfl⟩; rw [← HTP.out]))
  all_goals
    go_wp2
    go_ret
    exact ⟨rfl, I.out.below⟩

/-- What program.format returns. -/
def lineT (x : Ins) : ByteArray :=
  if x.op = 1 then mapT x
  else if x.op = 2 then joinT ⟨#[117, 110, 109, 97, 112]⟩ [x.page, x.count]
  else if x.op = 3 then joinT ⟨#[112, 114, 111, 116, 101, 99, 116]⟩ [x.page, x.count] ++ ⟨#[32]⟩ ++ protT x.prot
  else if x.op = 4 then (if x.value = 0 then joinT ⟨#[117, 110, 108, 111, 99, 107]⟩ [x.page, x.count] else joinT ⟨#[108, 111, 99, 107]⟩ [x.page, x.count])
  else if x.op = 5 then joinT ⟨#[108, 111, 97, 100]⟩ [x.page, x.index]
  else if x.op = 6 then joinT ⟨#[115, 116, 111, 114, 101]⟩ [x.page, x.index, x.value]
  else if x.op = 7 then joinT ⟨#[114, 101, 97, 100]⟩ [x.file, x.page, x.index]
  else if x.op = 8 then joinT ⟨#[119, 114, 105, 116, 101]⟩ [x.file, x.page, x.index, x.value]
  else if x.op = 9 then joinT ⟨#[116, 114, 117, 110, 99, 97, 116, 101]⟩ [x.file, x.count]
  else if x.op = 10 then joinT ⟨#[115, 121, 110, 99]⟩ [x.file]
  else if x.op = 11 then joinT ⟨#[102, 111, 114, 107]⟩ [x.value]
  else ⟨#[101, 120, 105, 116]⟩
structure OkL (x : Ins) : Prop where
  ok : OkI x
  rest : x.op ≠ 1 → 0 ≤ x.page ∧ 0 ≤ x.file
theorem pageT_size {p : Int} (h : p = -1 ∨ (0 ≤ p ∧ p < 1000)) : (pageT p).size ≤ 3 := by
  rcases h with rfl | h
  · decide
  · unfold pageT
    split
    · decide
    · exact num_size h.1 h.2
theorem mapT_size {x : Ins} (h : OkI x) : (mapT x).size ≤ 100 := by
  have h1 := pageT_size h.page
  have h2 := num_size h.count.1 h.count.2
  have h3 := prot_size x.prot
  have h4 := flT_size x.flags (((⟨#[]⟩ : ByteArray) ++ ⟨#[109, 97, 112, 32]⟩ ++ pageT x.page) ++ (⟨#[32]⟩ ++ numT x.count ++ ⟨#[32]⟩ ++ protT x.prot)) 4
  simp only [ByteArray.size_append, ByteArray.size_mk', List.size_toArray, List.length_cons, List.length_nil] at h4
  unfold mapT
  dsimp only
  split
  · omega
  · next hf =>
    have h5 := num_size (n := x.file) (by have := h.file; omega) (by have := h.file; omega)
    have h6 := num_size h.index.1 h.index.2
    simp only [ByteArray.size_append, ByteArray.size_mk', List.size_toArray, List.length_cons, List.length_nil]
    omega
theorem join_size' {s : ByteArray} {ns : List Int} (h : ∀ n ∈ ns, 0 ≤ n ∧ n < 1000) (hs : s.size ≤ 8) (hn : ns.length ≤ 4) : (joinT s ns).size ≤ 90 := by
  have := join_size ns h s
  omega
theorem size_ite {c : Prop} [Decidable c] {a b : ByteArray} {n : Nat} (ha : a.size ≤ n) (hb : b.size ≤ n) : (if c then a else b).size ≤ n := by
  by_cases h : c
  · rw [if_pos h]; exact ha
  · rw [if_neg h]; exact hb
theorem lineT_size {x : Ins} (h : OkL x) : (lineT x).size ≤ 100 := by
  obtain ⟨⟨hp, hc, hi, hv, hf, hfl⟩, hr⟩ := h
  unfold lineT
  by_cases h1 : x.op = 1
  · rw [if_pos h1]; exact mapT_size ⟨hp, hc, hi, hv, hf, hfl⟩
  · rw [if_neg h1]
    obtain ⟨hr1, hr2⟩ := hr h1
    have hp' : 0 ≤ x.page ∧ x.page < 1000 := by omega
    have hf' : 0 ≤ x.file ∧ x.file < 1000 := by omega
    have h3 := prot_size x.prot
    have h2 := join_size' (s := ⟨#[112, 114, 111, 116, 101, 99, 116]⟩) (ns := [x.page, x.count]) (by simp; omega) (by decide) (by simp)
    have hj : (joinT ⟨#[112, 114, 111, 116, 101, 99, 116]⟩ [x.page, x.count] ++ ⟨#[32]⟩ ++ protT x.prot).size ≤ 100 := by
      simp only [ByteArray.size_append, ByteArray.size_mk', List.size_toArray, List.length_cons, List.length_nil]
      omega
    repeat' apply size_ite
    all_goals first
      | exact hj
      | exact Nat.le_trans (join_size' (by simp; omega) (by decide) (by simp)) (by omega)
      | decide

theorem format28 {B : Nat} (x : Ins) (w : World) (hT : Tb B w) (hB : B ≤ w.heap.size) (hv : OkL x) :
    Calls Tryd.prog 28 #[x.V] w fun e w' => e = .returned (.string (lineT x)) ∧ Below w.heap.size w w' := by
  obtain ⟨x0, x1, x2, x3, x4, x5, x6, x7⟩ := x
  obtain ⟨ok, hr⟩ := hv
  obtain ⟨hp, hc, hi, hva, hf, hfl⟩ := ok
  simp only at hp hc hi hva hf hfl hr
  by_cases h1 : x0 = 1
  · subst h1
    exact format_map x1 x2 x3 x4 x5 x6 x7 w hT hB ⟨hp, hc, hi, hva, hf, hfl⟩
  obtain ⟨hr1, hr2⟩ := hr h1
  have hp' : 0 ≤ x1 ∧ x1 < 1000 := by omega
  have hf' : 0 ≤ x5 ∧ x5 < 1000 := by omega
  by_cases h2 : x0 = 2
  · subst h2; exact format_unmap x1 x2 x3 x4 x5 x6 x7 w hT hB ⟨hp', hc⟩
  by_cases h3 : x0 = 3
  · subst h3; exact format_protect x1 x2 x3 x4 x5 x6 x7 w hT hB ⟨hp', hc⟩
  by_cases h4 : x0 = 4
  · subst h4
    by_cases hv0 : x4 = 0
    · subst hv0; exact format_unlock x1 x2 x3 x5 x6 x7 w hT hB ⟨hp', hc⟩
    · rw [show lineT ⟨4, x1, x2, x3, x4, x5, x6, x7⟩ = joinT ⟨#[108, 111, 99, 107]⟩ [x1, x2] by simp [lineT, hv0]]
      exact format_lock x1 x2 x3 x4 x5 x6 x7 w hT hB ⟨hp', hc⟩ hv0
  by_cases h5 : x0 = 5
  · subst h5; exact format_load x1 x2 x3 x4 x5 x6 x7 w hT hB ⟨hp', hi⟩
  by_cases h6 : x0 = 6
  · subst h6; exact format_store x1 x2 x3 x4 x5 x6 x7 w hT hB ⟨hp', hi, hva⟩
  by_cases h7 : x0 = 7
  · subst h7; exact format_read x1 x2 x3 x4 x5 x6 x7 w hT hB ⟨hf', hp', hi⟩
  by_cases h8 : x0 = 8
  · subst h8; exact format_write x1 x2 x3 x4 x5 x6 x7 w hT hB ⟨hf', hp', hi, hva⟩
  by_cases h9 : x0 = 9
  · subst h9; exact format_truncate x1 x2 x3 x4 x5 x6 x7 w hT hB ⟨hf', hc⟩
  by_cases h10 : x0 = 10
  · subst h10; exact format_sync x1 x2 x3 x4 x5 x6 x7 w hT hB hf'
  by_cases h11 : x0 = 11
  · subst h11; exact format_fork x1 x2 x3 x4 x5 x6 x7 w hT hB hva
  have hz := format_exit x0 x1 x2 x3 x4 x5 x6 x7 w (by omega)
  rw [show lineT ⟨x0, x1, x2, x3, x4, x5, x6, x7⟩ = ⟨#[101, 120, 105, 116]⟩ by
    unfold lineT
    rw [if_neg h1, if_neg h2, if_neg h3, if_neg h4, if_neg h5, if_neg h6, if_neg h7, if_neg h8, if_neg h9, if_neg h10, if_neg h11]]
  exact hz
end Go.Proofs.YtiomnlgnhdhffaaDoor
