/-
  The walk of program.formatMap. Conditions: the instruction's numbers are of three digits at most; the table reads as listed.
-/
import Derived.Test.YtiomnlgnhdhffaaDoorF3
namespace Go.Proofs.YtiomnlgnhdhffaaDoor
open Go.RowKit
set_option linter.unusedVariables false

theorem grown_below {w w' : World} (h : w.grownBy w' none) : Below w.heap.size w w' := ⟨h.os, h.tape, h.output, h.size, fun k hk => h.block k hk (by simp)⟩
structure OkI (x : Ins) : Prop where
  page : x.page = -1 ∨ (0 ≤ x.page ∧ x.page < 1000)
  count : 0 ≤ x.count ∧ x.count < 1000
  index : 0 ≤ x.index ∧ x.index < 1000
  value : 0 ≤ x.value ∧ x.value < 1000
  file : x.file = -1 ∨ (0 ≤ x.file ∧ x.file < 1000)
  flags : 0 ≤ x.flags ∧ x.flags < 16

set_option maxRecDepth 100000 in
set_option maxHeartbeats 4000000 in
theorem formatMap46 {B : Nat} (x : Ins) (w : World) (hT : Tb B w) (hB : B ≤ w.heap.size) (hv : OkI x) :
    Calls Tryd.prog 46 #[x.V] w fun e w' => e = .returned (.string (mapT x)) ∧ Below w.heap.size w w' := by
  obtain ⟨x0, x1, x2, x3, x4, x5, x6, x7⟩ := x
  obtain ⟨hp, hc, hi, hva, hf, hfl⟩ := hv
  simp only at hp hc hi hva hf hfl
  obtain ⟨T, hTT⟩ : ∃ T, T = mapT ⟨x0, x1, x2, x3, x4, x5, x6, x7⟩ := ⟨_, rfl⟩
  rw [← hTT]
  have HTT := Kp.mk hTT
  clear hTT
  have HT := Kp.mk hT
  have HF := Kp.mk hf
  have HI := Kp.mk hi
  have HL := Kp.mk hfl
  have HC := Kp.mk hc
  have M := Kp.mk (FM.start w (c8 x0 x1 x2 x3 x4 x5 x6 x7))
  clear hT hf hi hfl hva hc
  go_enter Tryd.func46, Tryd.ntmps46
  go_wp2_with fail
  refine (write27 ⟨#[109, 97, 112, 32]⟩ _ M.out.bd (by decide)).mono ?_
  rintro e V ⟨rfl, hd, hb⟩
  have M := Kp.mk (M.out.write hb hd)
  clear hd hb
  obtain ⟨d0, d1, d2, d3, d4, d5, d6, d7⟩ := M.out.cells
  clear d0 d2 d3 d4 d5 d6 d7
  have HPg := Kp.mk (show (-1 : Int) ≤ x1 from by omega)
  have HY := Kp.mk (show Kp (pageT x1 = if x1 = -1 then ⟨#[97, 110, 121]⟩ else numT x1) from ⟨rfl⟩)
  have HZ : (pageT x1).size ≤ 3 := by
    rcases hp with rfl | hp
    · decide
    · rw [pageT, if_neg (by omega)]; exact num_size hp.1 hp.2
  by_cases hp1 : x1 = -1
  · go_wp2_with fail
    refine (write27 ⟨#[97, 110, 121]⟩ _ M.out.bd (by decide)).mono ?_
    rintro e V ⟨rfl, hd, hb⟩
    have M := Kp.mk (M.out.write hb (show BdAt _ (_ ++ pageT x1) _ by rw [HY.out.out, if_pos hp1]; exact hd))
    clear hd hb hp1
    obtain ⟨pt, hpt⟩ : ∃ pt, pt = pageT x1 := ⟨_, rfl⟩
    have HPT := Kp.mk hpt
    rw [← hpt] at M HZ
    clear hpt
    go_wp2_with fail
    clear d1 hp
    obtain ⟨d0, d1, d2, d3, d4, d5, d6, d7⟩ := M.out.cells
    clear d0 d1 d3 d4 d5 d7
    have hz1 := num_size HC.out.1 HC.out.2
    have hz2 := prot_size x6
    obtain ⟨tc, htc⟩ : ∃ tc, tc = numT x2 := ⟨_, rfl⟩
    obtain ⟨tp, htp⟩ : ∃ tp, tp = protT x6 := ⟨_, rfl⟩
    have HTC := Kp.mk htc
    have HTP := Kp.mk htp
    rw [← htc] at hz1
    rw [← htp] at hz2
    clear htc htp
    have q1 : ¬ (9223372036854775807 < 1 + tc.size) := by omega
    have q2 : ¬ (9223372036854775807 < 1 + tc.size + 1) := by omega
    have q3 : ¬ (9223372036854775807 < 1 + tc.size + 1 + tp.size) := by omega
    have I := Kp.mk M.out.grow
    go_region_held3 (fun W => W.cell? ⟨w.heap.size, 2, none⟩ = some (.int .i64 x2) ∧ W.cell? ⟨w.heap.size, 6, none⟩ = some (.int .i64 x6) ∧ Kp (∃ t, FM w w.heap.size (w.heap.size + 1) (c8 x0 x1 x2 x3 x4 x5 x6 x7) t W))
      ((exact ⟨I.out.cells.2.2.1, I.out.cells.2.2.2.2.2.2.1, ⟨_, I.out⟩⟩))
      (first
        | (go_at_call 61; with_reducible refine (itoa61 HC.out.1 HC.out.2 _ (HT.out.on hB I.out.below)).mono ?_; rintro e w' ⟨rfl, hb⟩; have I := Kp.mk (I.out.next hb); clear hb; rw [← HTC.out])
        | (go_at_call 48; with_reducible refine (formatProt48 x6 _).mono ?_; rintro e w' ⟨rfl, rfl⟩; rw [← HTP.out])
        | (go_at_call 27; with_reducible refine (write27 _ _ I.out.bd (by simp [ByteArray.size_append, ByteArray.size_mk']; omega)).mono ?_; rintro e w' ⟨rfl, hd, hb⟩; have I := Kp.mk (I.out.write hb hd); clear hd hb))
    all_goals
      rw [HTC.out, HTP.out] at I
      generalize hst : ((((⟨#[]⟩ : ByteArray) ++ ⟨#[109, 97, 112, 32]⟩) ++ pt) ++ (⟨#[32]⟩ ++ numT x2 ++ ⟨#[32]⟩ ++ protT x6)) = st at I
      have hss : st.size ≤ 20 := by
        have z1 := num_size HC.out.1 HC.out.2
        have z2 := prot_size x6
        rw [← hst]
        simp [ByteArray.size_append, ByteArray.size_mk']
        omega
      have HST := Kp.mk hst
      clear hst q1 q2 q3
      go_wp2_with fail
      refine (flags59 _).mono ?_
      rintro e V3 ⟨rfl, hg⟩
      have M := Kp.mk (I.out.next (grown_below hg))
      clear hg
      have M0 : Kp (FM w w.heap.size (w.heap.size + 1) (c8 x0 x1 x2 x3 x4 x5 x6 x7) (flT x7 st 0) V3) := M
      go_wp2_with fail
      go_loopw [26] (fun i V => ∃ k : Nat, k ≤ 4 ∧ i = .int .i64 k ∧ Kp (FM w w.heap.size (w.heap.size + 1) (c8 x0 x1 x2 x3 x4 x5 x6 x7) (flT x7 st k) V)) (fun i _ => 4 - (intOf i).toNat)
      case atStart => exact ⟨0, by omega, rfl, M0⟩
      case round =>
        clear M0
        obtain ⟨k, hk4, rfl, M⟩ := hrel
        by_cases hk : k < 4
        · have hki : (k : Int) < 4 := by omega
          have hkp : (0 : Int) ≤ (k : Int) := by omega
          have hix := idx81 hk
          obtain ⟨d0, d1, d2, d3, d4, d5, d6, d7⟩ := M.out.cells
          clear d0 d1 d2 d3 d4 d5 d6
          have hz3 := flag_size k
          have hz4 := flT_size x7 st k
          cases hq : (bits BinOp.and IntKind.i64 (x7 / 2 ^ k) 1 == 1)
          · have M' : Kp (FM w w.heap.size (w.heap.size + 1) (c8 x0 x1 x2 x3 x4 x5 x6 x7) (flT x7 st (k + 1)) wr) := by rw [flT_no hq]; exact M
            clear M
            go_wp2_with fail
            exact ⟨⟨k + 1, by omega, by congr 1, M'⟩, by simp only [intOf]; omega⟩
          · have HY := Kp.mk (flT_yes (t := st) hq)
            go_wp2_with fail
            refine (write27 _ _ M.out.bd (by simp [ByteArray.size_append, ByteArray.size_mk']; omega)).mono ?_
            rintro e w9 ⟨rfl, hd, hb⟩
            have M' : Kp (FM w w.heap.size (w.heap.size + 1) (c8 x0 x1 x2 x3 x4 x5 x6 x7) (flT x7 st (k + 1)) w9) := by rw [HY.out]; exact ⟨M.out.write hb hd⟩
            clear hb hd M d7 hq
            go_wp2_with fail
            exact ⟨⟨k + 1, by omega, by congr 1, M'⟩, by simp only [intOf]; omega⟩
        · have HK : Kp (k = 4) := ⟨by omega⟩
          have M : Kp (FM w w.heap.size (w.heap.size + 1) (c8 x0 x1 x2 x3 x4 x5 x6 x7) (flT x7 st 4) wr) := ⟨by rw [← HK.out]; exact M.out⟩
          obtain ⟨d0, d1, d2, d3, d4, d5, d6, d7⟩ := M.out.cells
          clear d0 d1 d2 d4 d6 d7
          have hz4 := flT_size x7 st 4
          by_cases hf5 : x5 = -1
          · have HE := Kp.mk (show mapT ⟨x0, x1, x2, x3, x4, x5, x6, x7⟩ = flT x7 st 4 by rw [mapT, if_pos hf5, ← HST.out, ← HPT.out])
            go_wp2_with fail
            refine (string29 _ M.out.bd).mono ?_
            rintro e w9 ⟨rfl, hb⟩
            have HB := Kp.mk (M.out.below.trans (hb.mono (show w.heap.size ≤ w.heap.size + 1 by omega)))
            clear hb
            go_wp2
            go_ret
            exact ⟨by rw [HTT.out, HE.out]; rfl, HB.out⟩
          · have HF' := Kp.mk (show 0 ≤ x5 ∧ x5 < 1000 by have := HF.out; omega)
            have HE := Kp.mk (show mapT ⟨x0, x1, x2, x3, x4, x5, x6, x7⟩ = flT x7 st 4 ++ (⟨#[32, 102, 105, 108, 101, 32]⟩ ++ numT x5 ++ ⟨#[32]⟩ ++ numT x3) by rw [mapT, if_neg hf5, ← HST.out, ← HPT.out])
            go_wp2_with fail
            have hy1 := num_size HF'.out.1 HF'.out.2
            have hy2 := num_size HI.out.1 HI.out.2
            obtain ⟨t5, ht5⟩ : ∃ t5, t5 = numT x5 := ⟨_, rfl⟩
            obtain ⟨t3, ht3⟩ : ∃ t3, t3 = numT x3 := ⟨_, rfl⟩
            have HT5 := Kp.mk ht5
            have HT3 := Kp.mk ht3
            rw [← ht5] at hy1
            rw [← ht3] at hy2
            clear ht5 ht3
            have q1 : ¬ (9223372036854775807 < 6 + t5.size) := by omega
            have q2 : ¬ (9223372036854775807 < 6 + t5.size + 1) := by omega
            have q3 : ¬ (9223372036854775807 < 6 + t5.size + 1 + t3.size) := by omega
            generalize flT x7 st 4 = s4 at M HE hz4
            have I := Kp.mk M.out.grow
            go_region_held3 (fun W => W.cell? ⟨w.heap.size, 3, none⟩ = some (.int .i64 x3) ∧ W.cell? ⟨w.heap.size, 5, none⟩ = some (.int .i64 x5) ∧ Kp (∃ t, FM w w.heap.size (w.heap.size + 1) (c8 x0 x1 x2 x3 x4 x5 x6 x7) t W))
              ((exact ⟨I.out.cells.2.2.2.1, I.out.cells.2.2.2.2.2.1, ⟨_, I.out⟩⟩))
              (first
                | (go_at_call 61; with_reducible refine (itoa61 HF'.out.1 HF'.out.2 _ (HT.out.on hB I.out.below)).mono ?_; rintro e w' ⟨rfl, hb⟩; have I := Kp.mk (I.out.next hb); clear hb; rw [← HT5.out])
                | (go_at_call 61; with_reducible refine (itoa61 HI.out.1 HI.out.2 _ (HT.out.on hB I.out.below)).mono ?_; rintro e w' ⟨rfl, hb⟩; have I := Kp.mk (I.out.next hb); clear hb; rw [← HT3.out])
                | (go_at_call 27; with_reducible refine (write27 _ _ I.out.bd (by simp [ByteArray.size_append, ByteArray.size_mk']; omega)).mono ?_; rintro e w' ⟨rfl, hd, hb⟩; have I := Kp.mk (I.out.write hb hd); clear hd hb))
            all_goals
              rw [HT5.out, HT3.out, ← HE.out, ← HTT.out] at I
              go_wp2_with fail
              refine (string29 _ I.out.bd).mono ?_
              rintro e w9 ⟨rfl, hb⟩
              have HB := Kp.mk (I.out.below.trans (hb.mono (show w.heap.size ≤ w.heap.size + 1 by omega)))
              clear hb
              go_wp2
              go_ret
              exact ⟨rfl, HB.out⟩
  · have hp2 := show 0 ≤ x1 ∧ x1 < 1000 by omega
    go_wp2_with fail
    refine (itoa61 hp2.1 hp2.2 _ (HT.out.on hB M.out.below)).mono ?_
    rintro e V ⟨rfl, hb⟩
    have M := Kp.mk (M.out.next hb)
    clear hb
    have hz0 := num_size hp2.1 hp2.2
    go_wp2_with fail
    refine (write27 (numT x1) _ M.out.bd (by simp [ByteArray.size_append, ByteArray.size_mk']; omega)).mono ?_
    rintro e V ⟨rfl, hd, hb⟩
    have M := Kp.mk (M.out.write hb (show BdAt _ (_ ++ pageT x1) _ by rw [HY.out.out, if_neg hp1]; exact hd))
    clear hd hb hp1 hz0 hp2
    obtain ⟨pt, hpt⟩ : ∃ pt, pt = pageT x1 := ⟨_, rfl⟩
    have HPT := Kp.mk hpt
    rw [← hpt] at M HZ
    clear hpt
    go_wp2_with fail
    clear d1 hp
    obtain ⟨d0, d1, d2, d3, d4, d5, d6, d7⟩ := M.out.cells
    clear d0 d1 d3 d4 d5 d7
    have hz1 := num_size HC.out.1 HC.out.2
    have hz2 := prot_size x6
    obtain ⟨tc, htc⟩ : ∃ tc, tc = numT x2 := ⟨_, rfl⟩
    obtain ⟨tp, htp⟩ : ∃ tp, tp = protT x6 := ⟨_, rfl⟩
    have HTC := Kp.mk htc
    have HTP := Kp.mk htp
    rw [← htc] at hz1
    rw [← htp] at hz2
    clear htc htp
    have q1 : ¬ (9223372036854775807 < 1 + tc.size) := by omega
    have q2 : ¬ (9223372036854775807 < 1 + tc.size + 1) := by omega
    have q3 : ¬ (9223372036854775807 < 1 + tc.size + 1 + tp.size) := by omega
    have I := Kp.mk M.out.grow
    go_region_held3 (fun W => W.cell? ⟨w.heap.size, 2, none⟩ = some (.int .i64 x2) ∧ W.cell? ⟨w.heap.size, 6, none⟩ = some (.int .i64 x6) ∧ Kp (∃ t, FM w w.heap.size (w.heap.size + 1) (c8 x0 x1 x2 x3 x4 x5 x6 x7) t W))
      ((exact ⟨I.out.cells.2.2.1, I.out.cells.2.2.2.2.2.2.1, ⟨_, I.out⟩⟩))
      (first
        | (go_at_call 61; with_reducible refine (itoa61 HC.out.1 HC.out.2 _ (HT.out.on hB I.out.below)).mono ?_; rintro e w' ⟨rfl, hb⟩; have I := Kp.mk (I.out.next hb); clear hb; rw [← HTC.out])
        | (go_at_call 48; with_reducible refine (formatProt48 x6 _).mono ?_; rintro e w' ⟨rfl, rfl⟩; rw [← HTP.out])
        | (go_at_call 27; with_reducible refine (write27 _ _ I.out.bd (by simp [ByteArray.size_append, ByteArray.size_mk']; omega)).mono ?_; rintro e w' ⟨rfl, hd, hb⟩; have I := Kp.mk (I.out.write hb hd); clear hd hb))
    all_goals
      rw [HTC.out, HTP.out] at I
      generalize hst : ((((⟨#[]⟩ : ByteArray) ++ ⟨#[109, 97, 112, 32]⟩) ++ pt) ++ (⟨#[32]⟩ ++ numT x2 ++ ⟨#[32]⟩ ++ protT x6)) = st at I
      have hss : st.size ≤ 20 := by
        have z1 := num_size HC.out.1 HC.out.2
        have z2 := prot_size x6
        rw [← hst]
        simp [ByteArray.size_append, ByteArray.size_mk']
        omega
      have HST := Kp.mk hst
      clear hst q1 q2 q3
      go_wp2_with fail
      refine (flags59 _).mono ?_
      rintro e V3 ⟨rfl, hg⟩
      have M := Kp.mk (I.out.next (grown_below hg))
      clear hg
      have M0 : Kp (FM w w.heap.size (w.heap.size + 1) (c8 x0 x1 x2 x3 x4 x5 x6 x7) (flT x7 st 0) V3) := M
      go_wp2_with fail
      go_loopw [26] (fun i V => ∃ k : Nat, k ≤ 4 ∧ i = .int .i64 k ∧ Kp (FM w w.heap.size (w.heap.size + 1) (c8 x0 x1 x2 x3 x4 x5 x6 x7) (flT x7 st k) V)) (fun i _ => 4 - (intOf i).toNat)
      case atStart => exact ⟨0, by omega, rfl, M0⟩
      case round =>
        clear M0
        obtain ⟨k, hk4, rfl, M⟩ := hrel
        by_cases hk : k < 4
        · have hki : (k : Int) < 4 := by omega
          have hkp : (0 : Int) ≤ (k : Int) := by omega
          have hix := idx81 hk
          obtain ⟨d0, d1, d2, d3, d4, d5, d6, d7⟩ := M.out.cells
          clear d0 d1 d2 d3 d4 d5 d6
          have hz3 := flag_size k
          have hz4 := flT_size x7 st k
          cases hq : (bits BinOp.and IntKind.i64 (x7 / 2 ^ k) 1 == 1)
          · have M' : Kp (FM w w.heap.size (w.heap.size + 1) (c8 x0 x1 x2 x3 x4 x5 x6 x7) (flT x7 st (k + 1)) wr) := by rw [flT_no hq]; exact M
            clear M
            go_wp2_with fail
            exact ⟨⟨k + 1, by omega, by congr 1, M'⟩, by simp only [intOf]; omega⟩
          · have HY := Kp.mk (flT_yes (t := st) hq)
            go_wp2_with fail
            refine (write27 _ _ M.out.bd (by simp [ByteArray.size_append, ByteArray.size_mk']; omega)).mono ?_
            rintro e w9 ⟨rfl, hd, hb⟩
            have M' : Kp (FM w w.heap.size (w.heap.size + 1) (c8 x0 x1 x2 x3 x4 x5 x6 x7) (flT x7 st (k + 1)) w9) := by rw [HY.out]; exact ⟨M.out.write hb hd⟩
            clear hb hd M d7 hq
            go_wp2_with fail
            exact ⟨⟨k + 1, by omega, by congr 1, M'⟩, by simp only [intOf]; omega⟩
        · have HK : Kp (k = 4) := ⟨by omega⟩
          have M : Kp (FM w w.heap.size (w.heap.size + 1) (c8 x0 x1 x2 x3 x4 x5 x6 x7) (flT x7 st 4) wr) := ⟨by rw [← HK.out]; exact M.out⟩
          obtain ⟨d0, d1, d2, d3, d4, d5, d6, d7⟩ := M.out.cells
          clear d0 d1 d2 d4 d6 d7
          have hz4 := flT_size x7 st 4
          by_cases hf5 : x5 = -1
          · have HE := Kp.mk (show mapT ⟨x0, x1, x2, x3, x4, x5, x6, x7⟩ = flT x7 st 4 by rw [mapT, if_pos hf5, ← HST.out, ← HPT.out])
            go_wp2_with fail
            refine (string29 _ M.out.bd).mono ?_
            rintro e w9 ⟨rfl, hb⟩
            have HB := Kp.mk (M.out.below.trans (hb.mono (show w.heap.size ≤ w.heap.size + 1 by omega)))
            clear hb
            go_wp2
            go_ret
            exact ⟨by rw [HTT.out, HE.out]; rfl, HB.out⟩
          · have HF' := Kp.mk (show 0 ≤ x5 ∧ x5 < 1000 by have := HF.out; omega)
            have HE := Kp.mk (show mapT ⟨x0, x1, x2, x3, x4, x5, x6, x7⟩ = flT x7 st 4 ++ (⟨#[32, 102, 105, 108, 101, 32]⟩ ++ numT x5 ++ ⟨#[32]⟩ ++ numT x3) by rw [mapT, if_neg hf5, ← HST.out, ← HPT.out])
            go_wp2_with fail
            have hy1 := num_size HF'.out.1 HF'.out.2
            have hy2 := num_size HI.out.1 HI.out.2
            obtain ⟨t5, ht5⟩ : ∃ t5, t5 = numT x5 := ⟨_, rfl⟩
            obtain ⟨t3, ht3⟩ : ∃ t3, t3 = numT x3 := ⟨_, rfl⟩
            have HT5 := Kp.mk ht5
            have HT3 := Kp.mk ht3
            rw [← ht5] at hy1
            rw [← ht3] at hy2
            clear ht5 ht3
            have q1 : ¬ (9223372036854775807 < 6 + t5.size) := by omega
            have q2 : ¬ (9223372036854775807 < 6 + t5.size + 1) := by omega
            have q3 : ¬ (9223372036854775807 < 6 + t5.size + 1 + t3.size) := by omega
            generalize flT x7 st 4 = s4 at M HE hz4
            have I := Kp.mk M.out.grow
            go_region_held3 (fun W => W.cell? ⟨w.heap.size, 3, none⟩ = some (.int .i64 x3) ∧ W.cell? ⟨w.heap.size, 5, none⟩ = some (.int .i64 x5) ∧ Kp (∃ t, FM w w.heap.size (w.heap.size + 1) (c8 x0 x1 x2 x3 x4 x5 x6 x7) t W))
              ((exact ⟨I.out.cells.2.2.2.1, I.out.cells.2.2.2.2.2.1, ⟨_, I.out⟩⟩))
              (first
                | (go_at_call 61; with_reducible refine (itoa61 HF'.out.1 HF'.out.2 _ (HT.out.on hB I.out.below)).mono ?_; rintro e w' ⟨rfl, hb⟩; have I := Kp.mk (I.out.next hb); clear hb; rw [← HT5.out])
                | (go_at_call 61; with_reducible refine (itoa61 HI.out.1 HI.out.2 _ (HT.out.on hB I.out.below)).mono ?_; rintro e w' ⟨rfl, hb⟩; have I := Kp.mk (I.out.next hb); clear hb; rw [← HT3.out])
                | (go_at_call 27; with_reducible refine (write27 _ _ I.out.bd (by simp [ByteArray.size_append, ByteArray.size_mk']; omega)).mono ?_; rintro e w' ⟨rfl, hd, hb⟩; have I := Kp.mk (I.out.write hb hd); clear hd hb))
            all_goals
              rw [HT5.out, HT3.out, ← HE.out, ← HTT.out] at I
              go_wp2_with fail
              refine (string29 _ I.out.bd).mono ?_
              rintro e w9 ⟨rfl, hb⟩
              have HB := Kp.mk (I.out.below.trans (hb.mono (show w.heap.size ≤ w.heap.size + 1 by omega)))
              clear hb
              go_wp2
              go_ret
              exact ⟨rfl, HB.out⟩
end Go.Proofs.YtiomnlgnhdhffaaDoor
