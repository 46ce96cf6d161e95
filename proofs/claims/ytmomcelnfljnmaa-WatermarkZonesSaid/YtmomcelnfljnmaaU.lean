/-
  Walk of the reference's Check of a zone. Conditions: none but what each theorem names.
-/
import Derived.Test.YtmomcelnfljnmaaS
namespace Go.Proofs.Ytmomcelnfljnmaa
open Go.RowKit
set_option linter.unusedVariables false

/-- What a list holds that is laid out as a row. -/
theorem cnt_one {Q : List Int} (hb : ∀ f : Nat, f < 256 → Q.count (f : Int) ≤ 1) (hm : ∀ x ∈ Q, 0 ≤ x ∧ x < 256) : Q.Nodup := by
  rw [List.nodup_iff_count]
  intro x
  by_cases hx : x ∈ Q
  · obtain ⟨h0, h1⟩ := hm x hx
    obtain ⟨n, rfl⟩ := Int.eq_ofNat_of_zero_le h0
    exact hb n (by omega)
  · rw [List.count_eq_zero_of_not_mem hx]; omega
theorem pK_mem {z : Zn} (hr : rngZ z = true) (hg : ∀ k, k < 5 → GoodL z k) : ∀ x ∈ pK z 5, 0 ≤ x ∧ x < 256 := by
  intro x hx
  simp only [pK, lisF, blkF, List.mem_flatMap, List.mem_range, List.mem_map] at hx
  obtain ⟨k, hk, e, he, j, hj, rfl⟩ := hx
  obtain ⟨i, hi, rfl⟩ := g5_mem he
  have := ins_bd hr (hg k hk i hi).1
  have hj' : (j : Int) < 2 ^ k := by exact_mod_cast hj
  omega

/-- A box behind a box: the zone's words go on. -/
structure YM (z : Zn) (P : Pl) (Q : List Int) (w0 : World) (g b : Nat) (w : World) : Prop where
  zm : ZM z P w0 g w
  row : w.heap[b]? = some (.cells (cntA Q) 3 (0, 0))
section
variable {z : Zn} {P : Pl} {Q : List Int} {w0 w w' : World} {g b : Nat}
theorem YM.next (h : YM z P Q w0 g b w) (hb : Below w.heap.size w w') : YM z P Q w0 g b w' := ⟨h.zm.next hb, by rw [hb.block _ (lt_of_block h.row)]; exact h.row⟩
theorem YM.cell (h : YM z P Q w0 g b w) {f : Nat} (hf : f < 256) : w.cell? ⟨b, f, none⟩ = some (.int .i64 ((Q.count (f : Int) : Nat) : Int)) := by rw [cell_of_row _ _ _ _ _ _ h.row, cntA_get _ hf]
end
/-- The zone's list errors, by steps: no twin so far. -/
def noTw (z : Zn) (k : Nat) : Prop := ∀ k' i, k' < k → 0 < i → i < (z.l k').length → adjB z k' i = false
def noTwI (z : Zn) (k i : Nat) : Prop := ∀ i', 0 < i' → i' < i → i' < (z.l k).length → adjB z k i' = false
theorem noTw_zero (z : Zn) : noTw z 0 := fun _ _ h => by omega
theorem noTw_next {z : Zn} {k i : Nat} (h : noTw z k) (h2 : noTwI z k i) (hi : (z.l k).length ≤ i) : noTw z (k + 1) := by
  intro k' i' hk h0 hl
  by_cases e : k' = k
  · subst e; exact h2 i' h0 (by omega) hl
  · exact h k' i' (by omega) h0 hl
theorem noTwI_one (z : Zn) (k : Nat) : noTwI z k 1 := fun _ _ _ => by omega
theorem noTwI_next {z : Zn} {k i : Nat} (h : noTwI z k i) (h2 : adjB z k i = false) : noTwI z k (i + 1) := by
  intro i' h0 hi hl
  by_cases e : i' = i
  · subst e; exact h2
  · exact h i' h0 (by omega) hl
theorem noTw_all {z : Zn} (h : noTw z 4) : ¬ adjP z := by
  rintro ⟨k, i, hk, h0, hi, hb⟩
  rw [h k i hk h0 hi] at hb
  cases hb

theorem inRange84x (z : Zn) (P : Pl) (w : World) : Calls Try.prog 84 #[.agg #[.int .i64 z.nd, .int .i64 z.kd, .int .i64 z.st, .int .i64 z.ct, .int .i64 z.mn, slV z P 0, slV z P 1, slV z P 2, slV z P 3, slV z P 4]] w fun e w' => e = .returned (.bool (rngZ z)) ∧ Below w.heap.size w w' := inRange84 z P w
theorem listError85x (z : Zn) (P : Pl) (hr : rngZ z = true) (w : World) (hl : ∀ k, k < 5 → IntsAt w (P.A k) (z.l k)) : Calls Try.prog 85 #[.agg #[.int .i64 z.nd, .int .i64 z.kd, .int .i64 z.st, .int .i64 z.ct, .int .i64 z.mn, slV z P 0, slV z P 1, slV z P 2, slV z P 3, slV z P 4]] w fun e w' => e = .returned (.int .i64 (scZ z 0)) ∧ Below w.heap.size w w' := listError85 z P hr w hl
theorem set86x (z : Zn) (P : Pl) (hr : rngZ z = true) (hg : ∀ k, k < 5 → GoodL z k) (w : World) (hl : ∀ k, k < 5 → IntsAt w (P.A k) (z.l k)) :
    Calls Try.prog 86 #[.agg #[.int .i64 z.nd, .int .i64 z.kd, .int .i64 z.st, .int .i64 z.ct, .int .i64 z.mn, slV z P 0, slV z P 1, slV z P 2, slV z P 3, slV z P 4]] w fun e w' => e = .returned (.slice (some ⟨w.heap.size + 1, 0, none⟩) 256 256) ∧ (Below w.heap.size w w' ∧ w'.heap[w.heap.size + 1]? = some (.cells (cntA (pK z 5)) 3 (0, 0))) := by
  refine (set86 z P hr hg w hl).mono ?_
  rintro e w' ⟨rfl, rfl⟩
  exact ⟨rfl, ((Below.refl _ _).alloc (Nat.le_refl _) _).alloc (by simp) _, blk_at (by simp) _⟩

theorem shl_k {k : Nat} (h : k < 5) : IntKind.i64.wrap (2 ^ min (IntKind.u64.wrap (k : Int)).toNat 64) = 2 ^ k := by
  have : k = 0 ∨ k = 1 ∨ k = 2 ∨ k = 3 ∨ k = 4 := by omega
  rcases this with rfl | rfl | rfl | rfl | rfl <;> decide
theorem block87y {z : Zn} {P : Pl} {s0 s1 s2 s3 s4 : Value} (h0 : s0 = slV z P 0) (h1 : s1 = slV z P 1) (h2 : s2 = slV z P 2) (h3 : s3 = slV z P 3) (h4 : s4 = slV z P 4) (f : Int) (k : Nat) (hk : k ≤ 4) (hr : rngZ z = true) {kk : Int} (hkk : kk = (k : Int)) {r : Bool} (hi : insZ z f k = r) (w : World) :
    Calls Try.prog 87 #[.agg #[.int .i64 z.nd, .int .i64 z.kd, .int .i64 z.st, .int .i64 z.ct, .int .i64 z.mn, s0, s1, s2, s3, s4], .int .i64 f, .int .i64 kk] w fun e w' => e = .returned (.bool r) ∧ Below w.heap.size w w' := by
  subst h0 h1 h2 h3 h4 hkk hi
  exact block87 z P f k hk hr w
set_option maxRecDepth 100000 in
set_option maxHeartbeats 4000000 in
theorem check57 (z : Zn) (P : Pl) (w : World) (hl : ∀ k, k < 5 → IntsAt w (P.A k) (z.l k)) : Calls Try.prog 57 #[ZV z P] w fun e w' => e = .returned (.int .i64 (chkZ z)) ∧ Below w.heap.size w w' := by
  have I0 := Kp.mk (ZM.start hl)
  clear hl
  obtain ⟨r, hr⟩ : ∃ r, r = rngZ z := ⟨_, rfl⟩
  obtain ⟨s, hs⟩ : ∃ s, s = scZ z 0 := ⟨_, rfl⟩
  have HR := Kp.mk hr
  have HS := Kp.mk hs
  clear hr hs
  unfold ZV
  go_enter Try.func57, Try.ntmps57
  cases r
  · have HE := Kp.mk (chkZ_rng HR.out.symm)
    go_wp2_with (first | ((with_reducible refine gate_dst (N := 8) rfl ?_); go_must (refine wpList_load_zone rfl I0.out.blk 1 rfl rfl ?_)) | (go_at_call 84; refine (inRange84 z P _).mono ?_; rintro e w1 ⟨rfl, hb⟩; rw [← HR.out]; have I1 := Kp.mk (I0.out.next hb); clear hb))
    go_ret
    exact ⟨by rw [HE.out]; rfl, I1.out.below⟩
  · by_cases hs : s = 0
    · subst hs
      have HG := Kp.mk (fun k hk => scZ_zero (z := z) 0 HS.out.symm k (Nat.zero_le _) hk)
      go_wp2_with (first | ((with_reducible refine gate_dst (N := 8) rfl ?_); go_must (refine wpList_load_zone rfl I0.out.blk 1 rfl rfl ?_)) | (go_at_call 84; refine (inRange84 z P _).mono ?_; rintro e w1 ⟨rfl, hb⟩; rw [← HR.out]; have I1 := Kp.mk (I0.out.next hb); clear hb) | ((with_reducible refine gate_dst (N := 11) rfl ?_); go_must (refine wpList_load_zone rfl I1.out.blk 1 rfl rfl ?_)) | (go_at_call 85; refine (listError85 z P HR.out.symm _ I1.out.ints).mono ?_; rintro e w2 ⟨rfl, hb⟩; rw [← HS.out]; have I2 := Kp.mk (I1.out.next hb); clear hb I1) | ((with_reducible refine gate_dst (N := 16) rfl ?_); go_must (refine wpList_load_zone rfl I2.out.blk 1 rfl rfl ?_)) | (go_at_call 86; refine (set86x z P HR.out.symm HG.out _ I2.out.ints).mono ?_; rintro e w3 ⟨rfl, hb, hrow⟩; have J := Kp.mk (YM.mk (I2.out.next hb) hrow); clear hb hrow))
      have hn : (256 : Nat) ≤ 256 := Nat.le_refl _
      go_loopw [5] (fun i W => ∃ k : Nat, k ≤ 256 ∧ i = .int .i64 k ∧ Kp (∀ f : Nat, f < k → (pK z 5).count (f : Int) ≤ 1) ∧ Kp (W = w3)) (fun i _ => 256 - (intOf i).toNat)
      case atStart => exact ⟨0, by omega, rfl, ⟨by omega⟩, ⟨rfl⟩⟩
      case round =>
        obtain ⟨k, hk, rfl, HC, HW⟩ := hrel
        obtain rfl := HW.out
        by_cases hlt : k < 256
        · have c1 := J.out.cell hlt
          by_cases hc : (pK z 5).count (k : Int) ≤ 1
          · have HC' : Kp (∀ f : Nat, f < k + 1 → (pK z 5).count (f : Int) ≤ 1) := ⟨fun f hf => by
              rcases Nat.lt_or_eq_of_le (show f ≤ k by omega) with c | c
              · exact HC.out f c
              · rw [c]; exact hc⟩
            generalize (pK z 5).count (k : Int) = c at *
            go_wp2_with fail
            go_roundw
            case rel => exact ⟨k + 1, by omega, by go_num, HC', ⟨trivial⟩⟩
            case measure => simp [intOf]; omega
          · have HE := Kp.mk (chkZ_two (z := z) HR.out.symm HS.out.symm (fun h => hc (by rw [List.nodup_iff_count] at h; exact h _)))
            have hb := cnt_bd HR.out.symm HG.out (List.prefix_refl _) (k : Int)
            generalize (pK z 5).count (k : Int) = c at *
            go_wp2_with fail
            go_ret
            exact ⟨by rw [HE.out]; rfl, J.out.zm.below⟩
        · have HN := Kp.mk (cnt_one (fun f hf => HC.out f (by omega)) (pK_mem HR.out.symm HG.out))
          have I := Kp.mk J.out.zm
          clear J HC
          clear HW
          go_wp2_with fail
          go_loopw [6] (fun i W => ∃ k : Nat, k ≤ 4 ∧ i = .int .i64 k ∧ Kp (noTw z k) ∧ Kp (ZM z P w w.heap.size W)) (fun i _ => 4 - (intOf i).toNat)
          case atStart => exact ⟨0, by omega, rfl, ⟨noTw_zero z⟩, I⟩
          case round =>
            clear I
            obtain ⟨k, hk4, rfl, HT, I⟩ := hrel
            by_cases hk' : k < 4
            · have hk : k < 5 := by omega
              have hki : (k : Int) < 5 := by omega
              have hk4i : (k : Int) < 4 := by omega
              have hkp : (0 : Int) ≤ (k : Int) := by omega
              have hp := pow_le16 hk
              go_wp2_with fail
              go_loopw [7] (fun i W => ∃ j : Nat, 1 ≤ j ∧ (j ≤ (z.l k).length ∨ j = 1) ∧ i = .int .i64 j ∧ Kp (noTwI z k j) ∧ Kp (ZM z P w w.heap.size W)) (fun i _ => (z.l k).length + 2 - (intOf i).toNat)
              case atStart => exact ⟨1, by omega, .inr rfl, rfl, ⟨noTwI_one z k⟩, I⟩
              case round =>
                clear I
                obtain ⟨j, hj1, hjl, rfl, HU, I⟩ := hrel
                obtain ⟨i, rfl⟩ : ∃ i, j = i + 1 := ⟨j - 1, by omega⟩
                have c0 := I.out.list hk
                have hlen := (I.out.ints k hk).1
                by_cases hi : i + 1 < (z.l k).length
                · have GI := HG.out k hk
                  have b1 := ins_bd HR.out.symm (GI i (by omega)).1
                  have b2 := ins_bd HR.out.symm (GI (i + 1) hi).1
                  clear GI
                  obtain ⟨b, off, hA, c1⟩ := I.out.item hk hi
                  rw [hA] at c0
                  go_wp2_with fail
                  have hw1 : IntKind.i64.wrap (g5 (z.l k) i + 2 ^ k) = g5 (z.l k) i + 2 ^ k := by go_unwrap
                  have hw2 : IntKind.i64.wrap ((i : Int) + 1 - 1) = (i : Int) := by rw [show (i : Int) + 1 - 1 = (i : Int) by omega]; go_unwrap
                  have hw3 : IntKind.i64.wrap (i : Int) = (i : Int) := by go_unwrap
                  have hw4 : IntKind.i64.wrap (2 ^ min (IntKind.u64.wrap (k : Int)).toNat 64) = 2 ^ k := shl_k hk
                  have hw5 : IntKind.i64.wrap ((k : Int) + 1) = (k : Int) + 1 := by go_unwrap
                  have hi0 : (0 : Int) ≤ (i : Int) + 1 := by omega
                  have hi1 : (i : Int) + 1 < ((z.l k).length : Int) := by omega
                  have hi2 : (0 : Int) ≤ (i : Int) := by omega
                  have hi3 : (i : Int) < ((z.l k).length : Int) := by omega
                  by_cases heq : g5 (z.l k) (i + 1) = g5 (z.l k) i + 2 ^ k
                  · have SF : ∀ W, ZM z P w w.heap.size W → ∀ {X : Prop}, X → W.cell? ⟨w.heap.size, 0, none⟩ = some (.int .i64 z.nd) ∧ W.cell? ⟨w.heap.size, 1, none⟩ = some (.int .i64 z.kd) ∧ W.cell? ⟨w.heap.size, 2, none⟩ = some (.int .i64 z.st) ∧ W.cell? ⟨w.heap.size, 3, none⟩ = some (.int .i64 z.ct) ∧ W.cell? ⟨w.heap.size, 4, none⟩ = some (.int .i64 z.mn) ∧ W.cell? ⟨w.heap.size, 5, none⟩ = some (slV z P 0) ∧ W.cell? ⟨w.heap.size, 6, none⟩ = some (slV z P 1) ∧ W.cell? ⟨w.heap.size, 7, none⟩ = some (slV z P 2) ∧ W.cell? ⟨w.heap.size, 8, none⟩ = some (slV z P 3) ∧ W.cell? ⟨w.heap.size, 9, none⟩ = some (slV z P 4) ∧ W.cell? ⟨w.heap.size, 5 + k, none⟩ = some (.slice (some ⟨b, off, none⟩) (z.l k).length (P.c k)) ∧ W.cell? ⟨b, off + (i + 1), none⟩ = some (.int .i64 (g5 (z.l k) i + 2 ^ k)) ∧ W.cell? ⟨b, off + i, none⟩ = some (.int .i64 (g5 (z.l k) i)) ∧ X := by
                      intro W hW X hX
                      have t0 := hW.two hk hi hA
                      have t1 := hW.two hk (Nat.lt_of_succ_lt hi) hA
                      exact hW.ten ⟨t0.1, by rw [t0.2, heq], t1.2, hX⟩
                    have SF := Kp.mk SF
                    have I := Kp.mk I.out.drew
                    cases hins : insZ z (g5 (z.l k) i) (k + 1)
                    · have HB := Kp.mk hins
                      have HU' := Kp.mk (noTwI_next HU.out (show adjB z k (i + 1) = false by simp [adjB, hins]))
                      clear hins c0 c1 heq
                      go_region_held3 (fun W => W.cell? ⟨w.heap.size, 0, none⟩ = some (.int .i64 z.nd) ∧ W.cell? ⟨w.heap.size, 1, none⟩ = some (.int .i64 z.kd) ∧ W.cell? ⟨w.heap.size, 2, none⟩ = some (.int .i64 z.st) ∧ W.cell? ⟨w.heap.size, 3, none⟩ = some (.int .i64 z.ct) ∧ W.cell? ⟨w.heap.size, 4, none⟩ = some (.int .i64 z.mn) ∧ W.cell? ⟨w.heap.size, 5, none⟩ = some (slV z P 0) ∧ W.cell? ⟨w.heap.size, 6, none⟩ = some (slV z P 1) ∧ W.cell? ⟨w.heap.size, 7, none⟩ = some (slV z P 2) ∧ W.cell? ⟨w.heap.size, 8, none⟩ = some (slV z P 3) ∧ W.cell? ⟨w.heap.size, 9, none⟩ = some (slV z P 4) ∧ W.cell? ⟨w.heap.size, 5 + k, none⟩ = some (.slice (some ⟨b, off, none⟩) (z.l k).length (P.c k)) ∧ W.cell? ⟨b, off + (i + 1), none⟩ = some (.int .i64 (g5 (z.l k) i + 2 ^ k)) ∧ W.cell? ⟨b, off + i, none⟩ = some (.int .i64 (g5 (z.l k) i)) ∧ Kp (ZM z P w w.heap.size W))
                        ((exact SF.out _ I.out I))
                        (first | (go_at_call 87; refine (block87y rfl rfl rfl rfl rfl _ (k + 1) (by omega) HR.out.symm (by omega) HB.out _).mono ?_; rintro e w' ⟨rfl, hb⟩; have I := Kp.mk (I.out.next hb); clear hb))
                      go_wp2_with fail
                      go_roundw
                      case rel => first | exact ⟨i + 1 + 1, by omega, .inl (by omega), by go_num, HU', I⟩ | exact ⟨i + 1 + 1, by omega, .inl (by omega), by omega, HU'⟩
                      case measure => simp [intOf]; omega
                    · have HB := Kp.mk hins
                      have HE := Kp.mk (chkZ_adj (z := z) HR.out.symm HS.out.symm HN.out ⟨k, i + 1, hk', by omega, hi, by simp [adjB, hins, heq]⟩)
                      clear hins c0 c1 heq
                      go_region_held3 (fun W => W.cell? ⟨w.heap.size, 0, none⟩ = some (.int .i64 z.nd) ∧ W.cell? ⟨w.heap.size, 1, none⟩ = some (.int .i64 z.kd) ∧ W.cell? ⟨w.heap.size, 2, none⟩ = some (.int .i64 z.st) ∧ W.cell? ⟨w.heap.size, 3, none⟩ = some (.int .i64 z.ct) ∧ W.cell? ⟨w.heap.size, 4, none⟩ = some (.int .i64 z.mn) ∧ W.cell? ⟨w.heap.size, 5, none⟩ = some (slV z P 0) ∧ W.cell? ⟨w.heap.size, 6, none⟩ = some (slV z P 1) ∧ W.cell? ⟨w.heap.size, 7, none⟩ = some (slV z P 2) ∧ W.cell? ⟨w.heap.size, 8, none⟩ = some (slV z P 3) ∧ W.cell? ⟨w.heap.size, 9, none⟩ = some (slV z P 4) ∧ W.cell? ⟨w.heap.size, 5 + k, none⟩ = some (.slice (some ⟨b, off, none⟩) (z.l k).length (P.c k)) ∧ W.cell? ⟨b, off + (i + 1), none⟩ = some (.int .i64 (g5 (z.l k) i + 2 ^ k)) ∧ W.cell? ⟨b, off + i, none⟩ = some (.int .i64 (g5 (z.l k) i)) ∧ Kp (ZM z P w w.heap.size W))
                        ((exact SF.out _ I.out I))
                        (first | (go_at_call 87; refine (block87y rfl rfl rfl rfl rfl _ (k + 1) (by omega) HR.out.symm (by omega) HB.out _).mono ?_; rintro e w' ⟨rfl, hb⟩; have I := Kp.mk (I.out.next hb); clear hb))
                      go_wp2_with fail
                      go_ret
                      exact ⟨by rw [HE.out]; rfl, I.out.below⟩
                  · obtain ⟨_, c2⟩ := I.out.two hk (Nat.lt_of_succ_lt hi) hA
                    have HU' := Kp.mk (noTwI_next HU.out (show adjB z k (i + 1) = false by simp [adjB, heq]))
                    have hne : (g5 (z.l k) (i + 1) == g5 (z.l k) i + 2 ^ k) = false := by simpa using heq
                    go_quiet (fail)
                    have I := Kp.mk (I.out.next (below_drewN (Below.refl _ _) nq))
                    go_wp2_with fail
                    go_roundw
                    case rel => first | exact ⟨i + 1 + 1, by omega, .inl (by omega), by go_num, HU', I⟩ | exact ⟨i + 1 + 1, by omega, .inl (by omega), by omega, HU'⟩
                    case measure => simp [intOf]; omega
                · have HE := Kp.mk (noTw_next HT.out HU.out (by omega))
                  go_wp2_with fail
                  go_roundw
                  case rel => exact ⟨k + 1, by omega, by go_num, HE, I⟩
                  case measure => simp [intOf]; omega
            · obtain rfl : k = 4 := by omega
              have HE := Kp.mk (chkZ_ok (z := z) HR.out.symm HS.out.symm HN.out (noTw_all HT.out))
              go_wp2_with fail
              go_ret
              exact ⟨by rw [HE.out]; rfl, I.out.below⟩
    · have HE := Kp.mk (show chkZ z = s by rw [HS.out] at hs ⊢; exact chkZ_sc HR.out.symm hs)
      go_wp2_with (first | ((with_reducible refine gate_dst (N := 8) rfl ?_); go_must (refine wpList_load_zone rfl I0.out.blk 1 rfl rfl ?_)) | (go_at_call 84; refine (inRange84 z P _).mono ?_; rintro e w1 ⟨rfl, hb⟩; rw [← HR.out]; have I1 := Kp.mk (I0.out.next hb); clear hb) | ((with_reducible refine gate_dst (N := 11) rfl ?_); go_must (refine wpList_load_zone rfl I1.out.blk 1 rfl rfl ?_)) | (go_at_call 85; refine (listError85 z P HR.out.symm _ I1.out.ints).mono ?_; rintro e w2 ⟨rfl, hb⟩; rw [← HS.out]; have I2 := Kp.mk (I1.out.next hb); clear hb I1))
      go_ret
      exact ⟨by rw [HE.out]; rfl, I2.out.below⟩
end Go.Proofs.Ytmomcelnfljnmaa
