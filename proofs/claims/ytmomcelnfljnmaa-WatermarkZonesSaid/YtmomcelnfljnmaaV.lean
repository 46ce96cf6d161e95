/-
  Walk of buddy.Check. Conditions: none but what each theorem names.
-/
import Derived.Test.YtmomcelnfljnmaaU
import Derived.Test.YtmomcelnfljnmaaT
namespace Go.Proofs.Ytmomcelnfljnmaa
open Go.RowKit
set_option linter.unusedVariables false

def LV (z : Zn) (P : Pl) : Value := .agg #[slV z P 0, slV z P 1, slV z P 2, slV z P 3, slV z P 4]
theorem wp_load_lists {K : Act → World → Prop} {Q : Exit → Act → World → Prop} {o : Oper} {a : Act} {W : World} {g : Nat} {z : Zn} {P : Pl} (h : W.heap[g]? = some (.cells (cellsZ z P) 60 (0, 0))) (t : Tmp) (ho : o.op = .load 58 (.tmp t)) (hp : a.eval (.tmp t) = .pointer (some ⟨g, 5, none⟩))
    (hK : K (a.put o.dst (LV z P)) W) : o.wp Try.prog a W K Q := by
  have hr := World.rangeAt_of_block h 5 5
  have e : ((cellsZ z P).extract 5 (5 + 5)).toList = [slV z P 0, slV z P 1, slV z P 2, slV z P 3, slV z P 4] := by simp [cellsZ]
  rw [e] at hr
  have hi : (Try.prog.info? 58).map (·.size) = some 5 := by kernel_rfl
  refine wp_load_mid 58 (.tmp t) ho g 5 hp _ _ hr Try.underlying58 rfl (by rw [hi]; rfl) ?_
  simpa [LV] using hK
theorem wpList_load_lists {ops : Array Oper} {rest : List Oper} {o : Oper} {a : Act} {W : World} {Q : Exit → Act → World → Prop} {g : Nat} {z : Zn} {P : Pl} (hgd : o.guard = none) (h : W.heap[g]? = some (.cells (cellsZ z P) 60 (0, 0))) (t : Tmp) (ho : o.op = .load 58 (.tmp t)) (hp : a.eval (.tmp t) = .pointer (some ⟨g, 5, none⟩))
    (hK : wpList Try.prog ops Q rest (a.put o.dst (LV z P)) W) : wpList Try.prog ops Q (o :: rest) a W :=
  wpList_plain hgd fun _ hk => wp_load_lists h t ho hp (hk _ _ hK)
theorem idx58s (A0 A1 A2 A3 A4 : Option Addr) (n0 n1 n2 n3 n4 c0 c1 c2 c3 c4 : Nat) : (∀ w, (Instr.index 58 (.agg #[.slice A0 n0 c0, .slice A1 n1 c1, .slice A2 n2 c2, .slice A3 n3 c3, .slice A4 n4 c4]) (.int .i64 0)).run Try.prog w = .ok (.slice A0 n0 c0) w) ∧ (∀ w, (Instr.index 58 (.agg #[.slice A0 n0 c0, .slice A1 n1 c1, .slice A2 n2 c2, .slice A3 n3 c3, .slice A4 n4 c4]) (.int .i64 1)).run Try.prog w = .ok (.slice A1 n1 c1) w) ∧ (∀ w, (Instr.index 58 (.agg #[.slice A0 n0 c0, .slice A1 n1 c1, .slice A2 n2 c2, .slice A3 n3 c3, .slice A4 n4 c4]) (.int .i64 2)).run Try.prog w = .ok (.slice A2 n2 c2) w) ∧ (∀ w, (Instr.index 58 (.agg #[.slice A0 n0 c0, .slice A1 n1 c1, .slice A2 n2 c2, .slice A3 n3 c3, .slice A4 n4 c4]) (.int .i64 3)).run Try.prog w = .ok (.slice A3 n3 c3) w) ∧ (∀ w, (Instr.index 58 (.agg #[.slice A0 n0 c0, .slice A1 n1 c1, .slice A2 n2 c2, .slice A3 n3 c3, .slice A4 n4 c4]) (.int .i64 4)).run Try.prog w = .ok (.slice A4 n4 c4) w) :=
  ⟨fun _ => by kernel_rfl, fun _ => by kernel_rfl, fun _ => by kernel_rfl, fun _ => by kernel_rfl, fun _ => by kernel_rfl⟩
theorem idx58 (z : Zn) (P : Pl) {k : Nat} (hk : k < 5) (w : World) : (Instr.index 58 (LV z P) (.int .i64 (k : Int))).run Try.prog w = .ok (.slice (P.A k) (z.l k).length (P.c k)) w := by
  have hc : k = 0 ∨ k = 1 ∨ k = 2 ∨ k = 3 ∨ k = 4 := by omega
  obtain ⟨h0, h1, h2, h3, h4⟩ := idx58s (P.A 0) (P.A 1) (P.A 2) (P.A 3) (P.A 4) (z.l 0).length (z.l 1).length (z.l 2).length (z.l 3).length (z.l 4).length (P.c 0) (P.c 1) (P.c 2) (P.c 3) (P.c 4)
  rcases hc with rfl | rfl | rfl | rfl | rfl
  · exact h0 w
  · exact h1 w
  · exact h2 w
  · exact h3 w
  · exact h4 w

theorem load_gate {P : Program} {ops : Array Oper} {Q : Exit → Act → World → Prop} {rest : List Oper} {o : Oper} {a : Act} {w : World} {N : Nat} (_ : o.dst = some N) (h : wpList P ops Q (o :: rest) a w) : wpList P ops Q (o :: rest) a w := h

/-- The world of the second part: the bits behind what was there. -/
def BW (W : World) (Q : List Int) : World := W.alloc (.cells (bitA Q) 132)
section
variable {z : Zn} {P : Pl} {w W : World} {Q : List Int} {g : Nat}
theorem BW.zm (h : ZM z P w g W) : ZM z P w g (BW W Q) := h.next ((Below.refl _ _).alloc (Nat.le_refl _) _)
theorem BW.cell {f : Nat} (hf : f < 256) : (BW W Q).cell? ⟨W.heap.size, f, none⟩ = some (.bool (decide ((f : Int) ∈ Q))) := by
  unfold BW
  rw [World.cell?_alloc_at _ _ _ _ rfl, bitA_get _ hf]
theorem BW.frozen (f : Nat) : (BW W Q).frozen? ⟨W.heap.size, f, none⟩ = false := by
  unfold BW
  exact World.frozen?_alloc_at _ _ _ _ rfl
theorem BW.set {f : Nat} (hf : f < 256) : (BW W Q).setCell ⟨W.heap.size, f, none⟩ (.bool true) = BW W (Q ++ [(f : Int)]) := by
  unfold BW
  rw [set_alloc_last, bitA_set _ hf]
end

theorem inside82x (z : Zn) (P : Pl) (f : Int) (k : Nat) (hk : k ≤ 4) (hr : rngZ z = true) {kk : Int} (hkk : kk = (k : Int)) {r : Bool} (hi : insZ z f k = r) (w : World) :
    Calls Try.prog 82 #[.agg #[.int .i64 z.nd, .int .i64 z.kd, .int .i64 z.st, .int .i64 z.ct, .int .i64 z.mn, slV z P 0, slV z P 1, slV z P 2, slV z P 3, slV z P 4], .int .i64 f, .int .i64 kk] w fun e w' => e = .returned (.bool r) ∧ Below w.heap.size w w' := by
  subst hkk hi
  exact inside82 z P f k hk hr w
theorem bits_xor : ∀ (f : Fin 256) (k : Fin 4), bits BinOp.xor IntKind.i64 (f.val : Int) (2 ^ k.val) = xorI (f.val : Int) k.val := by decide +kernel
theorem bits_xor' {f : Int} {k : Nat} (h0 : 0 ≤ f) (h1 : f < 256) (hk : k < 4) : bits BinOp.xor IntKind.i64 f (2 ^ k) = xorI f k := by
  obtain ⟨n, rfl⟩ := Int.eq_ofNat_of_zero_le h0
  exact bits_xor ⟨n, by omega⟩ ⟨k, hk⟩
theorem good_rising {z : Zn} {k : Nat} (h : GoodL z k) : Rising (z.l k) := fun i j hij hj => good_lt h j hij hj
def noT2 (z : Zn) (k : Nat) : Prop := ∀ k' i, k' < k → i < (z.l k').length → twB z k' i = false
def noT2I (z : Zn) (k i : Nat) : Prop := ∀ i', i' < i → i' < (z.l k).length → twB z k i' = false
theorem noT2_zero (z : Zn) : noT2 z 0 := fun _ _ h => by omega
theorem noT2_next {z : Zn} {k i : Nat} (h : noT2 z k) (h2 : noT2I z k i) (hi : (z.l k).length ≤ i) : noT2 z (k + 1) := by
  intro k' i' hk hl
  by_cases e : k' = k
  · subst e; exact h2 i' (by omega) hl
  · exact h k' i' (by omega) hl
theorem noT2I_zero (z : Zn) (k : Nat) : noT2I z k 0 := fun _ _ _ => by omega
theorem noT2I_next {z : Zn} {k i : Nat} (h : noT2I z k i) (h2 : twB z k i = false) : noT2I z k (i + 1) := by
  intro i' hi hl
  by_cases e : i' = i
  · subst e; exact h2
  · exact h i' (by omega) hl
theorem noT2_all {z : Zn} (h : noT2 z 4) : ¬ twP z := by
  rintro ⟨k, i, hk, hi, hb⟩
  rw [h k i hk hi] at hb
  cases hb
theorem alloc132 (w : World) : (Instr.alloc 132 true (.tuple #[])).run Try.prog w = .ok (.pointer (some ⟨w.heap.size, 0, none⟩)) (BW w []) := by kernel_rfl
theorem wp_alloc_bits {K : Act → World → Prop} {Q : Exit → Act → World → Prop} {o : Oper} {a : Act} {W : World} (ho : o.op = .alloc 132) (hK : K (a.put o.dst (.pointer (some ⟨W.heap.size, 0, none⟩))) (BW W [])) : o.wp Try.prog a W K Q := by
  unfold Oper.wp execOp
  simp only [ho, Sem.run_bind, Sem.run_pure, Result.andThen_ok, alloc132]
  exact hK
theorem wpList_alloc_bits {ops : Array Oper} {rest : List Oper} {o : Oper} {a : Act} {W : World} {Q : Exit → Act → World → Prop} (hgd : o.guard = none) (ho : o.op = .alloc 132) (hK : wpList Try.prog ops Q rest (a.put o.dst (.pointer (some ⟨W.heap.size, 0, none⟩))) (BW W [])) : wpList Try.prog ops Q (o :: rest) a W :=
  wpList_plain hgd fun _ hk => wp_alloc_bits ho (hk _ _ hK)
set_option maxRecDepth 100000 in
set_option maxHeartbeats 4000000 in
theorem check56 (z : Zn) (P : Pl) (w : World) (hl : ∀ k, k < 5 → IntsAt w (P.A k) (z.l k)) : Calls Try.prog 56 #[ZV z P] w fun e w' => e = .returned (.int .i64 (chkZ z)) ∧ Below w.heap.size w w' := by
  have I0 := Kp.mk (ZM.start hl)
  clear hl
  obtain ⟨r, hr⟩ : ∃ r, r = rngZ z := ⟨_, rfl⟩
  obtain ⟨s, hs⟩ : ∃ s, s = scZ z 0 := ⟨_, rfl⟩
  have HR := Kp.mk hr
  have HS := Kp.mk hs
  clear hr hs
  unfold ZV
  go_enter Try.func56, Try.ntmps56
  cases r
  · have HE := Kp.mk (chkZ_rng HR.out.symm)
    go_wp2_with (first | ((with_reducible refine gate_dst (N := 19) rfl ?_); go_must (refine wpList_load_zone rfl I0.out.blk 1 rfl rfl ?_)) | (go_at_call 81; refine (ranges81 z P _).mono ?_; rintro e w1 ⟨rfl, hb⟩; rw [← HR.out]; have I1 := Kp.mk (I0.out.next hb); clear hb))
    go_ret
    exact ⟨by rw [HE.out]; rfl, I1.out.below⟩
  · have HE := Kp.mk (fun h => chkZ_sc (z := z) HR.out.symm h)
    go_wp2_with (first | ((with_reducible refine gate_dst (N := 19) rfl ?_); go_must (refine wpList_load_zone rfl I0.out.blk 1 rfl rfl ?_)) | (go_at_call 81; refine (ranges81 z P _).mono ?_; rintro e w1 ⟨rfl, hb⟩; rw [← HR.out]; have I1 := Kp.mk (I0.out.next hb); clear hb) | ((with_reducible refine gate_dst (N := 23) rfl ?_); go_must (refine wpList_load_lists rfl I1.out.blk 22 rfl rfl ?_)))
    go_loopw [24] (fun i W => ∃ k : Nat, k ≤ 5 ∧ i = .int .i64 k ∧ Kp (s = scZ z k) ∧ Kp (ZM z P w w.heap.size W)) (fun i _ => 5 - (intOf i).toNat)
    case atStart => exact ⟨0, by omega, rfl, HS, I1⟩
    case round =>
      clear I1 I0
      obtain ⟨k, hk5, rfl, HT, I⟩ := hrel
      by_cases hk : k < 5
      · have hki : (k : Int) < 5 := by omega
        have hkp : (0 : Int) ≤ (k : Int) := by omega
        have hix := idx58 z P hk
        go_wp2_with fail
        go_loopw [30] (fun i W => ∃ j : Nat, j ≤ (z.l k).length ∧ i = .int .i64 j ∧ Kp (scL z k 0 = scL z k j) ∧ Kp (ZM z P w w.heap.size W)) (fun i _ => (z.l k).length - (intOf i).toNat)
        case atStart => exact ⟨0, by omega, rfl, ⟨rfl⟩, I⟩
        case round =>
          clear I
          obtain ⟨j, hjl, rfl, HL, I⟩ := hrel
          have hlen := (I.out.ints k hk).1
          by_cases hj : j < (z.l k).length
          · have hj0 : (0 : Int) ≤ (j : Int) := by omega
            have hj1 : (j : Int) < ((z.l k).length : Int) := by omega
            obtain ⟨b, off, hA, c1⟩ := I.out.item hk hj
            rw [hA]
            cases hins : insZ z (g5 (z.l k) j) k
            · have HB := Kp.mk hins
              have HX := Kp.mk (show s = 3 by rw [HT.out, scZ_err hk, HL.out, scL_out hj hins]; rw [HL.out, scL_out hj hins]; omega)
              have HE' := Kp.mk (show chkZ z = 3 by rw [HE.out (by rw [← HS.out, HX.out]; omega), ← HS.out, HX.out])
              clear hins
              go_wp2_with (first | ((with_reducible refine gate_dst (N := 35) rfl ?_); go_must (refine wpList_load_zone rfl I.out.blk 1 rfl rfl ?_)) | (go_at_call 82; refine (inside82 z P _ k (by omega) HR.out.symm _).mono ?_; rintro e w2 ⟨rfl, hb⟩; rw [HB.out]; have I := Kp.mk (I.out.next hb); clear hb c1))
              go_ret
              exact ⟨by rw [HE'.out]; rfl, I.out.below⟩
            · have HB := Kp.mk hins
              have HI := Kp.mk hins
              clear hins
              rcases Nat.eq_zero_or_pos j with h0 | h0
              · subst h0
                have HN := Kp.mk (show scL z k 0 = scL z k (0 + 1) from scL_next hj HI.out (by omega))
                simp only [Nat.add_zero] at c1
                go_wp2_with (first | ((with_reducible refine gate_dst (N := 35) rfl ?_); go_must (refine wpList_load_zone rfl I.out.blk 1 rfl rfl ?_)) | (go_at_call 82; refine (inside82 z P _ k (by omega) HR.out.symm _).mono ?_; rintro e w2 ⟨rfl, hb⟩; rw [HB.out]; have I := Kp.mk (I.out.next hb); clear hb c1))
                exact ⟨⟨0 + 1, by omega, by congr 1, HN, I⟩, by simp [intOf]; omega⟩
              · obtain ⟨i, rfl⟩ : ∃ i, j = i + 1 := ⟨j - 1, by omega⟩
                have hw2 : IntKind.i64.wrap ((i : Int) + 1 - 1) = (i : Int) := by rw [show (i : Int) + 1 - 1 = (i : Int) by omega]; go_unwrap
                have hw3 : IntKind.i64.wrap (i : Int) = (i : Int) := by go_unwrap
                by_cases hord : g5 (z.l k) (i + 1) ≤ g5 (z.l k) i
                · have HX := Kp.mk (show s = 10 by rw [HT.out, scZ_err hk, HL.out, scL_ord hj HI.out (by omega) (by simpa using hord)]; rw [HL.out, scL_ord hj HI.out (by omega) (by simpa using hord)]; omega)
                  have HE' := Kp.mk (show chkZ z = 10 by rw [HE.out (by rw [← HS.out, HX.out]; omega), ← HS.out, HX.out])
                  go_wp2_with (first | ((with_reducible refine gate_dst (N := 35) rfl ?_); go_must (refine wpList_load_zone rfl I.out.blk 1 rfl rfl ?_)) | (go_at_call 82; refine (inside82 z P _ k (by omega) HR.out.symm _).mono ?_; rintro e w2 ⟨rfl, hb⟩; rw [HB.out]; have I := Kp.mk (I.out.next hb); clear hb c1; obtain ⟨c0, c1⟩ := I.out.two hk hj hA; obtain ⟨_, c2⟩ := I.out.two hk (Nat.lt_of_succ_lt hj) hA))
                  go_ret
                  exact ⟨by rw [HE'.out]; rfl, I.out.below⟩
                · have HN := Kp.mk (show scL z k 0 = scL z k (i + 1 + 1) by rw [HL.out]; exact scL_next hj HI.out (by intro _; simpa using hord))
                  go_wp2_with (first | ((with_reducible refine gate_dst (N := 35) rfl ?_); go_must (refine wpList_load_zone rfl I.out.blk 1 rfl rfl ?_)) | (go_at_call 82; refine (inside82 z P _ k (by omega) HR.out.symm _).mono ?_; rintro e w2 ⟨rfl, hb⟩; rw [HB.out]; have I := Kp.mk (I.out.next hb); clear hb c1; obtain ⟨c0, c1⟩ := I.out.two hk hj hA; obtain ⟨_, c2⟩ := I.out.two hk (Nat.lt_of_succ_lt hj) hA))
                  exact ⟨⟨i + 1 + 1, by omega, by congr 1, HN, I⟩, by simp [intOf]; omega⟩
          · have HE' := Kp.mk (show s = scZ z (k + 1) by rw [HT.out, scZ_next hk]; rw [HL.out, scL_end (by omega)])
            go_wp2_with fail
            go_roundw
            case rel => exact ⟨k + 1, by omega, by go_num, HE', I⟩
            case measure => simp [intOf]; omega
      · have HE' := Kp.mk (show s = 0 by rw [HT.out, (show k = 5 by omega), scZ_end])
        have HZ := Kp.mk (show scZ z 0 = 0 by rw [← HS.out, HE'.out])
        have HG := Kp.mk (fun k hk => scZ_zero (z := z) 0 HZ.out k (Nat.zero_le _) hk)
        clear HT HE HE' HS
        obtain rfl : k = 5 := by omega
        go_wp2_with (first | ((with_reducible refine gate_dst (N := 7) rfl ?_); go_must (refine wpList_alloc_bits rfl rfl ?_)) | ((with_reducible refine gate_dst (N := 54) rfl ?_); go_must (refine wpList_load_lists rfl (BW.zm (Q := []) I.out).blk 53 rfl rfl ?_)))
        rename World => W0
        have HZ0 : Kp (∀ Q, ZM z P w w.heap.size (BW W0 Q)) := ⟨fun Q => BW.zm I.out⟩
        clear I
        go_loopw [55] (fun x W => ∃ k : Nat, k ≤ 5 ∧ x = .int .i64 k ∧ Kp (pK z k).Nodup ∧ Kp (W = BW W0 (pK z k))) (fun x _ => 5 - (intOf x).toNat)
        case atStart => exact ⟨0, by omega, rfl, ⟨List.nodup_nil⟩, ⟨rfl⟩⟩
        case round =>
          obtain ⟨k, hk5, rfl, HN, HW⟩ := hrel
          by_cases hk : k < 5
          · have hki : (k : Int) < 5 := by omega
            have hkp : (0 : Int) ≤ (k : Int) := by omega
            have hix := idx58 z P hk
            have hlen := ((HZ0.out []).ints k hk).1
            go_wp2_with fail
            go_loopw [61] (fun x W => ∃ i : Nat, i ≤ (z.l k).length ∧ x = .int .i64 i ∧ Kp (pI z k i).Nodup ∧ Kp (W = BW W0 (pI z k i))) (fun x _ => (z.l k).length - (intOf x).toNat)
            case atStart => exact ⟨0, by omega, rfl, ⟨by rw [pI_zero]; exact HN.out⟩, ⟨by rw [pI_zero]; exact HW.out⟩⟩
            case round =>
              clear HN HW
              obtain ⟨i, hil, rfl, HN, HW⟩ := hrel
              by_cases hi : i < (z.l k).length
              · have hi0 : (0 : Int) ≤ (i : Int) := by omega
                have hi1 : (i : Int) < ((z.l k).length : Int) := by omega
                have I := Kp.mk (HZ0.out (pI z k i))
                rw [← HW.out] at I
                obtain ⟨b, off, hA, c1⟩ := I.out.item hk hi
                obtain ⟨a, ha⟩ := Int.eq_ofNat_of_zero_le (ins_bd HR.out.symm (HG.out k hk i hi).1).1
                have HA := Kp.mk ha
                rw [hA]
                rw [ha] at c1
                clear ha
                have hp : (1 : Int) ≤ 2 ^ k ∧ (2 : Int) ^ k ≤ 16 := pow_le16 hk
                have ha := ins_bd HR.out.symm (HG.out k hk i hi).1
                rw [HA.out] at ha
                go_wp2_with fail
                go_loopw [12] (fun x W => ∃ j : Nat, (j : Int) ≤ 2 ^ k ∧ x = .int .i64 ((a + j : Nat) : Int) ∧ Kp (pJ z k i j).Nodup ∧ Kp (W = BW W0 (pJ z k i j))) (fun x _ => 300 - (intOf x).toNat)
                case atStart => exact ⟨0, by omega, rfl, ⟨by rw [pJ_zero]; exact HN.out⟩, ⟨by rw [pJ_zero]; exact HW.out⟩⟩
                case round =>
                  clear HN HW I c1
                  obtain ⟨j, hj, rfl, HN, HW⟩ := hrel
                  by_cases hlt : (j : Int) < 2 ^ k
                  · have hf : a + j < 256 := by omega
                    have c2 := BW.cell (W := W0) (Q := pJ z k i j) hf
                    have c3 := BW.frozen (W := W0) (Q := pJ z k i j) (a + j)
                    have HS := BW.set (W := W0) (Q := pJ z k i j) hf
                    have hj' : j < 2 ^ k := by exact_mod_cast hlt
                    have HP := pJ_succ z k i j
                    have hpre := pJ_pre z hk hi (Nat.succ_le_of_lt hj')
                    rw [HA.out, ← Int.natCast_add] at HP
                    rw [← HP] at HS
                    rw [← HW.out] at c2 c3 HS
                    have HS := Kp.mk HS
                    by_cases hm : ((a + j : Nat) : Int) ∈ pJ z k i j
                    · have HE := Kp.mk (chkZ_two (z := z) HR.out.symm HZ.out (fun h => by
                        have := h.sublist hpre.sublist
                        rw [Nat.succ_eq_add_one, HP, List.nodup_append] at this
                        exact this.2.2 _ hm _ (List.mem_singleton.2 rfl) rfl))
                      have I := Kp.mk (HZ0.out (pJ z k i j))
                      rw [← HW.out] at I
                      rw [decide_eq_true hm] at c2
                      clear HP hm
                      go_wp2_with fail
                      go_ret
                      exact ⟨by rw [HE.out]; rfl, I.out.below⟩
                    · have HN' : Kp (pJ z k i (j + 1)).Nodup := ⟨by
                        rw [HP, List.nodup_append]
                        exact ⟨HN.out, by simp, fun x hx y hy e => hm (by rw [← List.mem_singleton.1 hy, ← e]; exact hx)⟩⟩
                      rw [decide_eq_false hm] at c2
                      clear HP hm
                      go_wp2_with fail
                      exact ⟨⟨j + 1, by omega, by congr 1, HN', ⟨rfl⟩⟩, by simp only [intOf]; omega⟩
                  · have hj' : j = 2 ^ k := by
                      have : (j : Int) = 2 ^ k := by omega
                      exact_mod_cast this
                    have HE : Kp (wr = BW W0 (pI z k (i + 1))) := ⟨by rw [← pJ_full z k hi, ← hj']; exact HW.out⟩
                    have HN' : Kp (pI z k (i + 1)).Nodup := ⟨by rw [← pJ_full z k hi, ← hj']; exact HN.out⟩
                    clear hj'
                    go_wp2_with fail
                    go_roundw
                    case rel => exact ⟨i + 1, by omega, by go_num, HN', HE⟩
                    case measure => simp [intOf]; omega
              · have HE : Kp (wr = BW W0 (pK z (k + 1))) := ⟨by rw [← pI_full' z k (show (z.l k).length ≤ i by omega)]; exact HW.out⟩
                have HN' : Kp (pK z (k + 1)).Nodup := ⟨by rw [← pI_full' z k (show (z.l k).length ≤ i by omega)]; exact HN.out⟩
                go_wp2_with fail
                go_roundw
                case rel => exact ⟨k + 1, by omega, by go_num, HN', HE⟩
                case measure => simp [intOf]; omega
          · have HN5 : Kp (pK z 5).Nodup := ⟨by rw [← (show k = 5 by omega)]; exact HN.out⟩
            clear HN
            have I : Kp (ZM z P w w.heap.size wr) := ⟨by rw [HW.out]; exact HZ0.out _⟩
            clear HW HZ0
            go_wp2_with fail
            go_loopw [81] (fun x W => ∃ k : Nat, k ≤ 4 ∧ x = .int .i64 k ∧ Kp (noT2 z k) ∧ Kp (ZM z P w w.heap.size W)) (fun x _ => 4 - (intOf x).toNat)
            case atStart => exact ⟨0, by omega, rfl, ⟨noT2_zero z⟩, I⟩
            case round =>
              clear I
              obtain ⟨k, hk4, rfl, HT, I⟩ := hrel
              by_cases hk' : k < 4
              · have hk : k < 5 := by omega
                have hki : (k : Int) < 5 := by omega
                have hk4i : (k : Int) < 4 := by omega
                have hkp : (0 : Int) ≤ (k : Int) := by omega
                have hp := pow_le16 hk
                have hlen := (I.out.ints k hk).1
                have c0 := I.out.list hk
                go_wp2_with fail
                go_loopw [89] (fun x W => ∃ i : Nat, i ≤ (z.l k).length ∧ x = .int .i64 i ∧ Kp (noT2I z k i) ∧ Kp (ZM z P w w.heap.size W)) (fun x _ => (z.l k).length - (intOf x).toNat)
                case atStart => exact ⟨0, by omega, rfl, ⟨noT2I_zero z k⟩, I⟩
                case round =>
                  clear I c0
                  obtain ⟨i, hil, rfl, HU, I⟩ := hrel
                  by_cases hi : i < (z.l k).length
                  · have hi0 : (0 : Int) ≤ (i : Int) := by omega
                    have hi1 : (i : Int) < ((z.l k).length : Int) := by omega
                    obtain ⟨b, off, hA, c1⟩ := I.out.item hk hi
                    have c0 := I.out.list hk
                    rw [hA] at c0 ⊢
                    have hin := (HG.out k hk i hi).1
                    have hbd := ins_bd HR.out.symm hin
                    have hx := bits_xor' hbd.1 (by omega) hk'
                    have HRs := Kp.mk (good_rising (HG.out k hk))
                    have hw5 : IntKind.i64.wrap ((k : Int) + 1) = (k : Int) + 1 := by go_unwrap
                    cases hf : decide (xorI (g5 (z.l k) i) k ∈ z.l k)
                    · have HF := Kp.mk hf
                      have HU' := Kp.mk (noT2I_next HU.out (show twB z k i = false by simp only [twB, hf, Bool.false_and]))
                      clear hf
                      go_wp2_with (first | (go_at_call 83; refine (search83 _ (z.l k) (P.c k) _ _ (by rw [← hA]; exact I.out.ints k hk) HRs.out).mono ?_; rintro e w2 ⟨⟨p, rfl⟩, rfl⟩; rw [HF.out]))
                      exact ⟨⟨i + 1, by omega, by congr 1, HU', I⟩, by simp only [intOf]; omega⟩
                    · have HF := Kp.mk hf
                      have hk1 : k + 1 ≤ 4 := by omega
                      have hkk := Kp.mk (show (k : Int) + 1 = ((k + 1 : Nat) : Int) by omega)
                      obtain ⟨t0, t1, t2, t3, t4, t5, t6, t7, t8, t9, _⟩ := I.out.ten trivial
                      cases hins : insZ z (min (g5 (z.l k) i) (xorI (g5 (z.l k) i) k)) (k + 1)
                      · have HB := Kp.mk hins
                        have HU' := Kp.mk (noT2I_next HU.out (show twB z k i = false by simp only [twB, hins, Bool.and_false]))
                        clear hf hins
                        go_wp2_with (first | (go_at_call 83; refine (search83 _ (z.l k) (P.c k) _ _ (by rw [← hA]; exact I.out.ints k hk) HRs.out).mono ?_; rintro e w2 ⟨⟨p, rfl⟩, rfl⟩; rw [HF.out]) | (go_at_call 82; first | (have hq := HB.out; rw [Int.min_eq_right (show xorI (g5 (z.l k) i) k ≤ g5 (z.l k) i by omega)] at hq; with_reducible refine (inside82x z P (xorI (g5 (z.l k) i) k) (k + 1) hk1 HR.out.symm hkk.out hq _).mono ?_; rintro e w2 ⟨rfl, hb⟩; have I := Kp.mk (I.out.next hb); clear hb hq t0 t1 t2 t3 t4 t5 t6 t7 t8 t9 c0 c1) | (have hq := HB.out; rw [Int.min_eq_left (show g5 (z.l k) i ≤ xorI (g5 (z.l k) i) k by omega)] at hq; with_reducible refine (inside82x z P (g5 (z.l k) i) (k + 1) hk1 HR.out.symm hkk.out hq _).mono ?_; rintro e w2 ⟨rfl, hb⟩; have I := Kp.mk (I.out.next hb); clear hb hq t0 t1 t2 t3 t4 t5 t6 t7 t8 t9 c0 c1)))
                        all_goals exact ⟨⟨i + 1, by omega, by congr 1, HU', I⟩, by simp only [intOf]; omega⟩
                      · have HB := Kp.mk hins
                        have HE := Kp.mk (chkZ_adj (z := z) HR.out.symm HZ.out HN5.out ((twin_iff HG.out).1 ⟨k, i, hk', hi, by simp only [twB, hf, hins, Bool.and_true]⟩))
                        clear hf hins
                        go_wp2_with (first | (go_at_call 83; refine (search83 _ (z.l k) (P.c k) _ _ (by rw [← hA]; exact I.out.ints k hk) HRs.out).mono ?_; rintro e w2 ⟨⟨p, rfl⟩, rfl⟩; rw [HF.out]) | (go_at_call 82; first | (have hq := HB.out; rw [Int.min_eq_right (show xorI (g5 (z.l k) i) k ≤ g5 (z.l k) i by omega)] at hq; with_reducible refine (inside82x z P (xorI (g5 (z.l k) i) k) (k + 1) hk1 HR.out.symm hkk.out hq _).mono ?_; rintro e w2 ⟨rfl, hb⟩; have I := Kp.mk (I.out.next hb); clear hb hq t0 t1 t2 t3 t4 t5 t6 t7 t8 t9 c0 c1) | (have hq := HB.out; rw [Int.min_eq_left (show g5 (z.l k) i ≤ xorI (g5 (z.l k) i) k by omega)] at hq; with_reducible refine (inside82x z P (g5 (z.l k) i) (k + 1) hk1 HR.out.symm hkk.out hq _).mono ?_; rintro e w2 ⟨rfl, hb⟩; have I := Kp.mk (I.out.next hb); clear hb hq t0 t1 t2 t3 t4 t5 t6 t7 t8 t9 c0 c1)))
                        all_goals go_ret
                        all_goals exact ⟨by rw [HE.out]; rfl, I.out.below⟩
                  · have HE := Kp.mk (noT2_next HT.out HU.out (by omega))
                    go_wp2_with fail
                    go_roundw
                    case rel => exact ⟨k + 1, by omega, by go_num, HE, I⟩
                    case measure => simp [intOf]; omega
              · obtain rfl : k = 4 := by omega
                have HE := Kp.mk (chkZ_ok (z := z) HR.out.symm HZ.out HN5.out (fun h => noT2_all HT.out ((twin_iff HG.out).2 h)))
                go_wp2_with fail
                go_ret
                exact ⟨by rw [HE.out]; rfl, I.out.below⟩
end Go.Proofs.Ytmomcelnfljnmaa
