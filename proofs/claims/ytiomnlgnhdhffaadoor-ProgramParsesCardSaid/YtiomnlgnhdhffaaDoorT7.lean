/-
  The walk of the reference's instr, at a line that has as many words as its operation wants. Conditions: the words lie as said.
-/
import Derived.Test.YtiomnlgnhdhffaaDoorT8
namespace Go.Proofs.YtiomnlgnhdhffaaDoor
open Go.RowKit
set_option linter.unusedVariables false
set_option linter.unusedSimpArgs false

theorem okAll_step {ws : List Wd} {o : Int} {k : Nat} (h : 1 ≤ k) : okAll ws o (k + 1) = (okAll ws o k && okw ws o k) := by
  obtain ⟨j, rfl⟩ : ∃ j, k = j + 1 := ⟨k - 1, by omega⟩
  rfl
theorem okAll_mono {ws : List Wd} {o : Int} {k : Nat} (hk : okAll ws o k = false) : ∀ m, k ≤ m → okAll ws o m = false
  | 0, h => by obtain rfl : k = 0 := by omega
               exact hk
  | m + 1, h => by
    by_cases he : k = m + 1
    · rw [← he]; exact hk
    · have ih := okAll_mono hk m (by omega)
      cases m with
      | zero => obtain rfl : k = 0 := by omega
                cases hk
      | succ m => rw [okAll_step (by omega), ih]; rfl
theorem numA_big (ws : List Wd) {n j : Nat} (h : n ≤ j) : numA ws n j = 0 := by unfold numA; rw [if_neg (by omega)]
theorem nA_vals (ws : List Wd) (n : Nat) : nA ws n = n5 0 (numA ws n 1) (numA ws n 2) (numA ws n 3) (numA ws n 4) := rfl

set_option maxRecDepth 100000 in
set_option maxHeartbeats 8000000 in
theorem instr_other (v : Wd) (t : List Wd) (o : Int) (n : Nat) (A : Option Addr) (cap : Nat) (w : World) (hs : StrsAt w A (v :: t)) (hbig : ∀ x ∈ v :: t, x.length ≤ 1000000)
    (hop : opR v = (o, (n : Int))) (ho : 1 ≤ o ∧ o ≤ 12) (hn : 1 ≤ n ∧ n ≤ 5) (hlen : t.length + 1 = n) (h1 : o ≠ 1) (h3 : o ≠ 3) :
    Calls Tryd.prog 26 #[.slice A (t.length + 1) cap] w fun e w' => InsPost (instrR (v :: t)) w e w' := by
  obtain ⟨ho1, ho2⟩ := ho
  obtain ⟨hn1, hn5⟩ := hn
  have OP := Kp.mk (fun W => op40 v W)
  rw [hop] at OP
  obtain ⟨R, hR⟩ : ∃ R, R = instrR (v :: t) := ⟨_, rfl⟩
  rw [← hR]
  have HBad := Kp.mk (show okAll (v :: t) o n = false → R = (zI, false) from fun h => by
    rw [hR]; unfold instrR; rw [show (v :: t).headD [] = v from rfl, hop]; dsimp only
    rw [if_neg (by simp; omega), Int.toNat_natCast, h, if_neg (by decide)])
  have HOk := Kp.mk (show okAll (v :: t) o n = true → R = (buildR o 0 (numA (v :: t) n 1) (numA (v :: t) n 2) (numA (v :: t) n 3) (numA (v :: t) n 4) v, true) from fun h => by
    rw [hR]; unfold instrR; rw [show (v :: t).headD [] = v from rfl, hop]; dsimp only
    rw [if_neg (by simp; omega), Int.toNat_natCast, h, if_pos rfl, if_neg h1, if_neg h3])
  clear hR hop
  have HS := Kp.mk hs
  have HG := Kp.mk hbig
  obtain ⟨b, off, rfl, hv0⟩ := hs.head
  have hc0 : (w.alloc (.cells #[.int .i64 0, .int .i64 0, .int .i64 0, .int .i64 0, .int .i64 0, .int .i64 0, .int .i64 0, .int .i64 0] 36)).cell? ⟨b, off, none⟩ = some (.string (bstr v)) := (hs.below (below_new2 w (.cells (c8 0 0 0 0 0 0 0 0) 36))).cellAt (j := 0) rfl
  have q0 : (o == 0) = false := by simp; omega
  have q1 : (o == 1) = false := by simpa using h1
  have q3 : (o == 3) = false := by simpa using h3
  have HL := Kp.mk hlen
  have hl1 : ¬ (t.length : Int) + 1 < (n : Int) := by omega
  have hl2 : ¬ (n : Int) < (t.length : Int) + 1 := by omega
  clear hs hbig hv0 hlen
  go_enter Tryd.func26, Tryd.ntmps26
  go_wp2_with (first | (go_at_call 40; refine (OP.out _).mono ?_; rintro e w' ⟨rfl, rfl⟩) | fail)
  clear hc0 q0 hl1 hl2
  go_loopw [7, 8] (fun p i W => ∃ k : Nat, 1 ≤ k ∧ k ≤ n ∧ p = .int .i64 0 ∧ i = .int .i64 k ∧ Kp (okAll (v :: t) o k = true) ∧ Kp (InR w (nA (v :: t) k) W)) (fun _ i _ => n - (intOf i).toNat)
  case atStart => exact ⟨1, by omega, by omega, rfl, rfl, ⟨rfl⟩, ⟨InR.start w⟩⟩
  case round =>
    obtain ⟨k, hk1, hkn, rfl, rfl, HK, I⟩ := hrel
    by_cases hk : k < n
    · have hki : (k : Int) < (n : Int) := by omega
      have hlk : k < (v :: t).length := by have := HL.out; simp; omega
      have hlk2 : (k : Int) < (t.length : Int) + 1 := by have := HL.out; omega
      obtain ⟨y, hy⟩ : ∃ y, (v :: t)[k]? = some y := ⟨(v :: t)[k], by simp⟩
      have hyd : (v :: t).getD k [] = y := by rw [List.getD_eq_getElem?_getD, hy]; rfl
      have hcell : wr.cell? ⟨b, off + k, none⟩ = some (.string (bstr y)) := (HS.out.below I.out.below).cellAt hy
      have NY := Kp.mk (fun W => number41 y W (HG.out y (List.mem_of_getElem? hy)))
      have hset := nA_next (v :: t) hk1 (show k < 5 by omega)
      rw [hyd] at hset
      have HK2 := Kp.mk (show okw (v :: t) o k = decide (0 ≤ refN y) by unfold okw; rw [if_neg (by rintro ⟨_, h | h⟩ <;> contradiction), hyd]; simp [h1])
      obtain ⟨r, hr⟩ : ∃ r, r = refN y := ⟨_, rfl⟩
      rw [← hr] at NY hset HK2
      have hcr := I.out.fz k
      have hce : wr.cell? ⟨w.heap.size + 1, k, none⟩ = some (.int .i64 (numA (v :: t) k k)) := by
        rw [I.out.cell (i := k) (v := .int .i64 (numA (v :: t) k k))]
        have : k = 1 ∨ k = 2 ∨ k = 3 ∨ k = 4 := by omega
        rcases this with rfl | rfl | rfl | rfl <;> rfl
      have I2 : Kp (InR w (nA (v :: t) (k + 1)) (wr.setCell ⟨w.heap.size + 1, k, none⟩ (.int .i64 r))) := ⟨by rw [← hset]; exact I.out.set k _⟩
      have hk5 : (k : Int) < 5 := by omega
      have hkp : (0 : Int) ≤ (k : Int) := by omega
      have hset' := hset
      have hcs : (wr.setCell ⟨w.heap.size + 1, k, none⟩ (.int .i64 r)).cell? ⟨w.heap.size + 1, k, none⟩ = some (.int .i64 r) := by
        refine I2.out.cell ?_
        rw [← hset]
        rw [Array.getElem?_setIfInBounds_self_of_lt (show k < 5 by omega)]
      clear hyd hy hlk hr hset hset'
      by_cases hneg : r < 0
      · have HE := Kp.mk (HBad.out (okAll_mono (k := k + 1) (by rw [okAll_step hk1, HK.out, HK2.out, Bool.true_and]; exact decide_eq_false (by omega)) n (by omega)))
        clear HBad HOk HK HK2
        by_cases hk3 : k = 3
        · have qk : ((k : Int) == 3) = true := by simp; omega
          clear hk3
          go_wp2_with (first | (go_at_call 41; refine (NY.out _).mono ?_; rintro e w' ⟨rfl, rfl⟩) | ((with_reducible refine gate_op (op := .store 36 (.tmp 2) (.tmp 86)) rfl ?_); go_must (refine wpList_store_row rfl 36 (.tmp 2) (.tmp 86) rfl w.heap.size _ rfl rfl 36 (c8 0 0 0 0 0 0 0 0) I2.out.r (by kernel_rfl) rfl (by simp [c8, Value.oneCell']) ?_)) | fail)
          exact bodyPost_ret (v := .tuple #[.agg (c8 0 0 0 0 0 0 0 0), .bool false]) (results_row_tmp rfl _ _ w.heap.size 36 _ (0, 0) _ _ rfl rfl (I2.out.fin _).1 Tryd.underlying36 rfl (by kernel_rfl)) rfl ⟨by rw [HE.out]; rfl, (I2.out.fin _).2⟩
        · have qk : ((k : Int) == 3) = false := by simp; omega
          have qk2 : ¬ (k : Int) = 3 := by omega
          go_wp2_with (first | (go_at_call 41; refine (NY.out _).mono ?_; rintro e w' ⟨rfl, rfl⟩) | ((with_reducible refine gate_op (op := .store 36 (.tmp 2) (.tmp 86)) rfl ?_); go_must (refine wpList_store_row rfl 36 (.tmp 2) (.tmp 86) rfl w.heap.size _ rfl rfl 36 (c8 0 0 0 0 0 0 0 0) I2.out.r (by kernel_rfl) rfl (by simp [c8, Value.oneCell']) ?_)) | fail)
          exact bodyPost_ret (v := .tuple #[.agg (c8 0 0 0 0 0 0 0 0), .bool false]) (results_row_tmp rfl _ _ w.heap.size 36 _ (0, 0) _ _ rfl rfl (I2.out.fin _).1 Tryd.underlying36 rfl (by kernel_rfl)) rfl ⟨by rw [HE.out]; rfl, (I2.out.fin _).2⟩
      · have HK' := Kp.mk (show okAll (v :: t) o (k + 1) = true by rw [okAll_step hk1, HK.out, HK2.out, Bool.true_and]; exact decide_eq_true (by omega))
        clear HBad HOk HK HK2
        by_cases hk3 : k = 3
        · have qk : ((k : Int) == 3) = true := by simp; omega
          clear hk3
          go_wp2_with (first | (go_at_call 41; refine (NY.out _).mono ?_; rintro e w' ⟨rfl, rfl⟩) | fail)
          go_roundw
          case rel => exact ⟨k + 1, by omega, by omega, rfl, by go_num, HK', I2⟩
          case measure => simp [intOf]; omega
        · have qk : ((k : Int) == 3) = false := by simp; omega
          have qk2 : ¬ (k : Int) = 3 := by omega
          go_wp2_with (first | (go_at_call 41; refine (NY.out _).mono ?_; rintro e w' ⟨rfl, rfl⟩) | fail)
          go_roundw
          case rel => exact ⟨k + 1, by omega, by omega, rfl, by go_num, HK', I2⟩
          case measure => simp [intOf]; omega
    · obtain rfl : k = n := by omega
      have HE := Kp.mk (HOk.out HK.out)
      have hc0 : wr.cell? ⟨b, off, none⟩ = some (.string (bstr v)) := (HS.out.below I.out.below).cellAt (j := 0) rfl
      clear HBad HOk
      rw [nA_vals] at I
      generalize numA (v :: t) k 1 = a1 at I HE
      generalize numA (v :: t) k 2 = a2 at I HE
      generalize numA (v :: t) k 3 = a3 at I HE
      generalize numA (v :: t) k 4 = a4 at I HE
      have BD := Kp.mk (fun W => build43 o 0 0 a1 a2 a3 a4 v W ⟨ho1, ho2⟩)
      obtain ⟨X, hX⟩ : ∃ X, X = buildR o 0 a1 a2 a3 a4 v := ⟨_, rfl⟩
      rw [← hX] at HE BD
      clear hX
      obtain ⟨x0, x1, x2, x3, x4, x5, x6, x7⟩ := X
      go_wp2_with fail
      have hbl : b < w.heap.size := block_lt_of_cell ((HS.out).cellAt (j := 0) rfl)
      have HBL := Kp.mk hbl
      clear hbl
      have hkn : ¬ k < k := by omega
      refine use_ops (ops' := r16) (by kernel_rfl) (instr_region16 o 0 0 a1 a2 a3 a4 b off t.length cap v x0 x1 x2 x3 x4 x5 x6 x7 rfl rfl rfl rfl rfl I.out hc0 HBL.out BD.out ?_)
      clear I hc0 BD
      intro g W hI hg hrow
      have I := Kp.mk hI
      have HG2 := Kp.mk hg
      have HRow := Kp.mk hrow
      clear hI hg hrow
      rw [r16_lay]
      simp only [Act.put, r16val, List.setIfInBounds_toArray, List.set_cons_zero, List.set_cons_succ]
      go_wp2_with (first | ((with_reducible refine gate_dst (N := 103) rfl ?_); go_must (refine wpList_load_row rfl 36 (.tmp 9) rfl g rfl 36 (c8 x0 x1 x2 x3 x4 x5 x6 x7) (0, 0) _ HRow.out Tryd.underlying36 rfl (by kernel_rfl) ?_)) | ((with_reducible refine gate_op (op := .store 36 (.tmp 2) (.tmp 103)) rfl ?_); go_must (refine wpList_store_row rfl 36 (.tmp 2) (.tmp 103) rfl w.heap.size _ rfl rfl 36 (c8 0 0 0 0 0 0 0 0) I.out.r (by kernel_rfl) rfl (by simp [c8, Value.oneCell']) ?_)) | fail)
      exact bodyPost_ret (v := .tuple #[.agg (c8 x0 x1 x2 x3 x4 x5 x6 x7), .bool true]) (results_row_tmp rfl _ _ w.heap.size 36 _ (0, 0) _ _ rfl rfl (I.out.fin _).1 Tryd.underlying36 rfl (by kernel_rfl)) rfl ⟨by rw [HE.out]; rfl, (I.out.fin _).2⟩
end Go.Proofs.YtiomnlgnhdhffaaDoor
