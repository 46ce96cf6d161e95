/-
  The walk of the reference's instr at protect and at map. Conditions: the words lie as said. (Printed by wip/tools/genT10.py.)
-/
import Derived.Test.YtiomnlgnhdhffaaDoorT7
import Derived.Test.YtiomnlgnhdhffaaDoorT9
namespace Go.Proofs.YtiomnlgnhdhffaaDoor
open Go.RowKit
set_option linter.unusedVariables false
set_option linter.unusedSimpArgs false

theorem strs_drop4 {W : World} {b off cap : Nat} {ws : List Wd} (h : StrsAt W (some ⟨b, off, none⟩) ws) (hc : ws.length ≤ cap) : StrsAt W (if cap = 4 then some ⟨b, off, none⟩ else some ⟨b, off + 4, none⟩) (ws.drop 4) := by
  by_cases h4 : ws.length ≤ 4
  · rw [List.drop_of_length_le h4]
    exact StrsAt.nil _ _
  · rw [if_neg (by omega)]
    obtain ⟨v, t, rfl⟩ : ∃ v t, ws = v :: t := by cases ws with | nil => simp at h4 | cons v t => exact ⟨v, t, rfl⟩
    obtain ⟨v1, t, rfl⟩ : ∃ v1 t1, t = v1 :: t1 := by cases t with | nil => simp at h4 | cons v t => exact ⟨v, t, rfl⟩
    obtain ⟨v2, t, rfl⟩ : ∃ v1 t1, t = v1 :: t1 := by cases t with | nil => simp at h4 | cons v t => exact ⟨v, t, rfl⟩
    obtain ⟨v3, t, rfl⟩ : ∃ v1 t1, t = v1 :: t1 := by cases t with | nil => simp at h4 | cons v t => exact ⟨v, t, rfl⟩
    exact h.tail.tail.tail.tail
set_option maxRecDepth 100000 in
set_option maxHeartbeats 8000000 in
theorem rinstr_protect (v : Wd) (t : List Wd) (A : Option Addr) (cap : Nat) (w : World) (hs : StrsAt w A (v :: t)) (hbig : ∀ x ∈ v :: t, x.length ≤ 1000000)
    (hop : opR v = (3, 4)) (hlen : t.length + 1 = 4) :
    Calls Tryd.prog 26 #[.slice A (t.length + 1) cap] w fun e w' => InsPost (instrR (v :: t)) w e w' := by
  have OP := Kp.mk (fun W => op40 v W)
  rw [hop] at OP
  obtain ⟨R, hR⟩ : ∃ R, R = instrR (v :: t) := ⟨_, rfl⟩
  rw [← hR]
  have HBad := Kp.mk (show okAll (v :: t) 3 4 = false → R = (zI, false) from fun h => by
    rw [hR]; unfold instrR; rw [show (v :: t).headD [] = v from rfl, hop]; dsimp only
    rw [if_neg (by simp; omega), show (4 : Int).toNat = 4 from rfl, h, if_neg (by decide)])
  have HOk := Kp.mk (show okAll (v :: t) 3 4 = true → R = (buildR 3 (protR ((v :: t).getD 3 [])) (numA (v :: t) 4 1) (numA (v :: t) 4 2) (numA (v :: t) 4 3) (numA (v :: t) 4 4) v, true) from fun h => by
    rw [hR]; unfold instrR; rw [show (v :: t).headD [] = v from rfl, hop]; dsimp only
    rw [if_neg (by simp; omega), show (4 : Int).toNat = 4 from rfl, h, if_pos rfl, if_neg (by decide), if_pos rfl])
  clear hR hop
  have HS := Kp.mk hs
  have HG := Kp.mk hbig
  obtain ⟨b, off, rfl, hv0⟩ := hs.head
  have hc0 : (w.alloc (.cells #[.int .i64 0, .int .i64 0, .int .i64 0, .int .i64 0, .int .i64 0, .int .i64 0, .int .i64 0, .int .i64 0] 36)).cell? ⟨b, off, none⟩ = some (.string (bstr v)) := (hs.below (below_new2 w (.cells (c8 0 0 0 0 0 0 0 0) 36))).cellAt (j := 0) rfl
  have HL := Kp.mk hlen
  have hl1 : ¬ ((t.length : Int) + 1) < 4 := by omega
  have hl2 : ¬ 4 < ((t.length : Int) + 1) := by omega
  clear hs hbig hv0 hlen
  go_enter Tryd.func26, Tryd.ntmps26
  go_wp2_with (first | (go_at_call 40; refine (OP.out _).mono ?_; rintro e w' ⟨rfl, rfl⟩) | fail)
  clear hc0 hl1 hl2
  go_loopw [7, 8] (fun p i W => ∃ (k : Nat) (pv : Int), 1 ≤ k ∧ k ≤ 4 ∧ p = .int .i64 pv ∧ i = .int .i64 k ∧ Kp (okAll (v :: t) 3 k = true) ∧ Kp (InR w (nA (v :: t) k) W) ∧ Kp (pv = if 3 < k then protR ((v :: t).getD 3 []) else 0)) (fun _ i _ => 4 - (intOf i).toNat)
  case atStart => exact ⟨1, 0, by omega, by omega, rfl, rfl, ⟨rfl⟩, ⟨InR.start w⟩, ⟨rfl⟩⟩
  case round =>
    obtain ⟨k, pv, hk1, hkn, rfl, rfl, HK, I, HPV⟩ := hrel
    by_cases hk : k < 4
    · have hki : (k : Int) < 4 := by omega
      have hlk : k < (v :: t).length := by have := HL.out; simp; omega
      have hlk2 : (k : Int) < ((t.length : Int) + 1) := by have := HL.out; omega
      obtain ⟨y, hy⟩ : ∃ y, (v :: t)[k]? = some y := ⟨(v :: t)[k], by simp⟩
      have hyd : (v :: t).getD k [] = y := by rw [List.getD_eq_getElem?_getD, hy]; rfl
      have hcell : wr.cell? ⟨b, off + k, none⟩ = some (.string (bstr y)) := (HS.out.below I.out.below).cellAt hy
      have NY := Kp.mk (fun W => number41 y W (HG.out y (List.mem_of_getElem? hy)))
      have hset := nA_next (v :: t) hk1 (show k < 5 by omega)
      rw [hyd] at hset
      obtain ⟨r, hr⟩ : ∃ r, r = refN y := ⟨_, rfl⟩
      have HRr := Kp.mk hr
      rw [← hr] at NY hset
      have hcr := I.out.fz k
      have hce : wr.cell? ⟨w.heap.size + 1, k, none⟩ = some (.int .i64 (numA (v :: t) k k)) := by
        rw [I.out.cell (i := k) (v := .int .i64 (numA (v :: t) k k))]
        have : k = 1 ∨ k = 2 ∨ k = 3 := by omega
        rcases this with rfl | rfl | rfl <;> rfl
      have I2 : Kp (InR w (nA (v :: t) (k + 1)) (wr.setCell ⟨w.heap.size + 1, k, none⟩ (.int .i64 r))) := ⟨by rw [← hset]; exact I.out.set k _⟩
      have hk5 : (k : Int) < 5 := by omega
      have hkp : (0 : Int) ≤ (k : Int) := by omega
      have hcs : (wr.setCell ⟨w.heap.size + 1, k, none⟩ (.int .i64 r)).cell? ⟨w.heap.size + 1, k, none⟩ = some (.int .i64 r) := by
        refine I2.out.cell ?_
        rw [← hset]
        rw [Array.getElem?_setIfInBounds_self_of_lt (show k < 5 by omega)]
      have hcell2 : (wr.setCell ⟨w.heap.size + 1, k, none⟩ (.int .i64 r)).cell? ⟨b, off + k, none⟩ = some (.string (bstr y)) := (HS.out.below I2.out.below).cellAt hy
      have HYD := Kp.mk hyd
      clear hyd hy hlk hr hset
      by_cases hk3 : k = 3
      · have qk : ((k : Int) == 3) = true := by simp; omega
        have HK3 := Kp.mk hk3
        clear hk3
        obtain ⟨pr, hpr⟩ : ∃ pr, pr = protR y := ⟨_, rfl⟩
        have HP := Kp.mk hpr
        clear hpr
        have HW := Kp.mk (show okw (v :: t) 3 k = (pr != 0) by
          unfold okw; rw [if_pos ⟨HK3.out, by omega⟩, HP.out, ← HYD.out, HK3.out])
        by_cases hp0 : pr = 0
        · have HE := Kp.mk (HBad.out (okAll_mono (k := k + 1) (by rw [okAll_step hk1, HK.out, HW.out, hp0]; rfl) 4 (by omega)))
          have qp : (pr == 0) = true := by simpa using hp0
          clear HBad HOk HK HW hp0
          go_wp2_with (first | (go_at_call 41; refine (NY.out _).mono ?_; rintro e w' ⟨rfl, rfl⟩) | (go_at_call 42; refine (prot42 y _).mono ?_; rintro e w' ⟨rfl, rfl⟩; rw [← HP.out]) | ((with_reducible refine gate_op (op := .store 36 (.tmp 2) (.tmp 65)) rfl ?_); go_must (refine wpList_store_row rfl 36 (.tmp 2) (.tmp 65) rfl w.heap.size _ rfl rfl 36 (c8 0 0 0 0 0 0 0 0) I2.out.r (by kernel_rfl) rfl (by simp [c8, Value.oneCell']) ?_)) | fail)
          exact bodyPost_ret (v := .tuple #[.agg (c8 0 0 0 0 0 0 0 0), .bool false]) (results_row_tmp rfl _ _ w.heap.size 36 _ (0, 0) _ _ rfl rfl (I2.out.fin _).1 Tryd.underlying36 rfl (by kernel_rfl)) rfl ⟨by rw [HE.out]; rfl, (I2.out.fin _).2⟩
        · have HK' := Kp.mk (show okAll (v :: t) 3 (k + 1) = true by rw [okAll_step hk1, HK.out, HW.out, Bool.true_and]; simpa using hp0)
          have HPV' := Kp.mk (show pr = if 3 < k + 1 then protR ((v :: t).getD 3 []) else 0 by rw [if_pos (by have := HK3.out; omega), HP.out, ← HYD.out, HK3.out])
          have qp : (pr == 0) = false := by simpa using hp0
          have qp2 : ¬ pr = 0 := hp0
          clear HBad HOk HK HW
          go_wp2_with (first | (go_at_call 41; refine (NY.out _).mono ?_; rintro e w' ⟨rfl, rfl⟩) | (go_at_call 42; refine (prot42 y _).mono ?_; rintro e w' ⟨rfl, rfl⟩; rw [← HP.out]) | fail)
          go_roundw
          case rel => exact ⟨k + 1, pr, by omega, by omega, rfl, by go_num, HK', I2, ⟨HPV'.out⟩⟩
          case measure => simp [intOf]; omega
      · have qk : ((k : Int) == 3) = false := by simp; omega
        have qk2 : ¬ (k : Int) = 3 := by omega
        have HPV' := Kp.mk (show pv = if 3 < k + 1 then protR ((v :: t).getD 3 []) else 0 by rw [HPV.out, if_neg (by omega), if_neg (by omega)])
        have HW := Kp.mk (show okw (v :: t) 3 k = decide (0 ≤ r) by unfold okw; rw [if_neg (by rintro ⟨h, _⟩; exact hk3 h), HYD.out, ← HRr.out]; simp)
        clear hk3
        by_cases hneg : r < 0
        · have HE := Kp.mk (HBad.out (okAll_mono (k := k + 1) (by rw [okAll_step hk1, HK.out, HW.out, Bool.true_and]; exact decide_eq_false (by omega)) 4 (by omega)))
          clear HBad HOk HK HW
          go_wp2_with (first | (go_at_call 41; refine (NY.out _).mono ?_; rintro e w' ⟨rfl, rfl⟩) | ((with_reducible refine gate_op (op := .store 36 (.tmp 2) (.tmp 86)) rfl ?_); go_must (refine wpList_store_row rfl 36 (.tmp 2) (.tmp 86) rfl w.heap.size _ rfl rfl 36 (c8 0 0 0 0 0 0 0 0) I2.out.r (by kernel_rfl) rfl (by simp [c8, Value.oneCell']) ?_)) | fail)
          exact bodyPost_ret (v := .tuple #[.agg (c8 0 0 0 0 0 0 0 0), .bool false]) (results_row_tmp rfl _ _ w.heap.size 36 _ (0, 0) _ _ rfl rfl (I2.out.fin _).1 Tryd.underlying36 rfl (by kernel_rfl)) rfl ⟨by rw [HE.out]; rfl, (I2.out.fin _).2⟩
        · have HK' := Kp.mk (show okAll (v :: t) 3 (k + 1) = true by rw [okAll_step hk1, HK.out, HW.out, Bool.true_and]; exact decide_eq_true (by omega))
          clear HBad HOk HK HW
          go_wp2_with (first | (go_at_call 41; refine (NY.out _).mono ?_; rintro e w' ⟨rfl, rfl⟩) | fail)
          go_roundw
          case rel => exact ⟨k + 1, pv, by omega, by omega, rfl, by go_num, HK', I2, ⟨HPV'.out⟩⟩
          case measure => simp [intOf]; omega
    · have hk4 : k = 4 := by omega
      have HE := Kp.mk (HOk.out (by rw [← hk4]; exact HK.out))
      have hc0 : wr.cell? ⟨b, off, none⟩ = some (.string (bstr v)) := (HS.out.below I.out.below).cellAt (j := 0) rfl
      have I : Kp (InR w (nA (v :: t) 4) wr) := ⟨by rw [← hk4]; exact I.out⟩
      have HPV : Kp (pv = protR ((v :: t).getD 3 [])) := ⟨by rw [HPV.out, if_pos (by omega)]⟩
      rw [← HPV.out] at HE
      clear HBad HOk HK
      rw [nA_vals] at I
      generalize numA (v :: t) 4 1 = a1 at I HE
      generalize numA (v :: t) 4 2 = a2 at I HE
      generalize numA (v :: t) 4 3 = a3 at I HE
      generalize numA (v :: t) 4 4 = a4 at I HE
      have BD := Kp.mk (fun W => build43 3 pv 0 a1 a2 a3 a4 v W ⟨by decide, by decide⟩)
      rw [show buildR 3 pv a1 a2 a3 a4 v = ⟨3, a1, a2, 0, 0, 0, pv, 0⟩ from rfl] at HE BD
      have hk4' : ¬ (k : Int) < 4 := by omega
      go_wp2_with fail
      have hbl : b < w.heap.size := block_lt_of_cell ((HS.out).cellAt (j := 0) rfl)
      have HBL := Kp.mk hbl
      clear hbl
      refine use_ops (ops' := r16) (by kernel_rfl) (instr_region16 3 pv 0 a1 a2 a3 a4 b off t.length cap v 3 a1 a2 0 0 0 pv 0 rfl rfl rfl rfl rfl I.out hc0 HBL.out BD.out ?_)
      clear I hc0 BD
      intro g W hI hg hrow
      have I := Kp.mk hI
      have HG2 := Kp.mk hg
      have HRow := Kp.mk hrow
      clear hI hg hrow
      rw [r16_lay]
      simp only [Act.put, r16val, List.setIfInBounds_toArray, List.set_cons_zero, List.set_cons_succ]
      go_wp2_with (first | ((with_reducible refine gate_dst (N := 103) rfl ?_); go_must (refine wpList_load_row rfl 36 (.tmp 9) rfl g rfl 36 (c8 3 a1 a2 0 0 0 pv 0) (0, 0) _ HRow.out Tryd.underlying36 rfl (by kernel_rfl) ?_)) | ((with_reducible refine gate_op (op := .store 36 (.tmp 2) (.tmp 103)) rfl ?_); go_must (refine wpList_store_row rfl 36 (.tmp 2) (.tmp 103) rfl w.heap.size _ rfl rfl 36 (c8 0 0 0 0 0 0 0 0) I.out.r (by kernel_rfl) rfl (by simp [c8, Value.oneCell']) ?_)) | fail)
      exact bodyPost_ret (v := .tuple #[.agg (c8 3 a1 a2 0 0 0 pv 0), .bool true]) (results_row_tmp rfl _ _ w.heap.size 36 _ (0, 0) _ _ rfl rfl (I.out.fin _).1 Tryd.underlying36 rfl (by kernel_rfl)) rfl ⟨by rw [HE.out]; rfl, (I.out.fin _).2⟩
set_option maxRecDepth 100000 in
set_option maxHeartbeats 8000000 in
theorem instr_map4 (v : Wd) (t : List Wd) (m : Nat) (A : Option Addr) (cap : Nat) (w : World) (hs : StrsAt w A (v :: t)) (hbig : ∀ x ∈ v :: t, x.length ≤ 1000000)
    (hop : opR v = (1, 4)) (hlen : t.length + 1 = m + 4) (hcap : (v :: t).length ≤ cap) (hcap2 : cap ≤ 9223372036854775807) (hm0 : m = 0) :
    Calls Tryd.prog 26 #[.slice A (m + 4) cap] w fun e w' => InsPost (instrR (v :: t)) w e w' := by
  have HC := Kp.mk hcap
  clear hcap
  have OP := Kp.mk (fun W => op40 v W)
  rw [hop] at OP
  obtain ⟨R, hR⟩ : ∃ R, R = instrR (v :: t) := ⟨_, rfl⟩
  rw [← hR]
  have HBad := Kp.mk (show okAll (v :: t) 1 4 = false → R = (zI, false) from fun h => by
    rw [hR]; unfold instrR; rw [show (v :: t).headD [] = v from rfl, hop]; dsimp only
    rw [if_neg (by simp; omega), show (4 : Int).toNat = 4 from rfl, h, if_neg (by decide)])
  have HOk := Kp.mk (show okAll (v :: t) 1 4 = true → R = optR (buildR 1 (protR ((v :: t).getD 3 [])) (numA (v :: t) 4 1) (numA (v :: t) 4 2) (numA (v :: t) 4 3) (numA (v :: t) 4 4) v) ((v :: t).drop 4) from fun h => by
    rw [hR]; unfold instrR; rw [show (v :: t).headD [] = v from rfl, hop]; dsimp only
    rw [if_neg (by simp; omega), show (4 : Int).toNat = 4 from rfl, h, if_pos rfl, if_pos rfl])
  clear hR hop
  have HS := Kp.mk hs
  have HG := Kp.mk hbig
  obtain ⟨b, off, rfl, hv0⟩ := hs.head
  have hc0 : (w.alloc (.cells #[.int .i64 0, .int .i64 0, .int .i64 0, .int .i64 0, .int .i64 0, .int .i64 0, .int .i64 0, .int .i64 0] 36)).cell? ⟨b, off, none⟩ = some (.string (bstr v)) := (hs.below (below_new2 w (.cells (c8 0 0 0 0 0 0 0 0) 36))).cellAt (j := 0) rfl
  have HL := Kp.mk hlen
  have hl1 : ¬ ((m : Int) + 4) < 4 := by omega
  have hl2 : ¬ 4 < ((m : Int) + 4) := by omega
  clear hs hbig hv0 hlen
  clear hm0
  go_enter Tryd.func26, Tryd.ntmps26
  go_wp2_with (first | (go_at_call 40; refine (OP.out _).mono ?_; rintro e w' ⟨rfl, rfl⟩) | fail)
  clear hc0 hl1 hl2
  go_loopw [7, 8] (fun p i W => ∃ (k : Nat) (pv : Int), 1 ≤ k ∧ k ≤ 4 ∧ p = .int .i64 pv ∧ i = .int .i64 k ∧ Kp (okAll (v :: t) 1 k = true) ∧ Kp (InR w (nA (v :: t) k) W) ∧ Kp (pv = if 3 < k then protR ((v :: t).getD 3 []) else 0)) (fun _ i _ => 4 - (intOf i).toNat)
  case atStart => exact ⟨1, 0, by omega, by omega, rfl, rfl, ⟨rfl⟩, ⟨InR.start w⟩, ⟨rfl⟩⟩
  case round =>
    obtain ⟨k, pv, hk1, hkn, rfl, rfl, HK, I, HPV⟩ := hrel
    by_cases hk : k < 4
    · have hki : (k : Int) < 4 := by omega
      have hlk : k < (v :: t).length := by have := HL.out; simp; omega
      have hlk2 : (k : Int) < ((m : Int) + 4) := by have := HL.out; omega
      obtain ⟨y, hy⟩ : ∃ y, (v :: t)[k]? = some y := ⟨(v :: t)[k], by simp⟩
      have hyd : (v :: t).getD k [] = y := by rw [List.getD_eq_getElem?_getD, hy]; rfl
      have hcell : wr.cell? ⟨b, off + k, none⟩ = some (.string (bstr y)) := (HS.out.below I.out.below).cellAt hy
      have NY := Kp.mk (fun W => number41 y W (HG.out y (List.mem_of_getElem? hy)))
      have hset := nA_next (v :: t) hk1 (show k < 5 by omega)
      rw [hyd] at hset
      obtain ⟨r, hr⟩ : ∃ r, r = refN y := ⟨_, rfl⟩
      have HRr := Kp.mk hr
      rw [← hr] at NY hset
      have hcr := I.out.fz k
      have hce : wr.cell? ⟨w.heap.size + 1, k, none⟩ = some (.int .i64 (numA (v :: t) k k)) := by
        rw [I.out.cell (i := k) (v := .int .i64 (numA (v :: t) k k))]
        have : k = 1 ∨ k = 2 ∨ k = 3 := by omega
        rcases this with rfl | rfl | rfl <;> rfl
      have I2 : Kp (InR w (nA (v :: t) (k + 1)) (wr.setCell ⟨w.heap.size + 1, k, none⟩ (.int .i64 r))) := ⟨by rw [← hset]; exact I.out.set k _⟩
      have hk5 : (k : Int) < 5 := by omega
      have hkp : (0 : Int) ≤ (k : Int) := by omega
      have hcs : (wr.setCell ⟨w.heap.size + 1, k, none⟩ (.int .i64 r)).cell? ⟨w.heap.size + 1, k, none⟩ = some (.int .i64 r) := by
        refine I2.out.cell ?_
        rw [← hset]
        rw [Array.getElem?_setIfInBounds_self_of_lt (show k < 5 by omega)]
      have hcell2 : (wr.setCell ⟨w.heap.size + 1, k, none⟩ (.int .i64 r)).cell? ⟨b, off + k, none⟩ = some (.string (bstr y)) := (HS.out.below I2.out.below).cellAt hy
      have HYD := Kp.mk hyd
      clear hyd hy hlk hr hset
      by_cases hk3 : k = 3
      · have qk : ((k : Int) == 3) = true := by simp; omega
        have HK3 := Kp.mk hk3
        clear hk3
        obtain ⟨pr, hpr⟩ : ∃ pr, pr = protR y := ⟨_, rfl⟩
        have HP := Kp.mk hpr
        clear hpr
        have HW := Kp.mk (show okw (v :: t) 1 k = (pr != 0) by
          unfold okw; rw [if_pos ⟨HK3.out, by omega⟩, HP.out, ← HYD.out, HK3.out])
        by_cases hp0 : pr = 0
        · have HE := Kp.mk (HBad.out (okAll_mono (k := k + 1) (by rw [okAll_step hk1, HK.out, HW.out, hp0]; rfl) 4 (by omega)))
          have qp : (pr == 0) = true := by simpa using hp0
          clear HBad HOk HK HW hp0
          go_wp2_with (first | (go_at_call 41; refine (NY.out _).mono ?_; rintro e w' ⟨rfl, rfl⟩) | (go_at_call 42; refine (prot42 y _).mono ?_; rintro e w' ⟨rfl, rfl⟩; rw [← HP.out]) | ((with_reducible refine gate_op (op := .store 36 (.tmp 2) (.tmp 65)) rfl ?_); go_must (refine wpList_store_row rfl 36 (.tmp 2) (.tmp 65) rfl w.heap.size _ rfl rfl 36 (c8 0 0 0 0 0 0 0 0) I2.out.r (by kernel_rfl) rfl (by simp [c8, Value.oneCell']) ?_)) | fail)
          exact bodyPost_ret (v := .tuple #[.agg (c8 0 0 0 0 0 0 0 0), .bool false]) (results_row_tmp rfl _ _ w.heap.size 36 _ (0, 0) _ _ rfl rfl (I2.out.fin _).1 Tryd.underlying36 rfl (by kernel_rfl)) rfl ⟨by rw [HE.out]; rfl, (I2.out.fin _).2⟩
        · have HK' := Kp.mk (show okAll (v :: t) 1 (k + 1) = true by rw [okAll_step hk1, HK.out, HW.out, Bool.true_and]; simpa using hp0)
          have HPV' := Kp.mk (show pr = if 3 < k + 1 then protR ((v :: t).getD 3 []) else 0 by rw [if_pos (by have := HK3.out; omega), HP.out, ← HYD.out, HK3.out])
          have qp : (pr == 0) = false := by simpa using hp0
          have qp2 : ¬ pr = 0 := hp0
          clear HBad HOk HK HW
          go_wp2_with (first | (go_at_call 41; refine (NY.out _).mono ?_; rintro e w' ⟨rfl, rfl⟩) | (go_at_call 42; refine (prot42 y _).mono ?_; rintro e w' ⟨rfl, rfl⟩; rw [← HP.out]) | fail)
          go_roundw
          case rel => exact ⟨k + 1, pr, by omega, by omega, rfl, by go_num, HK', I2, ⟨HPV'.out⟩⟩
          case measure => simp [intOf]; omega
      · have qk : ((k : Int) == 3) = false := by simp; omega
        have qk2 : ¬ (k : Int) = 3 := by omega
        have HPV' := Kp.mk (show pv = if 3 < k + 1 then protR ((v :: t).getD 3 []) else 0 by rw [HPV.out, if_neg (by omega), if_neg (by omega)])
        have hly := bstr_list y
        have HW := Kp.mk (show okw (v :: t) 1 k = (decide (0 ≤ r) || (k == 1 && y == [97, 110, 121])) by
          unfold okw; rw [if_neg (by rintro ⟨h, _⟩; exact hk3 h), HYD.out, ← HRr.out]
          by_cases h1 : k = 1
          · rw [h1] at HYD; rw [HYD.out]; simp
          · have h1b : (k == 1) = false := by simpa using h1
            simp [h1b])
        clear hk3
        by_cases hneg : r < 0
        · by_cases hk1' : k = 1
          · have q1 : ((k : Int) == 1) = true := by simp; omega
            by_cases hya : y = [97, 110, 121]
            · have q2 : ((bstr y).toList == [97, 110, 121]) = true := by rw [hly, hya]; rfl
              have HK' := Kp.mk (show okAll (v :: t) 1 (k + 1) = true by rw [okAll_step hk1, HK.out, HW.out, hk1', hya]; simp)
              clear HBad HOk HK HW hk1' hya hly
              go_wp2_with (first | (go_at_call 41; refine (NY.out _).mono ?_; rintro e w' ⟨rfl, rfl⟩) | fail)
              go_roundw
              case rel => exact ⟨k + 1, pv, by omega, by omega, rfl, by go_num, HK', I2, ⟨HPV'.out⟩⟩
              case measure => simp [intOf]; omega
            · have q2 : ((bstr y).toList == [97, 110, 121]) = false := by rw [hly]; simpa using hya
              have HE := Kp.mk (HBad.out (okAll_mono (k := k + 1) (by rw [okAll_step hk1, HK.out, HW.out]; simp [hya]; omega) 4 (by omega)))
              clear HBad HOk HK HW hk1' hya hly
              go_wp2_with (first | (go_at_call 41; refine (NY.out _).mono ?_; rintro e w' ⟨rfl, rfl⟩) | ((with_reducible refine gate_op (op := .store 36 (.tmp 2) (.tmp 86)) rfl ?_); go_must (refine wpList_store_row rfl 36 (.tmp 2) (.tmp 86) rfl w.heap.size _ rfl rfl 36 (c8 0 0 0 0 0 0 0 0) I2.out.r (by kernel_rfl) rfl (by simp [c8, Value.oneCell']) ?_)) | fail)
              exact bodyPost_ret (v := .tuple #[.agg (c8 0 0 0 0 0 0 0 0), .bool false]) (results_row_tmp rfl _ _ w.heap.size 36 _ (0, 0) _ _ rfl rfl (I2.out.fin _).1 Tryd.underlying36 rfl (by kernel_rfl)) rfl ⟨by rw [HE.out]; rfl, (I2.out.fin _).2⟩
          · have q1 : ((k : Int) == 1) = false := by simp; omega
            have q1' : ¬ (k : Int) = 1 := by omega
            have HE := Kp.mk (HBad.out (okAll_mono (k := k + 1) (by rw [okAll_step hk1, HK.out, HW.out]; simp [hk1']; omega) 4 (by omega)))
            clear HBad HOk HK HW hk1' hly
            go_wp2_with (first | (go_at_call 41; refine (NY.out _).mono ?_; rintro e w' ⟨rfl, rfl⟩) | ((with_reducible refine gate_op (op := .store 36 (.tmp 2) (.tmp 86)) rfl ?_); go_must (refine wpList_store_row rfl 36 (.tmp 2) (.tmp 86) rfl w.heap.size _ rfl rfl 36 (c8 0 0 0 0 0 0 0 0) I2.out.r (by kernel_rfl) rfl (by simp [c8, Value.oneCell']) ?_)) | fail)
            exact bodyPost_ret (v := .tuple #[.agg (c8 0 0 0 0 0 0 0 0), .bool false]) (results_row_tmp rfl _ _ w.heap.size 36 _ (0, 0) _ _ rfl rfl (I2.out.fin _).1 Tryd.underlying36 rfl (by kernel_rfl)) rfl ⟨by rw [HE.out]; rfl, (I2.out.fin _).2⟩
        · have HK' := Kp.mk (show okAll (v :: t) 1 (k + 1) = true by rw [okAll_step hk1, HK.out, HW.out, decide_eq_true (by omega)]; rfl)
          clear HBad HOk HK HW hly
          go_wp2_with (first | (go_at_call 41; refine (NY.out _).mono ?_; rintro e w' ⟨rfl, rfl⟩) | fail)
          go_roundw
          case rel => exact ⟨k + 1, pv, by omega, by omega, rfl, by go_num, HK', I2, ⟨HPV'.out⟩⟩
          case measure => simp [intOf]; omega
    · have hk4 : k = 4 := by omega
      have HE := Kp.mk (HOk.out (by rw [← hk4]; exact HK.out))
      have hc0 : wr.cell? ⟨b, off, none⟩ = some (.string (bstr v)) := (HS.out.below I.out.below).cellAt (j := 0) rfl
      have I : Kp (InR w (nA (v :: t) 4) wr) := ⟨by rw [← hk4]; exact I.out⟩
      have HPV : Kp (pv = protR ((v :: t).getD 3 [])) := ⟨by rw [HPV.out, if_pos (by omega)]⟩
      rw [← HPV.out] at HE
      clear HBad HOk HK
      rw [nA_vals] at I
      generalize numA (v :: t) 4 1 = a1 at I HE
      generalize numA (v :: t) 4 2 = a2 at I HE
      generalize numA (v :: t) 4 3 = a3 at I HE
      generalize numA (v :: t) 4 4 = a4 at I HE
      have BD := Kp.mk (fun W => build43 1 pv 0 a1 a2 a3 a4 v W ⟨by decide, by decide⟩)
      rw [show buildR 1 pv a1 a2 a3 a4 v = ⟨1, a1, a2, 0, 0, -1, pv, 0⟩ from rfl] at HE BD
      have hk4' : ¬ (k : Int) < 4 := by omega
      go_wp2_with fail
      have hbl : b < w.heap.size := block_lt_of_cell ((HS.out).cellAt (j := 0) rfl)
      have HBL := Kp.mk hbl
      clear hbl
      refine use_ops (ops' := r16) (by kernel_rfl) (instr_region16 1 pv 0 a1 a2 a3 a4 b off (m + 3) cap v 1 a1 a2 0 0 (-1) pv 0 rfl rfl rfl rfl rfl I.out hc0 HBL.out BD.out ?_)
      clear I hc0 BD
      intro g W hI hg hrow
      have I := Kp.mk hI
      have HG2 := Kp.mk hg
      have HRow := Kp.mk hrow
      clear hI hg hrow
      rw [r16_lay]
      simp only [Act.put, r16val, List.setIfInBounds_toArray, List.set_cons_zero, List.set_cons_succ]
      go_wp2_with fail
      have hmc := HL.out
      have OC := Kp.mk (fun W (hb : Below w.heap.size w W) => options44 1 a1 a2 0 0 (-1) pv (if cap = 4 then some ⟨b, off, none⟩ else some ⟨b, off + 4, none⟩) (cap - 4) ((v :: t).drop 4) W (strs_drop4 (HS.out.below hb) HC.out) (by have := HC.out; simp at this ⊢; omega) (by omega) (fun x hx => HG.out x (List.mem_of_mem_drop hx)))
      have hdl : ((v :: t).drop 4).length = m := by simp; omega
      rw [hdl] at OC
      generalize optR ⟨1, a1, a2, 0, 0, -1, pv, 0⟩ ((v :: t).drop 4) = Y at OC HE
      obtain ⟨⟨y0, y1, y2, y3, y4, y5, y6, y7⟩, q⟩ := Y
      refine use_ops (ops' := r18) (by kernel_rfl) (instr_region18 b off m cap g 1 a1 a2 0 0 (-1) pv 0 y0 y1 y2 y3 y4 y5 y6 y7 q rfl rfl rfl rfl rfl I.out.below (by have := HG2.out; omega) HRow.out I.out.r (by have := HC.out; simp at this; omega) hcap2 (fun W hb => OC.out W hb) ?_)
      clear I HRow OC
      intro W hb hrow
      have HB := Kp.mk hb
      have HRow := Kp.mk hrow
      clear hb hrow
      rw [r18_lay]
      simp only [Act.put, r18val, List.setIfInBounds_toArray, List.set_cons_zero, List.set_cons_succ]
      go_wp2_with fail
      all_goals exact bodyPost_ret (v := .tuple #[.agg (c8 y0 y1 y2 y3 y4 y5 y6 y7), .bool q]) (results_row_tmp rfl _ _ w.heap.size 36 _ (0, 0) _ _ rfl rfl HRow.out Tryd.underlying36 rfl (by kernel_rfl)) rfl ⟨by rw [HE.out]; rfl, HB.out⟩
set_option maxRecDepth 100000 in
set_option maxHeartbeats 8000000 in
theorem instr_map5 (v : Wd) (t : List Wd) (m : Nat) (A : Option Addr) (cap : Nat) (w : World) (hs : StrsAt w A (v :: t)) (hbig : ∀ x ∈ v :: t, x.length ≤ 1000000)
    (hop : opR v = (1, 4)) (hlen : t.length + 1 = m + 4) (hcap : (v :: t).length ≤ cap) (hcap2 : cap ≤ 9223372036854775807) (hm0 : 0 < m) :
    Calls Tryd.prog 26 #[.slice A (m + 4) cap] w fun e w' => InsPost (instrR (v :: t)) w e w' := by
  have HC := Kp.mk hcap
  clear hcap
  have OP := Kp.mk (fun W => op40 v W)
  rw [hop] at OP
  obtain ⟨R, hR⟩ : ∃ R, R = instrR (v :: t) := ⟨_, rfl⟩
  rw [← hR]
  have HBad := Kp.mk (show okAll (v :: t) 1 4 = false → R = (zI, false) from fun h => by
    rw [hR]; unfold instrR; rw [show (v :: t).headD [] = v from rfl, hop]; dsimp only
    rw [if_neg (by simp; omega), show (4 : Int).toNat = 4 from rfl, h, if_neg (by decide)])
  have HOk := Kp.mk (show okAll (v :: t) 1 4 = true → R = optR (buildR 1 (protR ((v :: t).getD 3 [])) (numA (v :: t) 4 1) (numA (v :: t) 4 2) (numA (v :: t) 4 3) (numA (v :: t) 4 4) v) ((v :: t).drop 4) from fun h => by
    rw [hR]; unfold instrR; rw [show (v :: t).headD [] = v from rfl, hop]; dsimp only
    rw [if_neg (by simp; omega), show (4 : Int).toNat = 4 from rfl, h, if_pos rfl, if_pos rfl])
  clear hR hop
  have HS := Kp.mk hs
  have HG := Kp.mk hbig
  obtain ⟨b, off, rfl, hv0⟩ := hs.head
  have hc0 : (w.alloc (.cells #[.int .i64 0, .int .i64 0, .int .i64 0, .int .i64 0, .int .i64 0, .int .i64 0, .int .i64 0, .int .i64 0] 36)).cell? ⟨b, off, none⟩ = some (.string (bstr v)) := (hs.below (below_new2 w (.cells (c8 0 0 0 0 0 0 0 0) 36))).cellAt (j := 0) rfl
  have HL := Kp.mk hlen
  have hl1 : ¬ ((m : Int) + 4) < 4 := by omega
  have hl2 : 4 < ((m : Int) + 4) := by omega
  clear hs hbig hv0 hlen
  clear hm0
  go_enter Tryd.func26, Tryd.ntmps26
  go_wp2_with (first | (go_at_call 40; refine (OP.out _).mono ?_; rintro e w' ⟨rfl, rfl⟩) | fail)
  clear hc0 hl1 hl2
  go_loopw [7, 8] (fun p i W => ∃ (k : Nat) (pv : Int), 1 ≤ k ∧ k ≤ 4 ∧ p = .int .i64 pv ∧ i = .int .i64 k ∧ Kp (okAll (v :: t) 1 k = true) ∧ Kp (InR w (nA (v :: t) k) W) ∧ Kp (pv = if 3 < k then protR ((v :: t).getD 3 []) else 0)) (fun _ i _ => 4 - (intOf i).toNat)
  case atStart => exact ⟨1, 0, by omega, by omega, rfl, rfl, ⟨rfl⟩, ⟨InR.start w⟩, ⟨rfl⟩⟩
  case round =>
    obtain ⟨k, pv, hk1, hkn, rfl, rfl, HK, I, HPV⟩ := hrel
    by_cases hk : k < 4
    · have hki : (k : Int) < 4 := by omega
      have hlk : k < (v :: t).length := by have := HL.out; simp; omega
      have hlk2 : (k : Int) < ((m : Int) + 4) := by have := HL.out; omega
      obtain ⟨y, hy⟩ : ∃ y, (v :: t)[k]? = some y := ⟨(v :: t)[k], by simp⟩
      have hyd : (v :: t).getD k [] = y := by rw [List.getD_eq_getElem?_getD, hy]; rfl
      have hcell : wr.cell? ⟨b, off + k, none⟩ = some (.string (bstr y)) := (HS.out.below I.out.below).cellAt hy
      have NY := Kp.mk (fun W => number41 y W (HG.out y (List.mem_of_getElem? hy)))
      have hset := nA_next (v :: t) hk1 (show k < 5 by omega)
      rw [hyd] at hset
      obtain ⟨r, hr⟩ : ∃ r, r = refN y := ⟨_, rfl⟩
      have HRr := Kp.mk hr
      rw [← hr] at NY hset
      have hcr := I.out.fz k
      have hce : wr.cell? ⟨w.heap.size + 1, k, none⟩ = some (.int .i64 (numA (v :: t) k k)) := by
        rw [I.out.cell (i := k) (v := .int .i64 (numA (v :: t) k k))]
        have : k = 1 ∨ k = 2 ∨ k = 3 := by omega
        rcases this with rfl | rfl | rfl <;> rfl
      have I2 : Kp (InR w (nA (v :: t) (k + 1)) (wr.setCell ⟨w.heap.size + 1, k, none⟩ (.int .i64 r))) := ⟨by rw [← hset]; exact I.out.set k _⟩
      have hk5 : (k : Int) < 5 := by omega
      have hkp : (0 : Int) ≤ (k : Int) := by omega
      have hcs : (wr.setCell ⟨w.heap.size + 1, k, none⟩ (.int .i64 r)).cell? ⟨w.heap.size + 1, k, none⟩ = some (.int .i64 r) := by
        refine I2.out.cell ?_
        rw [← hset]
        rw [Array.getElem?_setIfInBounds_self_of_lt (show k < 5 by omega)]
      have hcell2 : (wr.setCell ⟨w.heap.size + 1, k, none⟩ (.int .i64 r)).cell? ⟨b, off + k, none⟩ = some (.string (bstr y)) := (HS.out.below I2.out.below).cellAt hy
      have HYD := Kp.mk hyd
      clear hyd hy hlk hr hset
      by_cases hk3 : k = 3
      · have qk : ((k : Int) == 3) = true := by simp; omega
        have HK3 := Kp.mk hk3
        clear hk3
        obtain ⟨pr, hpr⟩ : ∃ pr, pr = protR y := ⟨_, rfl⟩
        have HP := Kp.mk hpr
        clear hpr
        have HW := Kp.mk (show okw (v :: t) 1 k = (pr != 0) by
          unfold okw; rw [if_pos ⟨HK3.out, by omega⟩, HP.out, ← HYD.out, HK3.out])
        by_cases hp0 : pr = 0
        · have HE := Kp.mk (HBad.out (okAll_mono (k := k + 1) (by rw [okAll_step hk1, HK.out, HW.out, hp0]; rfl) 4 (by omega)))
          have qp : (pr == 0) = true := by simpa using hp0
          clear HBad HOk HK HW hp0
          go_wp2_with (first | (go_at_call 41; refine (NY.out _).mono ?_; rintro e w' ⟨rfl, rfl⟩) | (go_at_call 42; refine (prot42 y _).mono ?_; rintro e w' ⟨rfl, rfl⟩; rw [← HP.out]) | ((with_reducible refine gate_op (op := .store 36 (.tmp 2) (.tmp 65)) rfl ?_); go_must (refine wpList_store_row rfl 36 (.tmp 2) (.tmp 65) rfl w.heap.size _ rfl rfl 36 (c8 0 0 0 0 0 0 0 0) I2.out.r (by kernel_rfl) rfl (by simp [c8, Value.oneCell']) ?_)) | fail)
          exact bodyPost_ret (v := .tuple #[.agg (c8 0 0 0 0 0 0 0 0), .bool false]) (results_row_tmp rfl _ _ w.heap.size 36 _ (0, 0) _ _ rfl rfl (I2.out.fin _).1 Tryd.underlying36 rfl (by kernel_rfl)) rfl ⟨by rw [HE.out]; rfl, (I2.out.fin _).2⟩
        · have HK' := Kp.mk (show okAll (v :: t) 1 (k + 1) = true by rw [okAll_step hk1, HK.out, HW.out, Bool.true_and]; simpa using hp0)
          have HPV' := Kp.mk (show pr = if 3 < k + 1 then protR ((v :: t).getD 3 []) else 0 by rw [if_pos (by have := HK3.out; omega), HP.out, ← HYD.out, HK3.out])
          have qp : (pr == 0) = false := by simpa using hp0
          have qp2 : ¬ pr = 0 := hp0
          clear HBad HOk HK HW
          go_wp2_with (first | (go_at_call 41; refine (NY.out _).mono ?_; rintro e w' ⟨rfl, rfl⟩) | (go_at_call 42; refine (prot42 y _).mono ?_; rintro e w' ⟨rfl, rfl⟩; rw [← HP.out]) | fail)
          go_roundw
          case rel => exact ⟨k + 1, pr, by omega, by omega, rfl, by go_num, HK', I2, ⟨HPV'.out⟩⟩
          case measure => simp [intOf]; omega
      · have qk : ((k : Int) == 3) = false := by simp; omega
        have qk2 : ¬ (k : Int) = 3 := by omega
        have HPV' := Kp.mk (show pv = if 3 < k + 1 then protR ((v :: t).getD 3 []) else 0 by rw [HPV.out, if_neg (by omega), if_neg (by omega)])
        have hly := bstr_list y
        have HW := Kp.mk (show okw (v :: t) 1 k = (decide (0 ≤ r) || (k == 1 && y == [97, 110, 121])) by
          unfold okw; rw [if_neg (by rintro ⟨h, _⟩; exact hk3 h), HYD.out, ← HRr.out]
          by_cases h1 : k = 1
          · rw [h1] at HYD; rw [HYD.out]; simp
          · have h1b : (k == 1) = false := by simpa using h1
            simp [h1b])
        clear hk3
        by_cases hneg : r < 0
        · by_cases hk1' : k = 1
          · have q1 : ((k : Int) == 1) = true := by simp; omega
            by_cases hya : y = [97, 110, 121]
            · have q2 : ((bstr y).toList == [97, 110, 121]) = true := by rw [hly, hya]; rfl
              have HK' := Kp.mk (show okAll (v :: t) 1 (k + 1) = true by rw [okAll_step hk1, HK.out, HW.out, hk1', hya]; simp)
              clear HBad HOk HK HW hk1' hya hly
              go_wp2_with (first | (go_at_call 41; refine (NY.out _).mono ?_; rintro e w' ⟨rfl, rfl⟩) | fail)
              go_roundw
              case rel => exact ⟨k + 1, pv, by omega, by omega, rfl, by go_num, HK', I2, ⟨HPV'.out⟩⟩
              case measure => simp [intOf]; omega
            · have q2 : ((bstr y).toList == [97, 110, 121]) = false := by rw [hly]; simpa using hya
              have HE := Kp.mk (HBad.out (okAll_mono (k := k + 1) (by rw [okAll_step hk1, HK.out, HW.out]; simp [hya]; omega) 4 (by omega)))
              clear HBad HOk HK HW hk1' hya hly
              go_wp2_with (first | (go_at_call 41; refine (NY.out _).mono ?_; rintro e w' ⟨rfl, rfl⟩) | ((with_reducible refine gate_op (op := .store 36 (.tmp 2) (.tmp 86)) rfl ?_); go_must (refine wpList_store_row rfl 36 (.tmp 2) (.tmp 86) rfl w.heap.size _ rfl rfl 36 (c8 0 0 0 0 0 0 0 0) I2.out.r (by kernel_rfl) rfl (by simp [c8, Value.oneCell']) ?_)) | fail)
              exact bodyPost_ret (v := .tuple #[.agg (c8 0 0 0 0 0 0 0 0), .bool false]) (results_row_tmp rfl _ _ w.heap.size 36 _ (0, 0) _ _ rfl rfl (I2.out.fin _).1 Tryd.underlying36 rfl (by kernel_rfl)) rfl ⟨by rw [HE.out]; rfl, (I2.out.fin _).2⟩
          · have q1 : ((k : Int) == 1) = false := by simp; omega
            have q1' : ¬ (k : Int) = 1 := by omega
            have HE := Kp.mk (HBad.out (okAll_mono (k := k + 1) (by rw [okAll_step hk1, HK.out, HW.out]; simp [hk1']; omega) 4 (by omega)))
            clear HBad HOk HK HW hk1' hly
            go_wp2_with (first | (go_at_call 41; refine (NY.out _).mono ?_; rintro e w' ⟨rfl, rfl⟩) | ((with_reducible refine gate_op (op := .store 36 (.tmp 2) (.tmp 86)) rfl ?_); go_must (refine wpList_store_row rfl 36 (.tmp 2) (.tmp 86) rfl w.heap.size _ rfl rfl 36 (c8 0 0 0 0 0 0 0 0) I2.out.r (by kernel_rfl) rfl (by simp [c8, Value.oneCell']) ?_)) | fail)
            exact bodyPost_ret (v := .tuple #[.agg (c8 0 0 0 0 0 0 0 0), .bool false]) (results_row_tmp rfl _ _ w.heap.size 36 _ (0, 0) _ _ rfl rfl (I2.out.fin _).1 Tryd.underlying36 rfl (by kernel_rfl)) rfl ⟨by rw [HE.out]; rfl, (I2.out.fin _).2⟩
        · have HK' := Kp.mk (show okAll (v :: t) 1 (k + 1) = true by rw [okAll_step hk1, HK.out, HW.out, decide_eq_true (by omega)]; rfl)
          clear HBad HOk HK HW hly
          go_wp2_with (first | (go_at_call 41; refine (NY.out _).mono ?_; rintro e w' ⟨rfl, rfl⟩) | fail)
          go_roundw
          case rel => exact ⟨k + 1, pv, by omega, by omega, rfl, by go_num, HK', I2, ⟨HPV'.out⟩⟩
          case measure => simp [intOf]; omega
    · have hk4 : k = 4 := by omega
      have HE := Kp.mk (HOk.out (by rw [← hk4]; exact HK.out))
      have hc0 : wr.cell? ⟨b, off, none⟩ = some (.string (bstr v)) := (HS.out.below I.out.below).cellAt (j := 0) rfl
      have I : Kp (InR w (nA (v :: t) 4) wr) := ⟨by rw [← hk4]; exact I.out⟩
      have HPV : Kp (pv = protR ((v :: t).getD 3 [])) := ⟨by rw [HPV.out, if_pos (by omega)]⟩
      rw [← HPV.out] at HE
      clear HBad HOk HK
      rw [nA_vals] at I
      generalize numA (v :: t) 4 1 = a1 at I HE
      generalize numA (v :: t) 4 2 = a2 at I HE
      generalize numA (v :: t) 4 3 = a3 at I HE
      generalize numA (v :: t) 4 4 = a4 at I HE
      have BD := Kp.mk (fun W => build43 1 pv 0 a1 a2 a3 a4 v W ⟨by decide, by decide⟩)
      rw [show buildR 1 pv a1 a2 a3 a4 v = ⟨1, a1, a2, 0, 0, -1, pv, 0⟩ from rfl] at HE BD
      have hk4' : ¬ (k : Int) < 4 := by omega
      go_wp2_with fail
      have hbl : b < w.heap.size := block_lt_of_cell ((HS.out).cellAt (j := 0) rfl)
      have HBL := Kp.mk hbl
      clear hbl
      refine use_ops (ops' := r16) (by kernel_rfl) (instr_region16 1 pv 0 a1 a2 a3 a4 b off (m + 3) cap v 1 a1 a2 0 0 (-1) pv 0 rfl rfl rfl rfl rfl I.out hc0 HBL.out BD.out ?_)
      clear I hc0 BD
      intro g W hI hg hrow
      have I := Kp.mk hI
      have HG2 := Kp.mk hg
      have HRow := Kp.mk hrow
      clear hI hg hrow
      rw [r16_lay]
      simp only [Act.put, r16val, List.setIfInBounds_toArray, List.set_cons_zero, List.set_cons_succ]
      go_wp2_with fail
      have hmc := HL.out
      have OC := Kp.mk (fun W (hb : Below w.heap.size w W) => options44 1 a1 a2 0 0 (-1) pv (if cap = 4 then some ⟨b, off, none⟩ else some ⟨b, off + 4, none⟩) (cap - 4) ((v :: t).drop 4) W (strs_drop4 (HS.out.below hb) HC.out) (by have := HC.out; simp at this ⊢; omega) (by omega) (fun x hx => HG.out x (List.mem_of_mem_drop hx)))
      have hdl : ((v :: t).drop 4).length = m := by simp; omega
      rw [hdl] at OC
      generalize optR ⟨1, a1, a2, 0, 0, -1, pv, 0⟩ ((v :: t).drop 4) = Y at OC HE
      obtain ⟨⟨y0, y1, y2, y3, y4, y5, y6, y7⟩, q⟩ := Y
      refine use_ops (ops' := r18) (by kernel_rfl) (instr_region18 b off m cap g 1 a1 a2 0 0 (-1) pv 0 y0 y1 y2 y3 y4 y5 y6 y7 q rfl rfl rfl rfl rfl I.out.below (by have := HG2.out; omega) HRow.out I.out.r (by have := HC.out; simp at this; omega) hcap2 (fun W hb => OC.out W hb) ?_)
      clear I HRow OC
      intro W hb hrow
      have HB := Kp.mk hb
      have HRow := Kp.mk hrow
      clear hb hrow
      rw [r18_lay]
      simp only [Act.put, r18val, List.setIfInBounds_toArray, List.set_cons_zero, List.set_cons_succ]
      go_wp2_with fail
      all_goals exact bodyPost_ret (v := .tuple #[.agg (c8 y0 y1 y2 y3 y4 y5 y6 y7), .bool q]) (results_row_tmp rfl _ _ w.heap.size 36 _ (0, 0) _ _ rfl rfl HRow.out Tryd.underlying36 rfl (by kernel_rfl)) rfl ⟨by rw [HE.out]; rfl, HB.out⟩
end Go.Proofs.YtiomnlgnhdhffaaDoor
