/-
  The contract of watermark.Allowed, for every input. Conditions: none but what each theorem names.
-/
import Derived.Test.YtmomcelnfljnmaaE
namespace Go.Proofs.Ytmomcelnfljnmaa
open Go.RowKit
set_option linter.unusedVariables false

theorem idx77k (l : List Int) {k : Nat} (hk : k < 5) : ∀ w, (Instr.index 77 (.agg #[.int .i64 (g5 l 0), .int .i64 (g5 l 1), .int .i64 (g5 l 2), .int .i64 (g5 l 3), .int .i64 (g5 l 4)]) (.int .i64 k)).run Try.prog w = .ok (.int .i64 (g5 l k)) w := by
  obtain ⟨h0, h1, h2, h3, h4⟩ := idx77 (g5 l 0) (g5 l 1) (g5 l 2) (g5 l 3) (g5 l 4)
  have : k = 0 ∨ k = 1 ∨ k = 2 ∨ k = 3 ∨ k = 4 := by omega
  rcases this with rfl | rfl | rfl | rfl | rfl
  · exact h0
  · exact h1
  · exact h2
  · exact h3
  · exact h4

theorem g5_cell (l : List Int) {k : Nat} (hk : k < 5) : (#[.int .i64 (g5 l 0), .int .i64 (g5 l 1), .int .i64 (g5 l 2), .int .i64 (g5 l 3), .int .i64 (g5 l 4)] : Array Value)[k]? = some (.int .i64 (g5 l k)) := by
  have : k = 0 ∨ k = 1 ∨ k = 2 ∨ k = 3 ∨ k = 4 := by omega
  rcases this with rfl | rfl | rfl | rfl | rfl <;> rfl
def blk (l : List Int) (n k : Nat) : Bool := (List.range k).any fun i => decide (n ≤ i) && decide (0 < g5 l i)
theorem blk_succ (l : List Int) (n k : Nat) : blk l n (k + 1) = (blk l n k || (decide (n ≤ k) && decide (0 < g5 l k))) := by
  simp [blk, List.range_succ]
theorem blk_abv {l : List Int} (h : ok5 l = true) {n : Nat} (hn : n ≤ 4) : blk l n 5 = !(abv l n == 0) := by
  have key : ∀ d k, k + d = 5 → n ≤ k → ((List.range d).any fun i => decide (0 < g5 l (k + i))) = !(abv l k == 0) := by
    intro d
    induction d with
    | zero => intro k hk _; rw [abv5 l (by omega)]; rfl
    | succ d ih =>
      intro k hk hnk
      have a := sh_bd h (show k < 5 by omega)
      have g := g5_bd h (show k < 5 by omega)
      have b := abv_bd h (k + 1)
      have s := abv_step l (show k < 5 by omega)
      have i := ih (k + 1) (by omega) (by omega)
      rw [List.range_succ_eq_map]
      simp only [List.any_cons, List.any_map, Nat.add_zero, Function.comp_def]
      have e : ((List.range d).any fun x => decide (0 < g5 l (k + x.succ))) = !(abv l (k + 1) == 0) := by
        rw [← i]; congr 1; funext x; rw [show k + x.succ = k + 1 + x by omega]
      rw [e]
      have z : (0 < g5 l k) ↔ 0 < g5 l k * 2 ^ k := by
        have : k = 0 ∨ k = 1 ∨ k = 2 ∨ k = 3 ∨ k = 4 := by omega
        rcases this with rfl | rfl | rfl | rfl | rfl <;> simp only [Int.reducePow] <;> omega
      rw [Bool.eq_iff_iff]
      simp only [Bool.or_eq_true, decide_eq_true_eq, Bool.not_eq_true', beq_eq_false_iff_ne]
      rw [z, s]
      omega
  rw [← key (5 - n) n (by omega) (Nat.le_refl _)]
  unfold blk
  have : n = 0 ∨ n = 1 ∨ n = 2 ∨ n = 3 ∨ n = 4 := by omega
  rcases this with rfl | rfl | rfl | rfl | rfl <;> simp [List.range_succ_eq_map]

set_option maxRecDepth 100000 in
set_option maxHeartbeats 2000000 in
theorem allowed21_main (A : Option Addr) (l : List Int) (cap : Nat) (a b c x : Int) (n : Nat) (f : Int) (w : World) (HL : Kp (IntsAt w A l)) (hcap : l.length ≤ cap) (HF : Kp (f = flr a b c x)) (bd : -1 ≤ f ∧ f ≤ 4096)
    (f0 : ¬ f < 0) (hd : decide (f < 0) = false) (h5 : ok5 l = true) (hd2 : decide ((n : Int) < 0) = false) (HE : Kp (alw l a b c n x = alwd l f n)) (hn : n ≤ 4)
    (p0 : (1 : Int) ≤ 2 ^ n ∧ (2 : Int) ^ n ≤ 16) (b0 : 0 ≤ abv l 0 ∧ abv l 0 ≤ 327680) :
    Calls Try.prog 21 #[.slice A l.length cap, .agg #[.int .i64 a, .int .i64 b, .int .i64 c], .int .i64 n, .int .i64 x] w fun e w' => e = .returned (.bool (alw l a b c n x)) ∧ Below w.heap.size w w' := by
  have hV : cellsV l = .tuple #[.agg #[.int .i64 (g5 l 0), .int .i64 (g5 l 1), .int .i64 (g5 l 2), .int .i64 (g5 l 3), .int .i64 (g5 l 4)], .bool true] := by rw [cellsV, h5]; rfl
  have HV := Kp.mk hV
  clear hV
  go_enter Try.func21, Try.ntmps21
  go_wp2_with (first | (go_at_call 17; with_reducible refine (floor17 a b c x _).mono ?_; rintro e w' ⟨rfl, hb⟩; rw [← HF.out]; have HB := Kp.mk (((Below.refl w.heap.size w).alloc (Nat.le_refl _) _).trans (hb.mono (by simp))); clear hb) | (go_at_call 41; refine (cells41 _ _ _ _ (HL.out.below HB.out) hcap).mono ?_; rintro e w2 ⟨rfl, hb⟩; rw [HV.out]; have HB2 := Kp.mk (HB.out.trans (hb.mono HB.out.size)); clear hb))
  go_loop [12, 13, 43] (fun v b i => ∃ k : Nat, k ≤ 5 ∧ i = .int .i64 k ∧ b = .bool (blk l n k) ∧ v = .int .i64 (abv l 0 - abv l k - 2 ^ n)) (fun _ _ i => 5 - (intOf i).toNat)
  case atStart => exact ⟨0, by omega, rfl, rfl, by simp⟩
  case round =>
    obtain ⟨k, hk, rfl, rfl, rfl⟩ := hrel
    by_cases hlt : k < 5
    · have ix := idx77k l hlt
      have sb := sh_bd h5 hlt
      have ab := abv_bd h5 k
      have st := Kp.mk (abv_step l hlt)
      cases hb : blk l n k
      · by_cases hge : n ≤ k
        · by_cases hgt : 0 < g5 l k
          · have HB' := Kp.mk (show blk l n (k + 1) = true by rw [blk_succ, hb]; simp [hge, hgt])
            go_wp2
            go_round
            case rel => exact ⟨k + 1, by omega, by go_num, by rw [HB'.out], by have := st.out; go_num⟩
            case measure => simp [intOf]; omega
          · have HB' := Kp.mk (show blk l n (k + 1) = false by rw [blk_succ, hb]; simp [hgt])
            go_wp2
            go_round
            case rel => exact ⟨k + 1, by omega, by go_num, by rw [HB'.out], by have := st.out; go_num⟩
            case measure => simp [intOf]; omega
        · have HB' := Kp.mk (show blk l n (k + 1) = false by rw [blk_succ, hb]; simp [hge])
          go_wp2
          go_round
          case rel => exact ⟨k + 1, by omega, by go_num, by rw [HB'.out], by have := st.out; go_num⟩
          case measure => simp [intOf]; omega
      · have HB' := Kp.mk (show blk l n (k + 1) = true by rw [blk_succ, hb]; rfl)
        go_wp2
        go_round
        case rel => exact ⟨k + 1, by omega, by go_num, by rw [HB'.out], by have := st.out; go_num⟩
        case measure => simp [intOf]; omega
    · obtain rfl : k = 5 := by omega
      have hbk := blk_abv h5 hn
      have a5 := abv5 l (Nat.le_refl 5)
      have bn := abv_bd h5 n
      rw [a5, hbk]
      clear hbk a5
      by_cases c1 : abv l 0 - 2 ^ n < f
      · have HE' := Kp.mk (show alw l a b c n x = false by rw [HE.out, alwd]; simp [c1])
        clear HE
        have c1' : abv l 0 - 0 - 2 ^ n < f := by omega
        go_wp2
        go_ret
        exact ⟨by rw [HE'.out]; rfl, HB2.out.alloc (HB2.out.size) _⟩
      · have c1' : ¬ abv l 0 - 0 - 2 ^ n < f := by omega
        cases c2 : (abv l n == 0)
        · have HE' := Kp.mk (show alw l a b c n x = (List.range n).all fun k => decide (f / 2 ^ (k + 1) ≤ abv l (k + 1) - 2 ^ n) by rw [HE.out, alwd]; simp [c1, c2])
          clear HE c2
          go_wp2
          go_loop [12, 71] (fun v i => ∃ k : Nat, k ≤ n ∧ i = .int .i64 k ∧ v = .int .i64 (abv l k - 2 ^ n) ∧ Kp (alw l a b c n x = (List.range (n - k)).all fun i => decide (f / 2 ^ (k + i + 1) ≤ abv l (k + i + 1) - 2 ^ n))) (fun _ i => n - (intOf i).toNat)
          case atStart => exact ⟨0, by omega, rfl, rfl, ⟨by rw [HE'.out]; simp⟩⟩
          case round =>
            obtain ⟨k, hk, rfl, rfl, HK⟩ := hrel
            by_cases hlt : k < n
            · have hcell := g5_cell l (show k < 5 by omega)
              have sb := sh_bd h5 (show k < 5 by omega)
              have ab := abv_bd h5 k
              have bk := abv_bd h5 (k + 1)
              have st := Kp.mk (abv_step l (show k < 5 by omega))
              have fk : 0 ≤ f / 2 ^ (k + 1) := Int.ediv_nonneg (by omega) (Int.pow_nonneg (by omega))
              by_cases c3 : abv l (k + 1) - 2 ^ n < f / 2 ^ (k + 1)
              · have HE'' := Kp.mk (show alw l a b c n x = false by
                  rw [HK.out]
                  obtain ⟨d, hd⟩ : ∃ d, n - k = d + 1 := ⟨n - k - 1, by omega⟩
                  rw [hd, List.range_succ_eq_map]
                  have c3' : ¬ (f / 2 ^ (k + 1) ≤ abv l (k + 1) - 2 ^ n) := by omega
                  simp [c3'])
                have c4 : abv l k - 2 ^ n - g5 l k * 2 ^ k < f / 2 ^ (k + 1) := by have := st.out; omega
                go_wp2
                go_ret
                exact ⟨by rw [HE''.out]; rfl, HB2.out.alloc (HB2.out.size) _⟩
              · have HE'' := Kp.mk (show alw l a b c n x = (List.range (n - (k + 1))).all fun i => decide (f / 2 ^ (k + 1 + i + 1) ≤ abv l (k + 1 + i + 1) - 2 ^ n) by
                  rw [HK.out]
                  obtain ⟨d, hd⟩ : ∃ d, n - k = d + 1 := ⟨n - k - 1, by omega⟩
                  have hd' : n - (k + 1) = d := by omega
                  have c3' : f / 2 ^ (k + 1) ≤ abv l (k + 1) - 2 ^ n := by omega
                  rw [hd, hd', List.range_succ_eq_map]
                  simp only [List.all_cons, List.all_map, Nat.add_zero, c3', decide_true, Bool.true_and, Function.comp_def]
                  congr 1
                  funext i
                  rw [show k + i.succ + 1 = k + 1 + i + 1 by omega])
                have c4 : ¬ abv l k - 2 ^ n - g5 l k * 2 ^ k < f / 2 ^ (k + 1) := by have := st.out; omega
                clear HK
                go_wp2
                go_round
                case rel => exact ⟨k + 1, by omega, by go_num, by have := st.out; go_num, HE''⟩
                case measure => simp [intOf]; omega
            · have HE'' := Kp.mk (show alw l a b c n x = true by rw [HK.out, Nat.sub_eq_zero_of_le (by omega)]; rfl)
              go_wp2
              go_ret
              exact ⟨by rw [HE''.out]; rfl, HB2.out.alloc (HB2.out.size) _⟩
        · have HE' := Kp.mk (show alw l a b c n x = false by rw [HE.out, alwd]; simp [c2])
          clear HE c2
          go_wp2
          go_ret
          exact ⟨by rw [HE'.out]; rfl, HB2.out.alloc (HB2.out.size) _⟩

set_option maxRecDepth 100000 in
set_option maxHeartbeats 1000000 in
theorem allowed21 (A : Option Addr) (l : List Int) (cap : Nat) (a b c o x : Int) (w : World) (hl : IntsAt w A l) (hcap : l.length ≤ cap) :
    Calls Try.prog 21 #[.slice A l.length cap, marksV a b c, .int .i64 o, .int .i64 x] w fun e w' => e = .returned (.bool (alw l a b c o x)) ∧ Below w.heap.size w w' := by
  have HL := Kp.mk hl
  clear hl
  obtain ⟨f, hf⟩ : ∃ f, f = flr a b c x := ⟨_, rfl⟩
  have HF := Kp.mk hf
  have bd := flr_bd a b c x
  rw [← hf] at bd
  clear hf
  unfold marksV
  have HV := Kp.mk (show cellsV l = .tuple #[.agg #[.int .i64 (g5 l 0), .int .i64 (g5 l 1), .int .i64 (g5 l 2), .int .i64 (g5 l 3), .int .i64 (g5 l 4)], .bool (ok5 l)] from rfl)
  by_cases f0 : f < 0
  · have HE := Kp.mk (show alw l a b c o x = false by simp [alw, ← HF.out, f0])
    have hd : decide (f < 0) = true := by simpa using f0
    go_enter Try.func21, Try.ntmps21
    go_wp2_with (first | (go_at_call 17; with_reducible refine (floor17 a b c x _).mono ?_; rintro e w' ⟨rfl, hb⟩; rw [← HF.out]; have HB := Kp.mk (((Below.refl w.heap.size w).alloc (Nat.le_refl _) _).trans (hb.mono (by simp))); clear hb) | (go_at_call 41; refine (cells41 _ _ _ _ (HL.out.below HB.out) hcap).mono ?_; rintro e w2 ⟨rfl, hb⟩; rw [HV.out]; have HB2 := Kp.mk (HB.out.trans (hb.mono HB.out.size)); clear hb))
    go_ret
    exact ⟨by rw [HE.out]; rfl, HB2.out.alloc (HB2.out.size) _⟩
  · have hd : decide (f < 0) = false := by simpa using f0
    cases h5 : ok5 l
    · rw [h5] at HV
      have HE := Kp.mk (show alw l a b c o x = false by simp [alw, h5])
      go_enter Try.func21, Try.ntmps21
      go_wp2_with (first | (go_at_call 17; with_reducible refine (floor17 a b c x _).mono ?_; rintro e w' ⟨rfl, hb⟩; rw [← HF.out]; have HB := Kp.mk (((Below.refl w.heap.size w).alloc (Nat.le_refl _) _).trans (hb.mono (by simp))); clear hb) | (go_at_call 41; refine (cells41 _ _ _ _ (HL.out.below HB.out) hcap).mono ?_; rintro e w2 ⟨rfl, hb⟩; rw [HV.out]; have HB2 := Kp.mk (HB.out.trans (hb.mono HB.out.size)); clear hb))
      go_ret
      exact ⟨by rw [HE.out]; rfl, HB2.out.alloc (HB2.out.size) _⟩
    · rw [h5] at HV
      by_cases o0 : o < 0
      · have HE := Kp.mk (show alw l a b c o x = false by simp [alw, o0])
        have hd2 : decide (o < 0) = true := by simpa using o0
        go_enter Try.func21, Try.ntmps21
        go_wp2_with (first | (go_at_call 17; with_reducible refine (floor17 a b c x _).mono ?_; rintro e w' ⟨rfl, hb⟩; rw [← HF.out]; have HB := Kp.mk (((Below.refl w.heap.size w).alloc (Nat.le_refl _) _).trans (hb.mono (by simp))); clear hb) | (go_at_call 41; refine (cells41 _ _ _ _ (HL.out.below HB.out) hcap).mono ?_; rintro e w2 ⟨rfl, hb⟩; rw [HV.out]; have HB2 := Kp.mk (HB.out.trans (hb.mono HB.out.size)); clear hb))
        go_ret
        exact ⟨by rw [HE.out]; rfl, HB2.out.alloc (HB2.out.size) _⟩
      · have hd2 : decide (o < 0) = false := by simpa using o0
        by_cases o4 : 4 < o
        · have HE := Kp.mk (show alw l a b c o x = false by simp [alw, o4])
          go_enter Try.func21, Try.ntmps21
          go_wp2_with (first | (go_at_call 17; with_reducible refine (floor17 a b c x _).mono ?_; rintro e w' ⟨rfl, hb⟩; rw [← HF.out]; have HB := Kp.mk (((Below.refl w.heap.size w).alloc (Nat.le_refl _) _).trans (hb.mono (by simp))); clear hb) | (go_at_call 41; refine (cells41 _ _ _ _ (HL.out.below HB.out) hcap).mono ?_; rintro e w2 ⟨rfl, hb⟩; rw [HV.out]; have HB2 := Kp.mk (HB.out.trans (hb.mono HB.out.size)); clear hb))
          go_ret
          exact ⟨by rw [HE.out]; rfl, HB2.out.alloc (HB2.out.size) _⟩
        · obtain ⟨n, rfl⟩ := Int.eq_ofNat_of_zero_le (show 0 ≤ o by omega)
          have HE := Kp.mk (show alw l a b c n x = alwd l f n by simp [alw, h5, f0, o4, ← HF.out])
          have hn : n ≤ 4 := by omega
          have p0 : (1 : Int) ≤ 2 ^ n ∧ (2 : Int) ^ n ≤ 16 := by
            have : n = 0 ∨ n = 1 ∨ n = 2 ∨ n = 3 ∨ n = 4 := by omega
            rcases this with rfl | rfl | rfl | rfl | rfl <;> simp
          exact allowed21_main A l cap a b c x n f w HL hcap HF bd f0 hd h5 hd2 HE hn p0 (abv_bd h5 0)

end Go.Proofs.Ytmomcelnfljnmaa
