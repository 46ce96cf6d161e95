/-
  The contract of the reference's Allowed, for every input. Conditions: none but what each theorem names.
-/
import Derived.Test.YtmomcelnfljnmaaD
namespace Go.Proofs.Ytmomcelnfljnmaa
open Go.RowKit
set_option linter.unusedVariables false

set_option maxRecDepth 100000 in
set_option maxHeartbeats 2000000 in
theorem allowed22_main (A : Option Addr) (l : List Int) (cap : Nat) (a b c x : Int) (n : Nat) (f : Int) (w : World) (HL : Kp (IntsAt w A l)) (HF : Kp (f = flr a b c x)) (bd : -1 ≤ f ∧ f ≤ 4096)
    (f0 : ¬ f < 0) (hd : decide (f < 0) = false) (h5 : ok5 l = true) (hd2 : decide ((n : Int) < 0) = false) (HE : Kp (alw l a b c n x = alwd l f n)) (hn : n ≤ 4)
    (p0 : (1 : Int) ≤ 2 ^ n ∧ (2 : Int) ^ n ≤ 16) (b0 : 0 ≤ abv l 0 ∧ abv l 0 ≤ 327680) (bn : 0 ≤ abv l n ∧ abv l n ≤ 327680) :
    Calls Try.prog 22 #[.slice A l.length cap, .agg #[.int .i64 a, .int .i64 b, .int .i64 c], .int .i64 n, .int .i64 x] w fun e w' => e = .returned (.bool (alw l a b c n x)) ∧ Below w.heap.size w w' := by
  go_enter Try.func22, Try.ntmps22
  go_wp2_with (first | (go_at_call 18; refine (floor18 a b c x _).mono ?_; rintro e w' ⟨rfl, hb⟩; rw [← HF.out]; have HB := Kp.mk (((Below.refl w.heap.size w).alloc (Nat.le_refl _) _).trans (hb.mono (by simp))); clear hb) | (go_at_call 42; refine (valid42 _ _ _ _ (HL.out.below HB.out)).mono ?_; rintro e w' ⟨rfl, rfl⟩))
  have HW := Kp.mk (HL.out.below HB.out)
  have q0 : ∀ m, Calls Try.prog 43 #[.slice A l.length cap, .int .i64 0] (w'.drewN m) fun e w'' => e = .returned (.int .i64 (abv l 0)) ∧ w'' = w'.drewN m := fun m => (above43 A l cap 0 _ (HW.out.drewN m) h5 (by omega)).mono fun _ _ ⟨h1, h2⟩ => ⟨h1, h2.symm⟩
  have qn : ∀ m, Calls Try.prog 43 #[.slice A l.length cap, .int .i64 n] (w'.drewN m) fun e w'' => e = .returned (.int .i64 (abv l n)) ∧ w'' = w'.drewN m := fun m => (above43 A l cap n _ (HW.out.drewN m) h5 (by omega)).mono fun _ _ ⟨h1, h2⟩ => ⟨h1, h2.symm⟩
  have Q0 := Kp.mk q0
  have Qn := Kp.mk qn
  clear q0 qn
  by_cases c1 : abv l 0 - 2 ^ n < f
  · have d1 : decide (abv l 0 - 2 ^ n < f) = true := by simpa using c1
    go_quiet ((go_at_call 43; first | (with_reducible exact Calls.quiet_of_same (Q0.out _)) | (with_reducible exact Calls.quiet_of_same (Qn.out _))))
    go_wp2
    go_ret
    exact ⟨by rw [HE.out, alwd]; simp [c1], below_drewN HB.out _⟩
  · have d1 : decide (abv l 0 - 2 ^ n < f) = false := by simpa using c1
    by_cases c2 : abv l n = 0
    · have d2 : (abv l n == 0) = true := by simpa using c2
      have HE' := Kp.mk (show alw l a b c n x = false by rw [HE.out, alwd]; simp [c2])
      clear c2 HE
      go_quiet ((go_at_call 43; first | (with_reducible exact Calls.quiet_of_same (Q0.out _)) | (with_reducible exact Calls.quiet_of_same (Qn.out _))))
      go_wp2
      go_ret
      exact ⟨by rw [HE'.out]; rfl, below_drewN HB.out _⟩
    · have d2 : (abv l n == 0) = false := by simpa using c2
      have HE' := Kp.mk (show alw l a b c n x = (List.range n).all fun k => decide (f / 2 ^ (k + 1) ≤ abv l (k + 1) - 2 ^ n) by rw [HE.out, alwd]; simp [c1, c2])
      clear c2 HE
      go_quiet ((go_at_call 43; first | (with_reducible exact Calls.quiet_of_same (Q0.out _)) | (with_reducible exact Calls.quiet_of_same (Qn.out _))))
      clear Q0 Qn
      go_wp2
      go_loopw [10] (fun i wr => ∃ k : Nat, k ≤ n ∧ i = .int .i64 k ∧ Kp (IntsAt wr A l) ∧ Kp (Below w.heap.size w wr) ∧ Kp (alw l a b c n x = (List.range (n - k)).all fun i => decide (f / 2 ^ (k + i + 1) ≤ abv l (k + i + 1) - 2 ^ n))) (fun i _ => n - (intOf i).toNat)
      case atStart => exact ⟨0, by omega, rfl, ⟨HW.out.drewN _⟩, ⟨below_drewN HB.out _⟩, ⟨by rw [HE'.out]; simp⟩⟩
      case round =>
        clear HW HB
        obtain ⟨k, hk, rfl, HW, HB, HK⟩ := hrel
        by_cases hlt : k < n
        · have Qk := Kp.mk (fun m => (above43 A l cap (k + 1) _ (HW.out.drewN m) h5 (by omega)).mono fun _ _ ⟨h1, h2⟩ => (⟨h1, h2.symm⟩ : _ ∧ _))
          rw [show (((k + 1 : Nat) : Int)) = (k : Int) + 1 by omega] at Qk
          have bk := abv_bd h5 (k + 1)
          have fk : 0 ≤ f / 2 ^ (k + 1) := Int.ediv_nonneg (by omega) (Int.pow_nonneg (by omega))
          go_wp2
          have t1 : IntKind.i64.wrap ((k : Int) + 1) = (k : Int) + 1 := IntWalk.i64_in _ (by omega)
          have t2 : 0 ≤ (k : Int) + 1 := by omega
          have t3 : ((k : Int) + 1).toNat = k + 1 := by omega
          by_cases c3 : abv l (k + 1) - 2 ^ n < f / 2 ^ (k + 1)
          · have d3 : decide (abv l (k + 1) - 2 ^ n < f / 2 ^ (k + 1)) = true := by simpa using c3
            have HE'' := Kp.mk (show alw l a b c n x = false by
              rw [HK.out]
              obtain ⟨d, hd⟩ : ∃ d, n - k = d + 1 := ⟨n - k - 1, by omega⟩
              rw [hd, List.range_succ_eq_map]
              have c3' : ¬ (f / 2 ^ (k + 1) ≤ abv l (k + 1) - 2 ^ n) := by omega
              simp [c3'])
            go_quiet ((go_at_call 43; with_reducible exact Calls.quiet_of_same (Qk.out _)))
            clear t1 t2 t3
            go_wp2
            go_ret
            exact ⟨by rw [HE''.out]; rfl, below_drewN HB.out _⟩
          · have d3 : decide (abv l (k + 1) - 2 ^ n < f / 2 ^ (k + 1)) = false := by simpa using c3
            have HE'' := Kp.mk (show alw l a b c n x = (List.range (n - (k + 1))).all fun i => decide (f / 2 ^ (k + 1 + i + 1) ≤ abv l (k + 1 + i + 1) - 2 ^ n) by
              rw [HK.out]
              obtain ⟨d, hd⟩ : ∃ d, n - k = d + 1 := ⟨n - k - 1, by omega⟩
              have hd' : n - (k + 1) = d := by omega
              have c3' : f / 2 ^ (k + 1) ≤ abv l (k + 1) - 2 ^ n := by omega
              rw [hd, hd', List.range_succ_eq_map]
              simp only [List.all_cons, List.all_map, Nat.add_zero, c3', decide_true, Bool.true_and, Function.comp_def]
              congr 1
              funext i
              rw [show k + i.succ + 1 = k + 1 + i + 1 by omega])
            clear HK
            go_quiet ((go_at_call 43; with_reducible exact Calls.quiet_of_same (Qk.out _)))
            clear t1 t2 t3
            go_wp2
            go_roundw
            case rel => exact ⟨k + 1, by omega, by go_num, ⟨HW.out.drewN _⟩, ⟨below_drewN HB.out _⟩, HE''⟩
            case measure => simp [intOf]; omega
        · have HE'' := Kp.mk (show alw l a b c n x = true by rw [HK.out, Nat.sub_eq_zero_of_le (by omega)]; rfl)
          go_wp2
          go_ret
          exact ⟨by rw [HE''.out]; rfl, HB.out⟩

set_option maxRecDepth 100000 in
set_option maxHeartbeats 1000000 in
theorem allowed22 (A : Option Addr) (l : List Int) (cap : Nat) (a b c o x : Int) (w : World) (hl : IntsAt w A l) :
    Calls Try.prog 22 #[.slice A l.length cap, marksV a b c, .int .i64 o, .int .i64 x] w fun e w' => e = .returned (.bool (alw l a b c o x)) ∧ Below w.heap.size w w' := by
  have HL := Kp.mk hl
  clear hl
  obtain ⟨f, hf⟩ : ∃ f, f = flr a b c x := ⟨_, rfl⟩
  have HF := Kp.mk hf
  have bd := flr_bd a b c x
  rw [← hf] at bd
  clear hf
  unfold marksV
  by_cases f0 : f < 0
  · have HE := Kp.mk (show alw l a b c o x = false by simp [alw, ← HF.out, f0])
    have hd : decide (f < 0) = true := by simpa using f0
    go_enter Try.func22, Try.ntmps22
    go_wp2_with (first | (go_at_call 18; refine (floor18 a b c x _).mono ?_; rintro e w' ⟨rfl, hb⟩; rw [← HF.out]))
    go_ret
    exact ⟨by rw [HE.out]; rfl, ((Below.refl _ _).alloc (Nat.le_refl _) _).trans (hb.mono (by simp))⟩
  · have hd : decide (f < 0) = false := by simpa using f0
    cases h5 : ok5 l
    · have HE := Kp.mk (show alw l a b c o x = false by simp [alw, h5])
      go_enter Try.func22, Try.ntmps22
      go_wp2_with (first | (go_at_call 18; refine (floor18 a b c x _).mono ?_; rintro e w' ⟨rfl, hb⟩; rw [← HF.out]; have HB := Kp.mk (((Below.refl w.heap.size w).alloc (Nat.le_refl _) _).trans (hb.mono (by simp))); clear hb) | (go_at_call 42; refine (valid42 _ _ _ _ (HL.out.below HB.out)).mono ?_; rintro e w' ⟨rfl, rfl⟩))
      go_ret
      exact ⟨by rw [HE.out]; rfl, HB.out⟩
    · by_cases o0 : o < 0
      · have HE := Kp.mk (show alw l a b c o x = false by simp [alw, o0])
        have hd2 : decide (o < 0) = true := by simpa using o0
        go_enter Try.func22, Try.ntmps22
        go_wp2_with (first | (go_at_call 18; refine (floor18 a b c x _).mono ?_; rintro e w' ⟨rfl, hb⟩; rw [← HF.out]; have HB := Kp.mk (((Below.refl w.heap.size w).alloc (Nat.le_refl _) _).trans (hb.mono (by simp))); clear hb) | (go_at_call 42; refine (valid42 _ _ _ _ (HL.out.below HB.out)).mono ?_; rintro e w' ⟨rfl, rfl⟩))
        go_ret
        exact ⟨by rw [HE.out]; rfl, HB.out⟩
      · have hd2 : decide (o < 0) = false := by simpa using o0
        by_cases o4 : 4 < o
        · have HE := Kp.mk (show alw l a b c o x = false by simp [alw, o4])
          go_enter Try.func22, Try.ntmps22
          go_wp2_with (first | (go_at_call 18; refine (floor18 a b c x _).mono ?_; rintro e w' ⟨rfl, hb⟩; rw [← HF.out]; have HB := Kp.mk (((Below.refl w.heap.size w).alloc (Nat.le_refl _) _).trans (hb.mono (by simp))); clear hb) | (go_at_call 42; refine (valid42 _ _ _ _ (HL.out.below HB.out)).mono ?_; rintro e w' ⟨rfl, rfl⟩))
          go_ret
          exact ⟨by rw [HE.out]; rfl, HB.out⟩
        · obtain ⟨n, rfl⟩ := Int.eq_ofNat_of_zero_le (show 0 ≤ o by omega)
          have HE := Kp.mk (show alw l a b c n x = alwd l f n by simp [alw, h5, f0, o4, ← HF.out])
          have hn : n ≤ 4 := by omega
          have p0 : (1 : Int) ≤ 2 ^ n ∧ (2 : Int) ^ n ≤ 16 := by
            have : n = 0 ∨ n = 1 ∨ n = 2 ∨ n = 3 ∨ n = 4 := by omega
            rcases this with rfl | rfl | rfl | rfl | rfl <;> simp
          have b0 := abv_bd h5 0
          have bn := abv_bd h5 n
          exact allowed22_main A l cap a b c x n f w HL HF bd f0 hd h5 hd2 HE hn p0 b0 bn

end Go.Proofs.Ytmomcelnfljnmaa
