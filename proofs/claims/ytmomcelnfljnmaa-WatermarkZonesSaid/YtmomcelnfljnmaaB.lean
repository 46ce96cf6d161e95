/-
  Contracts of watermark.Levels, Floor, Wake and their references, for every input. Conditions: none but what each theorem names.
-/
import Derived.Test.YtmomcelnfljnmaaA
namespace Go.Proofs.Ytmomcelnfljnmaa
open Go.RowKit
set_option linter.unusedVariables false

def lvl (c m : Int) : Int × Int × Int × Int :=
  if !(inB c) || decide (m < 0) || decide (c < m) then (0, 0, 0, 2) else
  (m, if c < m + (m + 3) / 4 then c else m + (m + 3) / 4, if c < m + (m + 1) / 2 then c else m + (m + 1) / 2, 0)
abbrev marksV (a b c : Int) : Value := .agg #[.int .i64 a, .int .i64 b, .int .i64 c]
def lvlV (c m : Int) : Value := .tuple #[marksV (lvl c m).1 (lvl c m).2.1 (lvl c m).2.2.1, .int .i64 (lvl c m).2.2.2]
def flr (a b c x : Int) : Int := if chk a b c ≠ 0 then -1 else if x = 0 then a else if x = 1 then a / 2 else if x = 2 then 0 else -1
def wak (a b c n : Int) (r : Bool) : Bool := chk a b c == 0 && (decide (n < b) || r && decide (n < c))
theorem inB_true {n : Int} (h : inB n = true) : 0 ≤ n ∧ n ≤ 4096 := by simpa [inB] using h
theorem inB_false {n : Int} (h : inB n = false) : n < 0 ∨ 4096 < n := by simp [inB] at h; omega

set_option maxHeartbeats 400000 in
theorem levels13 (c m : Int) (w : World) : Calls Try.prog 13 #[.int .i64 c, .int .i64 m] w fun e w' => e = .returned (lvlV c m) ∧ Below w.heap.size w w' := by
  cases h1 : inB c
  · have e0 := Kp.mk (show lvlV c m = .tuple #[.agg #[.int .i64 0, .int .i64 0, .int .i64 0], .int .i64 2] by simp [lvlV, lvl, h1, marksV])
    go_enter Try.func13, Try.ntmps13
    go_wp2_with (go_at_call 39; refine (in39 _ _).mono ?_; rintro e w' ⟨rfl, rfl⟩)
    all_goals exact bodyPost_ret (v := lvlV c m) (by rw [e0.out]; simp [results, Try.results13, go_sem]) rfl ⟨rfl, by repeat (first | exact Below.refl _ _ | refine Below.setCell ?_ (by simp) _ | refine Below.alloc ?_ (by simp) _)⟩
  · obtain ⟨h0, h9⟩ := inB_true h1
    by_cases h2 : m < 0
    · have e0 := Kp.mk (show lvlV c m = .tuple #[.agg #[.int .i64 0, .int .i64 0, .int .i64 0], .int .i64 2] by simp [lvlV, lvl, h1, h2, marksV])
      go_enter Try.func13, Try.ntmps13
      go_wp2_with (go_at_call 39; refine (in39 _ _).mono ?_; rintro e w' ⟨rfl, rfl⟩)
      all_goals exact bodyPost_ret (v := lvlV c m) (by rw [e0.out]; simp [results, Try.results13, go_sem]) rfl ⟨rfl, by repeat (first | exact Below.refl _ _ | refine Below.setCell ?_ (by simp) _ | refine Below.alloc ?_ (by simp) _)⟩
    · by_cases h3 : c < m
      · have e0 := Kp.mk (show lvlV c m = .tuple #[.agg #[.int .i64 0, .int .i64 0, .int .i64 0], .int .i64 2] by simp [lvlV, lvl, h1, h2, h3, marksV])
        go_enter Try.func13, Try.ntmps13
        go_wp2_with (go_at_call 39; refine (in39 _ _).mono ?_; rintro e w' ⟨rfl, rfl⟩)
        all_goals exact bodyPost_ret (v := lvlV c m) (by rw [e0.out]; simp [results, Try.results13, go_sem]) rfl ⟨rfl, by repeat (first | exact Below.refl _ _ | refine Below.setCell ?_ (by simp) _ | refine Below.alloc ?_ (by simp) _)⟩
      · have h5 : 0 ≤ m := by omega
        have h6 : m ≤ c := by omega
        by_cases h4 : c < m + (m + 3) / 4 <;> by_cases h7 : c < m + (m + 1) / 2
        all_goals
          have e0 := Kp.mk (show lvlV c m = .tuple #[.agg #[.int .i64 m, .int .i64 (if c < m + (m + 3) / 4 then c else m + (m + 3) / 4), .int .i64 (if c < m + (m + 1) / 2 then c else m + (m + 1) / 2)], .int .i64 0] by simp [lvlV, lvl, h1, h2, h3, marksV])
          first | rw [if_pos h4] at e0 | rw [if_neg h4] at e0
          first | rw [if_pos h7] at e0 | rw [if_neg h7] at e0
          go_enter Try.func13, Try.ntmps13
          go_wp2_with (go_at_call 39; refine (in39 _ _).mono ?_; rintro e w' ⟨rfl, rfl⟩)
          all_goals exact bodyPost_ret (v := lvlV c m) (by rw [e0.out]; simp [results, Try.results13, go_sem]) rfl ⟨rfl, by repeat (first | exact Below.refl _ _ | refine Below.setCell ?_ (by simp) _ | refine Below.alloc ?_ (by simp) _)⟩

set_option maxHeartbeats 400000 in
theorem levels14 (c m : Int) (w : World) : Calls Try.prog 14 #[.int .i64 c, .int .i64 m] w fun e w' => e = .returned (lvlV c m) ∧ Below w.heap.size w w' := by
  cases h1 : inB c
  · have e0 := Kp.mk (show lvlV c m = .tuple #[.agg #[.int .i64 0, .int .i64 0, .int .i64 0], .int .i64 2] by simp [lvlV, lvl, h1, marksV])
    go_enter Try.func14, Try.ntmps14
    go_wp2_with (go_at_call 40; refine (in40 _ _).mono ?_; rintro e w' ⟨rfl, rfl⟩)
    all_goals exact bodyPost_ret (v := lvlV c m) (by rw [e0.out]; simp [results, Try.results14, go_sem]) rfl ⟨rfl, by repeat (first | exact Below.refl _ _ | refine Below.setCell ?_ (by simp) _ | refine Below.alloc ?_ (by simp) _)⟩
  · obtain ⟨h0, h9⟩ := inB_true h1
    by_cases h2 : m < 0
    · have e0 := Kp.mk (show lvlV c m = .tuple #[.agg #[.int .i64 0, .int .i64 0, .int .i64 0], .int .i64 2] by simp [lvlV, lvl, h1, h2, marksV])
      go_enter Try.func14, Try.ntmps14
      go_wp2_with (go_at_call 40; refine (in40 _ _).mono ?_; rintro e w' ⟨rfl, rfl⟩)
      all_goals exact bodyPost_ret (v := lvlV c m) (by rw [e0.out]; simp [results, Try.results14, go_sem]) rfl ⟨rfl, by repeat (first | exact Below.refl _ _ | refine Below.setCell ?_ (by simp) _ | refine Below.alloc ?_ (by simp) _)⟩
    · by_cases h3 : c < m
      · have e0 := Kp.mk (show lvlV c m = .tuple #[.agg #[.int .i64 0, .int .i64 0, .int .i64 0], .int .i64 2] by simp [lvlV, lvl, h1, h2, h3, marksV])
        go_enter Try.func14, Try.ntmps14
        go_wp2_with (go_at_call 40; refine (in40 _ _).mono ?_; rintro e w' ⟨rfl, rfl⟩)
        all_goals exact bodyPost_ret (v := lvlV c m) (by rw [e0.out]; simp [results, Try.results14, go_sem]) rfl ⟨rfl, by repeat (first | exact Below.refl _ _ | refine Below.setCell ?_ (by simp) _ | refine Below.alloc ?_ (by simp) _)⟩
      · have h5 : 0 ≤ m := by omega
        have h6 : m ≤ c := by omega
        by_cases h4 : c < m + (m + 3) / 4 <;> by_cases h7 : c < m + (m + 1) / 2
        all_goals
          have e0 := Kp.mk (show lvlV c m = .tuple #[.agg #[.int .i64 m, .int .i64 (if c < m + (m + 3) / 4 then c else m + (m + 3) / 4), .int .i64 (if c < m + (m + 1) / 2 then c else m + (m + 1) / 2)], .int .i64 0] by simp [lvlV, lvl, h1, h2, h3, marksV])
          first | rw [if_pos h4] at e0 | rw [if_neg h4] at e0
          first | rw [if_pos h7] at e0 | rw [if_neg h7] at e0
          go_enter Try.func14, Try.ntmps14
          go_wp2_with (go_at_call 40; refine (in40 _ _).mono ?_; rintro e w' ⟨rfl, rfl⟩)
          all_goals exact bodyPost_ret (v := lvlV c m) (by rw [e0.out]; simp [results, Try.results14, go_sem]) rfl ⟨rfl, by repeat (first | exact Below.refl _ _ | refine Below.setCell ?_ (by simp) _ | refine Below.alloc ?_ (by simp) _)⟩

theorem chk_zero {a b c : Int} (h : chk a b c = 0) : (0 ≤ a ∧ a ≤ 4096) ∧ (0 ≤ b ∧ b ≤ 4096) ∧ (0 ≤ c ∧ c ≤ 4096) ∧ a ≤ b ∧ b ≤ c := by
  unfold chk at h
  cases h1 : inB a <;> cases h2 : inB b <;> cases h3 : inB c <;> simp [h1, h2, h3] at h
  exact ⟨inB_true h1, inB_true h2, inB_true h3, by omega, by omega⟩
theorem bcell {W w1 : World} (hb : Below W.heap.size W w1) : (∀ b o, b < W.heap.size → w1.cell? ⟨b, o, none⟩ = W.cell? ⟨b, o, none⟩) ∧ (∀ b o, b < W.heap.size → w1.frozen? ⟨b, o, none⟩ = W.frozen? ⟨b, o, none⟩) :=
  ⟨fun b o h => hb.cell (p := ⟨b, o, none⟩) h, fun b o h => hb.frozen (p := ⟨b, o, none⟩) h⟩

set_option maxHeartbeats 400000 in
theorem floor17 (a b c x : Int) (w : World) : Calls Try.prog 17 #[marksV a b c, .int .i64 x] w fun e w' => e = .returned (.int .i64 (flr a b c x)) ∧ Below w.heap.size w w' := by
  unfold marksV
  by_cases h1 : chk a b c = 0
  · have h2 : (chk a b c != 0) = false := by simp [h1]
    obtain ⟨⟨p1, p2⟩, ⟨p3, p4⟩, ⟨p5, p6⟩, p7, p8⟩ := chk_zero h1
    have h3 := Kp.mk h1
    clear h1
    by_cases x0 : x = 0
    · have e0 := Kp.mk (show flr a b c x = a by simp [flr, h3.out, x0])
      go_enter Try.func17, Try.ntmps17
      go_wp2_with (go_at_call 15; refine (check15 _ _ _ _).mono ?_; rintro e w' ⟨rfl, hb⟩; obtain ⟨hc, hf⟩ := bcell hb)
      go_ret; exact ⟨by rw [e0.out]; first | done | rfl | (simp; done) | (simp; omega), ((Below.refl _ _).alloc (Nat.le_refl _) _).trans (hb.mono (by simp))⟩
    · by_cases x1 : x = 1
      · have e0 := Kp.mk (show flr a b c x = a / 2 by simp [flr, h3.out, x1])
        go_enter Try.func17, Try.ntmps17
        go_wp2_with (go_at_call 15; refine (check15 _ _ _ _).mono ?_; rintro e w' ⟨rfl, hb⟩; obtain ⟨hc, hf⟩ := bcell hb)
        go_ret; exact ⟨by rw [e0.out]; first | done | rfl | (simp; done) | (simp; omega), ((Below.refl _ _).alloc (Nat.le_refl _) _).trans (hb.mono (by simp))⟩
      · by_cases x2 : x = 2
        · have e0 := Kp.mk (show flr a b c x = 0 by simp [flr, h3.out, x2])
          go_enter Try.func17, Try.ntmps17
          go_wp2_with (go_at_call 15; refine (check15 _ _ _ _).mono ?_; rintro e w' ⟨rfl, hb⟩; obtain ⟨hc, hf⟩ := bcell hb)
          go_ret; exact ⟨by rw [e0.out]; first | done | rfl | (simp; done) | (simp; omega), ((Below.refl _ _).alloc (Nat.le_refl _) _).trans (hb.mono (by simp))⟩
        · have e0 := Kp.mk (show flr a b c x = -1 by simp [flr, h3.out, x0, x1, x2])
          go_enter Try.func17, Try.ntmps17
          go_wp2_with (go_at_call 15; refine (check15 _ _ _ _).mono ?_; rintro e w' ⟨rfl, hb⟩; obtain ⟨hc, hf⟩ := bcell hb)
          go_ret; exact ⟨by rw [e0.out]; first | done | rfl | (simp; done) | (simp; omega), ((Below.refl _ _).alloc (Nat.le_refl _) _).trans (hb.mono (by simp))⟩
  · have h2 : (chk a b c != 0) = true := by simpa using h1
    have e0 := Kp.mk (show flr a b c x = -1 by simp [flr, h1])
    go_enter Try.func17, Try.ntmps17
    go_wp2_with (go_at_call 15; refine (check15 _ _ _ _).mono ?_; rintro e w' ⟨rfl, hb⟩; obtain ⟨hc, hf⟩ := bcell hb)
    go_ret; exact ⟨by rw [e0.out]; first | done | rfl | (simp; done) | (simp; omega), ((Below.refl _ _).alloc (Nat.le_refl _) _).trans (hb.mono (by simp))⟩

set_option maxHeartbeats 400000 in
theorem floor18 (a b c x : Int) (w : World) : Calls Try.prog 18 #[marksV a b c, .int .i64 x] w fun e w' => e = .returned (.int .i64 (flr a b c x)) ∧ Below w.heap.size w w' := by
  unfold marksV
  by_cases h1 : chk a b c = 0
  · have h2 : (chk a b c != 0) = false := by simp [h1]
    obtain ⟨⟨p1, p2⟩, ⟨p3, p4⟩, ⟨p5, p6⟩, p7, p8⟩ := chk_zero h1
    have h3 := Kp.mk h1
    clear h1
    by_cases x0 : x = 0
    · have e0 := Kp.mk (show flr a b c x = a by simp [flr, h3.out, x0])
      go_enter Try.func18, Try.ntmps18
      go_wp2_with (go_at_call 16; refine (check16 _ _ _ _).mono ?_; rintro e w' ⟨rfl, hb⟩; obtain ⟨hc, hf⟩ := bcell hb)
      go_ret; exact ⟨by rw [e0.out]; first | done | rfl | (simp; done) | (simp; omega), ((Below.refl _ _).alloc (Nat.le_refl _) _).trans (hb.mono (by simp))⟩
    · by_cases x1 : x = 1
      · have e0 := Kp.mk (show flr a b c x = a / 2 by simp [flr, h3.out, x1])
        go_enter Try.func18, Try.ntmps18
        go_wp2_with (go_at_call 16; refine (check16 _ _ _ _).mono ?_; rintro e w' ⟨rfl, hb⟩; obtain ⟨hc, hf⟩ := bcell hb)
        go_ret; exact ⟨by rw [e0.out]; first | done | rfl | (simp; done) | (simp; omega), ((Below.refl _ _).alloc (Nat.le_refl _) _).trans (hb.mono (by simp))⟩
      · by_cases x2 : x = 2
        · have e0 := Kp.mk (show flr a b c x = 0 by simp [flr, h3.out, x2])
          go_enter Try.func18, Try.ntmps18
          go_wp2_with (go_at_call 16; refine (check16 _ _ _ _).mono ?_; rintro e w' ⟨rfl, hb⟩; obtain ⟨hc, hf⟩ := bcell hb)
          go_ret; exact ⟨by rw [e0.out]; first | done | rfl | (simp; done) | (simp; omega), ((Below.refl _ _).alloc (Nat.le_refl _) _).trans (hb.mono (by simp))⟩
        · have e0 := Kp.mk (show flr a b c x = -1 by simp [flr, h3.out, x0, x1, x2])
          go_enter Try.func18, Try.ntmps18
          go_wp2_with (go_at_call 16; refine (check16 _ _ _ _).mono ?_; rintro e w' ⟨rfl, hb⟩; obtain ⟨hc, hf⟩ := bcell hb)
          go_ret; exact ⟨by rw [e0.out]; first | done | rfl | (simp; done) | (simp; omega), ((Below.refl _ _).alloc (Nat.le_refl _) _).trans (hb.mono (by simp))⟩
  · have h2 : (chk a b c != 0) = true := by simpa using h1
    have e0 := Kp.mk (show flr a b c x = -1 by simp [flr, h1])
    go_enter Try.func18, Try.ntmps18
    go_wp2_with (go_at_call 16; refine (check16 _ _ _ _).mono ?_; rintro e w' ⟨rfl, hb⟩; obtain ⟨hc, hf⟩ := bcell hb)
    go_ret; exact ⟨by rw [e0.out]; first | done | rfl | (simp; done) | (simp; omega), ((Below.refl _ _).alloc (Nat.le_refl _) _).trans (hb.mono (by simp))⟩

set_option maxHeartbeats 400000 in
theorem wake19 (a b c n : Int) (r : Bool) (w : World) : Calls Try.prog 19 #[marksV a b c, .int .i64 n, .bool r] w fun e w' => e = .returned (.bool (wak a b c n r)) ∧ Below w.heap.size w w' := by
  unfold marksV
  by_cases h1 : chk a b c = 0
  · have h2 : (chk a b c != 0) = false := by simp [h1]
    have h2' : (chk a b c == 0) = true := by simp [h1]
    obtain ⟨⟨p1, p2⟩, ⟨p3, p4⟩, ⟨p5, p6⟩, p7, p8⟩ := chk_zero h1
    have h3 := Kp.mk h1
    clear h1
    by_cases x0 : n < b
    · have e0 := Kp.mk (show wak a b c n r = true by simp [wak, h3.out, x0])
      go_enter Try.func19, Try.ntmps19
      go_wp2_with (go_at_call 15; refine (check15 _ _ _ _).mono ?_; rintro e w' ⟨rfl, hb⟩; obtain ⟨hc, hf⟩ := bcell hb)
      go_ret; exact ⟨by rw [e0.out]; first | done | rfl | (simp; done) | (simp; omega), ((Below.refl _ _).alloc (Nat.le_refl _) _).trans (hb.mono (by simp))⟩
    · cases r
      · have e0 := Kp.mk (show wak a b c n false = false by simp [wak, x0])
        go_enter Try.func19, Try.ntmps19
        go_wp2_with (go_at_call 15; refine (check15 _ _ _ _).mono ?_; rintro e w' ⟨rfl, hb⟩; obtain ⟨hc, hf⟩ := bcell hb)
        go_ret; exact ⟨by rw [e0.out]; first | done | rfl | (simp; done) | (simp; omega), ((Below.refl _ _).alloc (Nat.le_refl _) _).trans (hb.mono (by simp))⟩
      · by_cases x1 : n < c
        · have e0 := Kp.mk (show wak a b c n true = true by simp [wak, h3.out, x1])
          go_enter Try.func19, Try.ntmps19
          go_wp2_with (go_at_call 15; refine (check15 _ _ _ _).mono ?_; rintro e w' ⟨rfl, hb⟩; obtain ⟨hc, hf⟩ := bcell hb)
          go_ret; exact ⟨by rw [e0.out]; first | done | rfl | (simp; done) | (simp; omega), ((Below.refl _ _).alloc (Nat.le_refl _) _).trans (hb.mono (by simp))⟩
        · have e0 := Kp.mk (show wak a b c n true = false by simp [wak, x0, x1])
          go_enter Try.func19, Try.ntmps19
          go_wp2_with (go_at_call 15; refine (check15 _ _ _ _).mono ?_; rintro e w' ⟨rfl, hb⟩; obtain ⟨hc, hf⟩ := bcell hb)
          go_ret; exact ⟨by rw [e0.out]; first | done | rfl | (simp; done) | (simp; omega), ((Below.refl _ _).alloc (Nat.le_refl _) _).trans (hb.mono (by simp))⟩
  · have h2 : (chk a b c != 0) = true := by simpa using h1
    have h2' : (chk a b c == 0) = false := by simpa using h1
    have e0 := Kp.mk (show wak a b c n r = false by simp [wak, h1])
    go_enter Try.func19, Try.ntmps19
    go_wp2_with (go_at_call 15; refine (check15 _ _ _ _).mono ?_; rintro e w' ⟨rfl, hb⟩; obtain ⟨hc, hf⟩ := bcell hb)
    go_ret; exact ⟨by rw [e0.out]; first | done | rfl | (simp; done) | (simp; omega), ((Below.refl _ _).alloc (Nat.le_refl _) _).trans (hb.mono (by simp))⟩

set_option maxHeartbeats 400000 in
theorem wake20 (a b c n : Int) (r : Bool) (w : World) : Calls Try.prog 20 #[marksV a b c, .int .i64 n, .bool r] w fun e w' => e = .returned (.bool (wak a b c n r)) ∧ Below w.heap.size w w' := by
  unfold marksV
  by_cases h1 : chk a b c = 0
  · have h2 : (chk a b c != 0) = false := by simp [h1]
    have h2' : (chk a b c == 0) = true := by simp [h1]
    obtain ⟨⟨p1, p2⟩, ⟨p3, p4⟩, ⟨p5, p6⟩, p7, p8⟩ := chk_zero h1
    have h3 := Kp.mk h1
    clear h1
    by_cases x0 : n < b
    · have e0 := Kp.mk (show wak a b c n r = true by simp [wak, h3.out, x0])
      go_enter Try.func20, Try.ntmps20
      go_wp2_with (go_at_call 16; refine (check16 _ _ _ _).mono ?_; rintro e w' ⟨rfl, hb⟩; obtain ⟨hc, hf⟩ := bcell hb)
      go_ret; exact ⟨by rw [e0.out]; first | done | rfl | (simp; done) | (simp; omega), ((Below.refl _ _).alloc (Nat.le_refl _) _).trans (hb.mono (by simp))⟩
    · cases r
      · have e0 := Kp.mk (show wak a b c n false = false by simp [wak, x0])
        go_enter Try.func20, Try.ntmps20
        go_wp2_with (go_at_call 16; refine (check16 _ _ _ _).mono ?_; rintro e w' ⟨rfl, hb⟩; obtain ⟨hc, hf⟩ := bcell hb)
        go_ret; exact ⟨by rw [e0.out]; first | done | rfl | (simp; done) | (simp; omega), ((Below.refl _ _).alloc (Nat.le_refl _) _).trans (hb.mono (by simp))⟩
      · by_cases x1 : n < c
        · have e0 := Kp.mk (show wak a b c n true = true by simp [wak, h3.out, x1])
          go_enter Try.func20, Try.ntmps20
          go_wp2_with (go_at_call 16; refine (check16 _ _ _ _).mono ?_; rintro e w' ⟨rfl, hb⟩; obtain ⟨hc, hf⟩ := bcell hb)
          go_ret; exact ⟨by rw [e0.out]; first | done | rfl | (simp; done) | (simp; omega), ((Below.refl _ _).alloc (Nat.le_refl _) _).trans (hb.mono (by simp))⟩
        · have e0 := Kp.mk (show wak a b c n true = false by simp [wak, x0, x1])
          go_enter Try.func20, Try.ntmps20
          go_wp2_with (go_at_call 16; refine (check16 _ _ _ _).mono ?_; rintro e w' ⟨rfl, hb⟩; obtain ⟨hc, hf⟩ := bcell hb)
          go_ret; exact ⟨by rw [e0.out]; first | done | rfl | (simp; done) | (simp; omega), ((Below.refl _ _).alloc (Nat.le_refl _) _).trans (hb.mono (by simp))⟩
  · have h2 : (chk a b c != 0) = true := by simpa using h1
    have h2' : (chk a b c == 0) = false := by simpa using h1
    have e0 := Kp.mk (show wak a b c n r = false by simp [wak, h1])
    go_enter Try.func20, Try.ntmps20
    go_wp2_with (go_at_call 16; refine (check16 _ _ _ _).mono ?_; rintro e w' ⟨rfl, hb⟩; obtain ⟨hc, hf⟩ := bcell hb)
    go_ret; exact ⟨by rw [e0.out]; first | done | rfl | (simp; done) | (simp; omega), ((Below.refl _ _).alloc (Nat.le_refl _) _).trans (hb.mono (by simp))⟩

end Go.Proofs.Ytmomcelnfljnmaa
