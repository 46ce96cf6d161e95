/-
  The reference's reading of a line agrees with the program's. Conditions: none but what each theorem names.
-/
import Derived.Test.YtiomnlgnhdhffaaDoorT3
namespace Go.Proofs.YtiomnlgnhdhffaaDoor
open Go.RowKit
set_option linter.unusedVariables false
set_option linter.unusedSimpArgs false

theorem agree_0 (w : Wd) (o : Int) (ho : opR w = (o, 1)) (h1 : o ≠ 1) (h3 : o ≠ 3) (h0 : o ≠ 0) (x : Ins) (hi : ∀ t, insS (w :: t, true) = (x, (t, true)))
    (hb : buildR o 0 0 0 0 0 w = x) (hf : (1 ≤ x.op ∧ x.op ≤ 12) ∧ usedI x = x) (t : List Wd) : Agree (w :: t) := by
  unfold Agree
  rw [hi]
  have hh : (w :: t).headD [] = w := rfl
  unfold instrR
  rw [hh, ho]
  dsimp only
  rcases t with _ | ⟨u, t⟩
  · right
    refine ⟨x, rfl, ?_, hf⟩
    simp [h0, h1, h3, okAll, numA, hb]
  · left
    exact ⟨.inr (by simp), by rw [if_pos (by simp [h1])]⟩
theorem agree_1 (w : Wd) (o : Int) (ho : opR w = (o, 2)) (h1 : o ≠ 1) (h3 : o ≠ 3) (h0 : o ≠ 0) (f : Int → Ins) (hi : ∀ t, insS (w :: t, true) = (f (numS (t, true)).1, (numS (t, true)).2))
    (hb : ∀ a, buildR o 0 a 0 0 0 w = f a) (hf : ∀ a, (1 ≤ (f a).op ∧ (f a).op ≤ 12) ∧ usedI (f a) = f a) (t : List Wd) : Agree (w :: t) := by
  unfold Agree
  rw [hi]
  have hh : (w :: t).headD [] = w := rfl
  unfold instrR
  rw [hh, ho]
  dsimp only
  rcases t with _ | ⟨u, _ | ⟨z, t⟩⟩
  · left; exact ⟨.inl rfl, by rw [if_pos (by simp)]⟩
  · rw [numS_cons]
    rw [if_neg (by simp [h0])]
    rcases refN_of u with ⟨hu, hu'⟩ | ⟨n, hu, hu', hn⟩
    · left; exact ⟨.inl (by simp [hu]), by simp [okAll, okw, h1, h3, hu']⟩
    · right
      refine ⟨f n, by simp [hu], ?_, hf n⟩
      simp [okAll, okw, h1, h3, hu', hn, numA, hb]
  · left
    refine ⟨.inr ?_, by rw [if_pos (by simp [h1])]⟩
    rw [numS_cons]
    simp
theorem agree_3 (w : Wd) (o : Int) (ho : opR w = (o, 4)) (h1 : o ≠ 1) (h3 : o ≠ 3) (h0 : o ≠ 0) (f : Int → Int → Int → Ins) (hi : ∀ t, insS (w :: t, true) = (f (numS (t, true)).1 (numS (numS (t, true)).2).1 (numS (numS (numS (t, true)).2).2).1, (numS (numS (numS (t, true)).2).2).2))
    (hb : ∀ a b c, buildR o 0 a b c 0 w = f a b c) (hf : ∀ a b c, (1 ≤ (f a b c).op ∧ (f a b c).op ≤ 12) ∧ usedI (f a b c) = f a b c) (t : List Wd) : Agree (w :: t) := by
  unfold Agree
  rw [hi]
  have hh : (w :: t).headD [] = w := rfl
  unfold instrR
  rw [hh, ho]
  dsimp only
  rcases t with _ | ⟨u, _ | ⟨v, _ | ⟨y, _ | ⟨z, t⟩⟩⟩⟩
  · left; exact ⟨.inl rfl, by rw [if_pos (by simp)]⟩
  · left
    refine ⟨.inl ?_, by rw [if_pos (by simp)]⟩
    rw [numS_cons, numS_nil, numS_nil]
  · left
    refine ⟨.inl ?_, by rw [if_pos (by simp)]⟩
    rw [numS_cons, numS_cons, numS_nil]
  · rw [numS_cons, numS_cons, numS_cons]
    rw [if_neg (by simp [h0])]
    rcases refN_of u with ⟨hu, hu'⟩ | ⟨n, hu, hu', hn⟩
    · left; exact ⟨.inl (by simp [hu]), by simp [okAll, okw, h1, h3, hu']⟩
    · rcases refN_of v with ⟨hv, hv'⟩ | ⟨m, hv, hv', hm⟩
      · left; exact ⟨.inl (by simp [hv]), by simp [okAll, okw, h1, h3, hu', hv']⟩
      · rcases refN_of y with ⟨hy, hy'⟩ | ⟨l, hy, hy', hl⟩
        · left; exact ⟨.inl (by simp [hy]), by simp [okAll, okw, h1, h3, hu', hv', hy']⟩
        · right
          refine ⟨f n m l, by simp [hu, hv, hy], ?_, hf n m l⟩
          simp [okAll, okw, h1, h3, hu', hv', hy', hn, hm, hl, numA, hb]
  · left
    refine ⟨.inr ?_, by rw [if_pos (by simp [h1])]⟩
    rw [numS_cons, numS_cons, numS_cons]
    simp
theorem agree_4 (w : Wd) (o : Int) (ho : opR w = (o, 5)) (h1 : o ≠ 1) (h3 : o ≠ 3) (h0 : o ≠ 0) (f : Int → Int → Int → Int → Ins) (hi : ∀ t, insS (w :: t, true) = (f (numS (t, true)).1 (numS (numS (t, true)).2).1 (numS (numS (numS (t, true)).2).2).1 (numS (numS (numS (numS (t, true)).2).2).2).1, (numS (numS (numS (numS (t, true)).2).2).2).2))
    (hb : ∀ a b c d, buildR o 0 a b c d w = f a b c d) (hf : ∀ a b c d, (1 ≤ (f a b c d).op ∧ (f a b c d).op ≤ 12) ∧ usedI (f a b c d) = f a b c d) (t : List Wd) : Agree (w :: t) := by
  unfold Agree
  rw [hi]
  have hh : (w :: t).headD [] = w := rfl
  unfold instrR
  rw [hh, ho]
  dsimp only
  rcases t with _ | ⟨u, _ | ⟨v, _ | ⟨y, _ | ⟨x, _ | ⟨z, t⟩⟩⟩⟩⟩
  · left; exact ⟨.inl rfl, by rw [if_pos (by simp)]⟩
  · left
    refine ⟨.inl ?_, by rw [if_pos (by simp)]⟩
    rw [numS_cons, numS_nil, numS_nil, numS_nil]
  · left
    refine ⟨.inl ?_, by rw [if_pos (by simp)]⟩
    rw [numS_cons, numS_cons, numS_nil, numS_nil]
  · left
    refine ⟨.inl ?_, by rw [if_pos (by simp)]⟩
    rw [numS_cons, numS_cons, numS_cons, numS_nil]
  · rw [numS_cons, numS_cons, numS_cons, numS_cons]
    rw [if_neg (by simp [h0])]
    rcases refN_of u with ⟨hu, hu'⟩ | ⟨n, hu, hu', hn⟩
    · left; exact ⟨.inl (by simp [hu]), by simp [okAll, okw, h1, h3, hu']⟩
    · rcases refN_of v with ⟨hv, hv'⟩ | ⟨m, hv, hv', hm⟩
      · left; exact ⟨.inl (by simp [hv]), by simp [okAll, okw, h1, h3, hu', hv']⟩
      · rcases refN_of y with ⟨hy, hy'⟩ | ⟨l, hy, hy', hl⟩
        · left; exact ⟨.inl (by simp [hy]), by simp [okAll, okw, h1, h3, hu', hv', hy']⟩
        · rcases refN_of x with ⟨hx, hx'⟩ | ⟨k, hx, hx', hk⟩
          · left; exact ⟨.inl (by simp [hx]), by simp [okAll, okw, h1, h3, hu', hv', hy', hx']⟩
          · right
            refine ⟨f n m l k, by simp [hu, hv, hy, hx], ?_, hf n m l k⟩
            simp [okAll, okw, h1, h3, hu', hv', hy', hx', hn, hm, hl, hk, numA, hb]
  · left
    refine ⟨.inr ?_, by rw [if_pos (by simp [h1])]⟩
    rw [numS_cons, numS_cons, numS_cons, numS_cons]
    simp

/-! ### protect and map -/
theorem protS_cons (w : Wd) (t : List Wd) (f : Bool) : protS (w :: t, f) = (protR w, (t, f && protR w != 0)) := by
  unfold protS protR nextS
  dsimp only
  by_cases h1 : w = [114]
  · simp [h1]
  · by_cases h2 : w = [114, 119]
    · simp [h2]
    · simp [h1, h2]
theorem protS_nil (f : Bool) : protS ([], f) = (0, ([], false)) := rfl
theorem protR_nn (w : Wd) : 0 ≤ protR w := by unfold protR; repeat' split <;> omega
theorem agree_protect (t : List Wd) : Agree ([112, 114, 111, 116, 101, 99, 116] :: t) := by
  have hi : ∀ t, insS ([112, 114, 111, 116, 101, 99, 116] :: t, true) = (⟨3, (numS (t, true)).1, (numS (numS (t, true)).2).1, 0, 0, 0, (protS (numS (numS (t, true)).2).2).1, 0⟩, (protS (numS (numS (t, true)).2).2).2) := fun t => rfl
  unfold Agree
  rw [hi]
  have hh : ([112, 114, 111, 116, 101, 99, 116] :: t : List Wd).headD [] = [112, 114, 111, 116, 101, 99, 116] := rfl
  unfold instrR
  rw [hh, show opR [112, 114, 111, 116, 101, 99, 116] = (3, 4) from rfl]
  dsimp only
  rcases t with _ | ⟨u, _ | ⟨v, _ | ⟨y, _ | ⟨z, t⟩⟩⟩⟩
  · left; exact ⟨.inl rfl, by rw [if_pos (by simp)]⟩
  · left
    refine ⟨.inl ?_, by rw [if_pos (by simp)]⟩
    rw [numS_cons, numS_nil, protS_nil]
  · left
    refine ⟨.inl ?_, by rw [if_pos (by simp)]⟩
    rw [numS_cons, numS_cons, protS_nil]
  · rw [numS_cons, numS_cons, protS_cons]
    rw [if_neg (by simp)]
    rcases refN_of u with ⟨hu, hu'⟩ | ⟨n, hu, hu', hn⟩
    · left; exact ⟨.inl (by simp [hu]), by simp [okAll, okw, hu']⟩
    · rcases refN_of v with ⟨hv, hv'⟩ | ⟨m, hv, hv', hm⟩
      · left; exact ⟨.inl (by simp [hv]), by simp [okAll, okw, hu', hv']⟩
      · by_cases hp : protR y = 0
        · left; exact ⟨.inl (by simp [hp]), by simp [okAll, okw, hu', hv', hp]⟩
        · right
          refine ⟨⟨3, n, m, 0, 0, 0, protR y, 0⟩, by simp [hu, hv, hp], ?_, by simp, by simp [usedI]⟩
          simp [okAll, okw, hu', hv', hp, hn, hm, numA, buildR]
  · left
    refine ⟨.inr ?_, by rw [if_pos (by simp)]⟩
    rw [numS_cons, numS_cons, protS_cons]
    simp
def pgS (s : St) : Int × St := if (atS [97, 110, 121] s).1 = true then (-1, (atS [97, 110, 121] s).2) else numS (atS [97, 110, 121] s).2
/-- mapping behind its protection: the flags and the file. -/
def mapU (pg ct pr : Int) (s : St) : Ins × St :=
  let fl := flagS s 4
  let f := atS [102, 105, 108, 101] fl.2
  let fi := if f.1 then numS f.2 else (-1, f.2)
  let ix := if f.1 then numS fi.2 else (0, fi.2)
  (⟨1, pg, ct, ix.1, 0, fi.1, pr, fl.1⟩, ix.2)
theorem mapS_U (s : St) : mapS s = mapU (pgS s).1 (numS (pgS s).2).1 (protS (numS (pgS s).2).2).1 (protS (numS (pgS s).2).2).2 := rfl
theorem num_fine {s : St} (h : s.2 = false) : (numS s).2.2 = false := by
  obtain ⟨ws, f⟩ := s
  cases ws with
  | nil => rfl
  | cons w t => rw [numS_cons]; simp only at h; simp [h]
theorem at_fine (c : Wd) (s : St) : (atS c s).2.2 = s.2 := by
  obtain ⟨ws, f⟩ := s
  cases ws with
  | nil => rfl
  | cons w t =>
    unfold atS
    dsimp only
    by_cases h : w = c
    · rw [if_pos h]
    · rw [if_neg h]
theorem flagS_f (ws : List Wd) (f : Bool) : ∀ k, flagS (ws, f) k = ((flagS (ws, true) k).1, ((flagS (ws, true) k).2.1, f)) ∧ (flagS (ws, true) k).2.2 = true
  | 0 => ⟨rfl, rfl⟩
  | k + 1 => by
    obtain ⟨h1, h2⟩ := flagS_f ws f k
    simp only [flagS]
    rw [h1]
    generalize flagS (ws, true) k = r at h2
    obtain ⟨n, l, g⟩ := r
    simp only at h2 ⊢
    subst h2
    cases l with
    | nil => exact ⟨rfl, rfl⟩
    | cons w t =>
      unfold atS
      by_cases hw : w = flagW k
      · simp [hw]
      · simp [hw]
theorem mapU_bad {pg ct pr : Int} {s : St} (h : s.2 = false) : (mapU pg ct pr s).2.2 = false := by
  obtain ⟨ws, f⟩ := s
  simp only at h
  subst h
  unfold mapU
  rw [(flagS_f ws false 4).1]
  dsimp only
  have ha := at_fine [102, 105, 108, 101] ((flagS (ws, true) 4).2.1, false)
  generalize atS [102, 105, 108, 101] ((flagS (ws, true) 4).2.1, false) = a at ha
  obtain ⟨b, st⟩ := a
  cases b
  · exact ha
  · exact num_fine (num_fine ha)
theorem mapU_opt (pg ct pr : Int) (ws : List Wd) : ((mapU pg ct pr (ws, true)).2.2 = false ∨ (mapU pg ct pr (ws, true)).2.1 ≠ []) ∧ (optR ⟨1, pg, ct, 0, 0, -1, pr, 0⟩ ws).2 = false ∨
    ∃ x, mapU pg ct pr (ws, true) = (x, ([], true)) ∧ optR ⟨1, pg, ct, 0, 0, -1, pr, 0⟩ ws = (x, true) ∧ (1 ≤ x.op ∧ x.op ≤ 12) ∧ usedI x = x := by
  unfold mapU optR
  rw [(flagS_f ws true 4).1]
  dsimp only
  generalize (flagS (ws, true) 4).1 = n
  generalize (flagS (ws, true) 4).2.1 = r
  rcases r with _ | ⟨y, r⟩
  · right
    exact ⟨⟨1, pg, ct, 0, 0, -1, pr, n⟩, rfl, by simp, by simp, by simp [usedI]⟩
  · by_cases hy : y = [102, 105, 108, 101]
    · subst hy
      have ha : atS [102, 105, 108, 101] ([102, 105, 108, 101] :: r, true) = (true, (r, true)) := rfl
      rw [ha]
      dsimp only
      rw [if_pos rfl, if_pos rfl]
      rcases r with _ | ⟨u, _ | ⟨v, _ | ⟨z, t⟩⟩⟩
      · left; exact ⟨.inl rfl, by simp⟩
      · left; exact ⟨.inl (by rw [numS_cons, numS_nil]), by simp⟩
      · rw [numS_cons, numS_cons]
        rcases refN_of u with ⟨hu, hu'⟩ | ⟨a, hu, hu', hn⟩
        · left; exact ⟨.inl (by simp [hu]), by simp [hu']⟩
        · rcases refN_of v with ⟨hv, hv'⟩ | ⟨m, hv, hv', hm⟩
          · left; exact ⟨.inl (by simp [hv]), by simp [hv']⟩
          · right
            refine ⟨⟨1, pg, ct, m, 0, a, pr, n⟩, by simp [hu, hv], ?_, by simp, by simp [usedI]⟩
            rw [if_neg (by simp), if_neg (by simp [hu', hv']; omega)]
            simp [hu', hv']
      · left; exact ⟨.inr (by rw [numS_cons, numS_cons]; simp), by simp⟩
    · left
      have ha : atS [102, 105, 108, 101] (y :: r, true) = (false, (y :: r, true)) := by simp [atS, hy]
      rw [ha]
      exact ⟨.inr (by simp), by simp [hy]⟩
theorem agree_map (t : List Wd) : Agree ([109, 97, 112] :: t) := by
  have hi : ∀ t, insS ([109, 97, 112] :: t, true) = mapS (t, true) := fun t => rfl
  unfold Agree
  rw [hi, mapS_U]
  have hh : ([109, 97, 112] :: t : List Wd).headD [] = [109, 97, 112] := rfl
  unfold instrR
  rw [hh, show opR [109, 97, 112] = (1, 4) from rfl]
  dsimp only
  rcases t with _ | ⟨u, _ | ⟨v, _ | ⟨y, rest⟩⟩⟩
  · left; exact ⟨.inl rfl, by rw [if_pos (by simp)]⟩
  · left
    refine ⟨.inl (mapU_bad ?_), by rw [if_pos (by simp)]⟩
    have : ∃ v f, pgS ([u], true) = (v, ([], f)) := by
      unfold pgS atS
      by_cases hu : u = [97, 110, 121]
      · simp [hu]
      · simp [hu, numS_cons]
    obtain ⟨v, f, e⟩ := this
    rw [e]
    rfl
  · left
    refine ⟨.inl (mapU_bad ?_), by rw [if_pos (by simp)]⟩
    have : ∃ c f, pgS ([u, v], true) = (c, ([v], f)) := by
      unfold pgS atS
      by_cases hu : u = [97, 110, 121]
      · simp [hu]
      · simp [hu, numS_cons]
    obtain ⟨c, f, e⟩ := this
    rw [e, numS_cons]
    rfl
  · rw [if_neg (by simp)]
    have hpg : pgS (u :: v :: y :: rest, true) = (if u = [97, 110, 121] then -1 else (numW u).getD 0, (v :: y :: rest, decide (u = [97, 110, 121]) || (numW u).isSome)) := by
      unfold pgS atS
      by_cases hu : u = [97, 110, 121]
      · simp [hu]
      · simp [hu, numS_cons]
    rw [hpg]
    dsimp only
    rw [numS_cons, protS_cons]
    dsimp only
    have hany : refN [97, 110, 121] = -1 := rfl
    by_cases hbad : (u ≠ [97, 110, 121] ∧ numW u = none) ∨ numW v = none ∨ protR y = 0
    · left
      refine ⟨.inl (mapU_bad ?_), ?_⟩
      · rcases hbad with ⟨h1, h2⟩ | h1 | h1
        · simp [h1, h2]
        · simp [h1]
        · simp [h1]
      · rw [if_neg]
        intro hok
        simp [okAll, okw] at hok
        obtain ⟨⟨h1, h2⟩, h3⟩ := hok
        rcases hbad with ⟨h4, h5⟩ | h4 | h4
        · rcases h1 with h1 | h1
          · rw [refN, h5] at h1; exact absurd h1 (by decide)
          · exact h4 h1
        · rw [refN, h4] at h2; exact absurd h2 (by decide)
        · exact h3 h4
    · have g1 : u = [97, 110, 121] ∨ ∃ a, numW u = some a ∧ refN u = a ∧ 0 ≤ a := by
        by_cases hu : u = [97, 110, 121]
        · exact .inl hu
        · rcases refN_of u with ⟨h1, _⟩ | h1
          · exact absurd (.inl ⟨hu, h1⟩) hbad
          · exact .inr h1
      obtain ⟨b, hv, hv', hb⟩ : ∃ b, numW v = some b ∧ refN v = b ∧ 0 ≤ b := by
        rcases refN_of v with ⟨h1, _⟩ | h1
        · exact absurd (.inr (.inl h1)) hbad
        · exact h1
      have hp : protR y ≠ 0 := fun h => hbad (.inr (.inr h))
      have hpage : (if u = [97, 110, 121] then -1 else (numW u).getD 0) = refN u := by
        rcases g1 with hu | ⟨a, h1, h2, h3⟩
        · rw [if_pos hu, hu, hany]
        · rw [if_neg (by rintro rfl; rw [h2] at hany; omega), h1, h2]; rfl
      have hfine : ((decide (u = [97, 110, 121]) || (numW u).isSome) && (numW v).isSome && protR y != 0) = true := by
        rcases g1 with hu | ⟨a, h1, h2, h3⟩
        · simp [hu, hv, hp]
        · simp [h1, hv, hp]
      rw [hpage, hfine, hv]
      have hok : okAll ([109, 97, 112] :: u :: v :: y :: rest) 1 (4 : Int).toNat = true := by
        show okAll _ 1 4 = true
        simp [okAll, okw, hp, hv', hb]
        rcases g1 with hu | ⟨a, h1, h2, h3⟩
        · exact .inr hu
        · left; rw [h2]; exact h3
      rw [if_pos hok, if_pos rfl]
      have e1 : numA ([109, 97, 112] :: u :: v :: y :: rest) (4 : Int).toNat 1 = refN u := rfl
      have e2 : numA ([109, 97, 112] :: u :: v :: y :: rest) (4 : Int).toNat 2 = refN v := rfl
      have e3 : ([109, 97, 112] :: u :: v :: y :: rest).getD 3 [] = y := rfl
      have e4 : ([109, 97, 112] :: u :: v :: y :: rest).drop (4 : Int).toNat = rest := rfl
      rw [e1, e2, e3, e4, hv']
      exact mapU_opt (refN u) b (protR y) rest
theorem agree (w : Wd) (t : List Wd) : Agree (w :: t) := by
  by_cases h0 : w = [109, 97, 112]
  · subst h0; exact agree_map t
  by_cases h1 : w = [117, 110, 109, 97, 112]
  · subst h1; exact agree_2 _ 2 rfl (by decide) (by decide) (by decide) (fun a b => ⟨2, a, b, 0, 0, 0, 0, 0⟩) (fun t => rfl) (fun a b => rfl) (fun a b => ⟨by simp, by simp [usedI]⟩) t
  by_cases h2 : w = [112, 114, 111, 116, 101, 99, 116]
  · subst h2; exact agree_protect t
  by_cases h3 : w = [108, 111, 99, 107]
  · subst h3; exact agree_2 _ 4 rfl (by decide) (by decide) (by decide) (fun a b => ⟨4, a, b, 0, 1, 0, 0, 0⟩) (fun t => rfl) (fun a b => rfl) (fun a b => ⟨by simp, by simp [usedI]⟩) t
  by_cases h4 : w = [117, 110, 108, 111, 99, 107]
  · subst h4; exact agree_2 _ 4 rfl (by decide) (by decide) (by decide) (fun a b => ⟨4, a, b, 0, 0, 0, 0, 0⟩) (fun t => rfl) (fun a b => rfl) (fun a b => ⟨by simp, by simp [usedI]⟩) t
  by_cases h5 : w = [108, 111, 97, 100]
  · subst h5; exact agree_2 _ 5 rfl (by decide) (by decide) (by decide) (fun a b => ⟨5, a, 0, b, 0, 0, 0, 0⟩) (fun t => rfl) (fun a b => rfl) (fun a b => ⟨by simp, by simp [usedI]⟩) t
  by_cases h6 : w = [115, 116, 111, 114, 101]
  · subst h6; exact agree_3 _ 6 rfl (by decide) (by decide) (by decide) (fun a b c => ⟨6, a, 0, b, c, 0, 0, 0⟩) (fun t => rfl) (fun a b c => rfl) (fun a b c => ⟨by simp, by simp [usedI]⟩) t
  by_cases h7 : w = [114, 101, 97, 100]
  · subst h7; exact agree_3 _ 7 rfl (by decide) (by decide) (by decide) (fun a b c => ⟨7, b, 0, c, 0, a, 0, 0⟩) (fun t => rfl) (fun a b c => rfl) (fun a b c => ⟨by simp, by simp [usedI]⟩) t
  by_cases h8 : w = [119, 114, 105, 116, 101]
  · subst h8; exact agree_4 _ 8 rfl (by decide) (by decide) (by decide) (fun a b c d => ⟨8, b, 0, c, d, a, 0, 0⟩) (fun t => rfl) (fun a b c d => rfl) (fun a b c d => ⟨by simp, by simp [usedI]⟩) t
  by_cases h9 : w = [116, 114, 117, 110, 99, 97, 116, 101]
  · subst h9; exact agree_2 _ 9 rfl (by decide) (by decide) (by decide) (fun a b => ⟨9, 0, b, 0, 0, a, 0, 0⟩) (fun t => rfl) (fun a b => rfl) (fun a b => ⟨by simp, by simp [usedI]⟩) t
  by_cases h10 : w = [115, 121, 110, 99]
  · subst h10; exact agree_1 _ 10 rfl (by decide) (by decide) (by decide) (fun a => ⟨10, 0, 0, 0, 0, a, 0, 0⟩) (fun t => rfl) (fun a => rfl) (fun a => ⟨by simp, by simp [usedI]⟩) t
  by_cases h11 : w = [102, 111, 114, 107]
  · subst h11; exact agree_1 _ 11 rfl (by decide) (by decide) (by decide) (fun a => ⟨11, 0, 0, 0, a, 0, 0, 0⟩) (fun t => rfl) (fun a => rfl) (fun a => ⟨by simp, by simp [usedI]⟩) t
  by_cases h12 : w = [101, 120, 105, 116]
  · subst h12; exact agree_0 _ 12 rfl (by decide) (by decide) (by decide) ⟨12, 0, 0, 0, 0, 0, 0, 0⟩ (fun t => rfl) rfl ⟨by simp, by simp [usedI]⟩ t
  left
  have hi : insS (w :: t, true) = (⟨0, 0, 0, 0, 0, 0, 0, 0⟩, (t, false)) := by
    unfold insS
    exact (if_neg h0).trans ((if_neg h1).trans ((if_neg h2).trans ((if_neg h3).trans ((if_neg h4).trans ((if_neg h5).trans ((if_neg h6).trans ((if_neg h7).trans ((if_neg h8).trans ((if_neg h9).trans ((if_neg h10).trans ((if_neg h11).trans ((if_neg h12).trans (rfl)))))))))))))
  have ho : opR w = (0, 0) := by
    unfold opR
    rw [if_neg h0, if_neg h1, if_neg h2, if_neg h3, if_neg h4, if_neg h5, if_neg h6, if_neg h7, if_neg h8, if_neg h9, if_neg h10, if_neg h11, if_neg h12]
  rw [hi]
  refine ⟨.inl rfl, ?_⟩
  unfold instrR
  rw [show (w :: t).headD [] = w from rfl, ho]
  rfl

/-- What the reference makes of a line's words. -/
def lineP (ws : List Wd) : LR := match ws with
  | [] => .skip
  | w :: t => if w.headD 0 = 35 then .skip else if (instrR (w :: t)).2 = false then .bad 4 else if rngR (instrR (w :: t)).1 = false then .bad 2 else .ins (instrR (w :: t)).1
theorem lineP_W (ws : List Wd) : lineP ws = lineW ws := by
  cases ws with
  | nil => rfl
  | cons w t =>
    unfold lineP lineW
    dsimp only
    by_cases hh : w.headD 0 = 35
    · rw [if_pos hh, if_pos hh]
    rw [if_neg hh, if_neg hh]
    rcases agree w t with ⟨h1, h2⟩ | ⟨x, h1, h2, h3, h4⟩
    · rw [if_pos h2, if_pos h1]
    · rw [h1, h2]
      dsimp only
      rw [if_neg (show ¬ (true = false) by decide), if_neg (show ¬ (true = false ∨ ([] : List Wd) ≠ []) by simp)]
      have hk : chkI x = if rngR x = false then 2 else 0 := by
        rw [chk_ref]
        unfold refI
        rw [if_neg (by simp [inR]; omega), if_neg (by simpa using h4)]
        cases rngR x <;> rfl
      rw [hk]
      cases hr : rngR x
      · rw [if_pos rfl, if_pos (by decide)]
      · rw [if_neg (by decide), if_neg (by decide)]
end Go.Proofs.YtiomnlgnhdhffaaDoor
