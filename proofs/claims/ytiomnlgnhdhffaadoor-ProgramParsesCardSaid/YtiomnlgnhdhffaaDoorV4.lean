/-
  Plain laws: two texts one behind the other; the form of a line. Conditions: none but what each theorem names.
-/
import Derived.Test.YtiomnlgnhdhffaaDoorV3
import Derived.Test.YtiomnlgnhdhffaaDoorL1
namespace Go.Proofs.YtiomnlgnhdhffaaDoor
open Go.RowKit
set_option linter.unusedVariables false
set_option linter.unusedSimpArgs false

/-! ### Two texts one behind the other -/
/-- The first error of lines (its line, counted from 1) or their instructions. -/
def parX : List ByteArray → (Option (Nat × Int)) × List Ins
  | [] => (none, [])
  | x :: r => match lineW (wordsOf x.data.toList) with
    | .skip => ((parX r).1.map fun q => (q.1 + 1, q.2), (parX r).2)
    | .bad e => (some (1, e), [])
    | .ins i => ((parX r).1.map fun q => (q.1 + 1, q.2), i :: (parX r).2)
def parF (r : Option (Nat × Int) × List Ins) (k : Nat) (c : List Ins) : List Ins × Int × Int := match r.1 with
  | some q => ([], ((k + q.1 : Nat) : Int), q.2)
  | none => if 48 < (c ++ r.2).length then ([], 0, 9) else (c ++ r.2, 0, 0)
theorem parL_X : ∀ (l : List ByteArray) (k : Nat) (c : List Ins), parL l k c = parF (parX l) k c
  | [], k, c => by simp [parL, parX, parF]
  | x :: r, k, c => by
    rw [parL, parX]
    cases hl : lineW (wordsOf x.data.toList) with
    | skip =>
      simp only
      rw [parL_X r (k + 1) c]
      unfold parF
      cases (parX r).1 with
      | none => rfl
      | some q => simp only [Option.map_some]; rw [show k + 1 + q.1 = k + (q.1 + 1) by omega]
    | bad e => rfl
    | ins i =>
      simp only
      rw [parL_X r (k + 1) (c ++ [i])]
      unfold parF
      cases (parX r).1 with
      | none => simp
      | some q => simp only [Option.map_some]; rw [show k + 1 + q.1 = k + (q.1 + 1) by omega]
theorem lineW_bad {ws : List Wd} {e : Int} (h : lineW ws = .bad e) : e = 4 ∨ e = 2 := by
  unfold lineW at h
  split at h
  · cases h
  · split at h
    · cases h
    · split at h
      · cases h; exact .inl rfl
      · split at h
        · cases h; exact .inr rfl
        · cases h
theorem parX_bad : ∀ (l : List ByteArray) (q : Nat × Int), (parX l).1 = some q → 1 ≤ q.1 ∧ (q.2 = 4 ∨ q.2 = 2)
  | [], q, h => by cases h
  | x :: r, q, h => by
    rw [parX] at h
    cases hl : lineW (wordsOf x.data.toList) with
    | skip =>
      rw [hl] at h
      obtain ⟨p, hp, rfl⟩ := Option.map_eq_some_iff.1 h
      exact ⟨by omega, (parX_bad r p hp).2⟩
    | bad e =>
      rw [hl] at h
      cases h
      exact ⟨by omega, lineW_bad hl⟩
    | ins i =>
      rw [hl] at h
      obtain ⟨p, hp, rfl⟩ := Option.map_eq_some_iff.1 h
      exact ⟨by omega, (parX_bad r p hp).2⟩
theorem parX_app : ∀ (a b : List ByteArray), (parX a).1 = none → parX (a ++ b) = ((parX b).1.map fun q => (a.length + q.1, q.2), (parX a).2 ++ (parX b).2)
  | [], b, _ => by
    simp only [List.nil_append, parX, List.length_nil]
    cases h : (parX b).1 with
    | none => ext <;> simp [h]
    | some q => ext <;> simp [h]
  | x :: r, b, h => by
    rw [parX] at h
    rw [List.cons_append, parX]
    conv => rhs; rw [parX.eq_2 x r]
    cases hl : lineW (wordsOf x.data.toList) with
    | skip =>
      rw [hl] at h
      have h' : (parX r).1 = none := by simpa using h
      have ih := parX_app r b h'
      simp only [ih, List.length_cons]
      cases (parX b).1 with
      | none => rfl
      | some q => simp only [Option.map_some]; rw [show r.length + q.1 + 1 = r.length + 1 + q.1 by omega]
    | bad e =>
      rw [hl] at h
      cases h
    | ins i =>
      rw [hl] at h
      have h' : (parX r).1 = none := by simpa using h
      have ih := parX_app r b h'
      simp only [ih, List.length_cons]
      cases (parX b).1 with
      | none => rfl
      | some q => simp only [Option.map_some]; rw [show r.length + q.1 + 1 = r.length + 1 + q.1 by omega]; rfl
def linesT (t : ByteArray) : List ByteArray := (linesR t.data.toList).map bstr
theorem parX_nil (l : List ByteArray) : parX (l ++ [bstr []]) = parX l := by
  have hs : parX [bstr []] = (none, []) := rfl
  induction l with
  | nil => exact hs
  | cons x r ih =>
    rw [List.cons_append, parX, ih]
    conv => rhs; rw [parX]
theorem parX_lines (t : List UInt8) : parX (frags 10 t) = parX ((linesR t).map bstr) := by
  unfold frags linesR
  split
  · next h =>
    obtain ⟨l, hl⟩ : ∃ l, cutAt 10 t = l ++ [[]] := by
      rw [List.getLast?_eq_some_iff] at h
      obtain ⟨l, hl⟩ := h
      exact ⟨l, hl⟩
    rw [hl, List.map_append, List.dropLast_concat]
    exact parX_nil _
  · rfl
theorem frag_first (a : List UInt8) : frags 10 (a ++ [10]) = frags 10 a ++ [bstr []] := by
  unfold frags
  rw [cutAt_mid]
  simp [cutAt]
theorem frag_both (a b : List UInt8) : frags 10 (a ++ 10 :: b) = frags 10 a ++ frags 10 b := by
  unfold frags
  rw [cutAt_mid, List.map_append]
theorem lines_first (a : List UInt8) : linesR (a ++ [10]) = cutAt 10 a := by
  have : cutAt 10 (a ++ [10]) = cutAt 10 a ++ [[]] := by rw [cutAt_mid]; simp [cutAt]
  unfold linesR
  rw [this, if_pos (by simp), List.dropLast_concat]
/-- What ProgramJoins asks. -/
structure Joins (first second : ByteArray) : Prop where
  over : (parT (first ++ ⟨#[10]⟩)).2.2 = 0 → (parT second).2.2 = 0 → 48 < (parT (first ++ ⟨#[10]⟩)).1.length + (parT second).1.length → parT (first ++ ⟨#[10]⟩ ++ second) = ([], 0, 9)
  bad : (parT (first ++ ⟨#[10]⟩)).2.2 = 0 → (parT second).2.2 ≠ 0 → parT (first ++ ⟨#[10]⟩ ++ second) = ([], if 0 < (parT second).2.1 then (parT second).2.1 + ((linesT (first ++ ⟨#[10]⟩)).length : Int) else (parT second).2.1, (parT second).2.2)
  good : (parT (first ++ ⟨#[10]⟩)).2.2 = 0 → (parT second).2.2 = 0 → ¬ 48 < (parT (first ++ ⟨#[10]⟩)).1.length + (parT second).1.length → parT (first ++ ⟨#[10]⟩ ++ second) = ((parT (first ++ ⟨#[10]⟩)).1 ++ (parT second).1, 0, 0)
theorem parT_X {t : ByteArray} (h : t.size ≤ 4000) : parT t = parF (parX (frags 10 t.data.toList)) 0 [] := by
  unfold parT
  rw [if_neg (by omega), parL_X]
theorem joins {first second : ByteArray} (h1 : first.size ≤ 2000) (h2 : second.size ≤ 1900) : Joins first second := by
  have z1 : (first ++ ⟨#[10]⟩ : ByteArray).size = first.size + 1 := by rw [ByteArray.size_append]; rfl
  have z2 : (first ++ ⟨#[10]⟩ ++ second : ByteArray).size = first.size + 1 + second.size := by rw [ByteArray.size_append, z1]
  have d1 : (first ++ ⟨#[10]⟩ : ByteArray).data.toList = first.data.toList ++ [10] := by rw [app_data]
  have d2 : (first ++ ⟨#[10]⟩ ++ second : ByteArray).data.toList = first.data.toList ++ 10 :: second.data.toList := by rw [app_data, d1]; simp
  have e1 := parT_X (t := first ++ ⟨#[10]⟩) (by omega)
  have e2 := parT_X (t := second) (by omega)
  have e3 := parT_X (t := first ++ ⟨#[10]⟩ ++ second) (by omega)
  rw [d1, frag_first, parX_nil] at e1
  rw [d2, frag_both] at e3
  have hl : (linesT (first ++ ⟨#[10]⟩)).length = (frags 10 first.data.toList).length := by
    unfold linesT frags
    rw [d1, lines_first]
  have A : (parT (first ++ ⟨#[10]⟩)).2.2 = 0 → (parX (frags 10 first.data.toList)).1 = none ∧ (parT (first ++ ⟨#[10]⟩)).1 = (parX (frags 10 first.data.toList)).2 ∧ (parX (frags 10 first.data.toList)).2.length ≤ 48 := by
    intro h
    rw [e1] at h ⊢
    unfold parF at h ⊢
    cases hq : (parX (frags 10 first.data.toList)).1 with
    | some q =>
      rw [hq] at h
      have := (parX_bad _ q hq).2
      simp only at h
      omega
    | none =>
      rw [hq] at h
      simp only [List.nil_append] at h ⊢
      split at h
      · cases h
      · next hn => rw [if_neg hn]; exact ⟨trivial, rfl, by omega⟩
  have HA : (parX (frags 10 first.data.toList)).1 = none → parX (frags 10 first.data.toList ++ frags 10 second.data.toList) = ((parX (frags 10 second.data.toList)).1.map fun q => ((frags 10 first.data.toList).length + q.1, q.2), (parX (frags 10 first.data.toList)).2 ++ (parX (frags 10 second.data.toList)).2) := parX_app _ _
  have HB := fun q h => parX_bad (frags 10 second.data.toList) q h
  suffices hJ : ((parT (first ++ ⟨#[10]⟩)).2.2 = 0 → (parF (parX (frags 10 second.data.toList)) 0 []).2.2 = 0 → 48 < (parT (first ++ ⟨#[10]⟩)).1.length + (parF (parX (frags 10 second.data.toList)) 0 []).1.length → parF (parX (frags 10 first.data.toList ++ frags 10 second.data.toList)) 0 [] = ([], 0, 9)) ∧
      ((parT (first ++ ⟨#[10]⟩)).2.2 = 0 → (parF (parX (frags 10 second.data.toList)) 0 []).2.2 ≠ 0 → parF (parX (frags 10 first.data.toList ++ frags 10 second.data.toList)) 0 [] = ([], if 0 < (parF (parX (frags 10 second.data.toList)) 0 []).2.1 then (parF (parX (frags 10 second.data.toList)) 0 []).2.1 + ((frags 10 first.data.toList).length : Int) else (parF (parX (frags 10 second.data.toList)) 0 []).2.1, (parF (parX (frags 10 second.data.toList)) 0 []).2.2)) ∧
      ((parT (first ++ ⟨#[10]⟩)).2.2 = 0 → (parF (parX (frags 10 second.data.toList)) 0 []).2.2 = 0 → ¬ 48 < (parT (first ++ ⟨#[10]⟩)).1.length + (parF (parX (frags 10 second.data.toList)) 0 []).1.length → parF (parX (frags 10 first.data.toList ++ frags 10 second.data.toList)) 0 [] = ((parT (first ++ ⟨#[10]⟩)).1 ++ (parF (parX (frags 10 second.data.toList)) 0 []).1, 0, 0)) by
    rw [← e2, ← e3, ← hl] at hJ
    exact ⟨hJ.1, hJ.2.1, hJ.2.2⟩
  clear e1 e2 e3 hl z1 z2 d1 d2 h1 h2
  generalize parT (first ++ ⟨#[10]⟩) = pa at *
  generalize parX (frags 10 first.data.toList) = ra at *
  generalize (frags 10 first.data.toList ++ frags 10 second.data.toList) = fb at *
  generalize parX (frags 10 second.data.toList) = rb at *
  generalize (frags 10 first.data.toList).length = m at *
  obtain ⟨r1, r2⟩ := rb
  cases r1 with
  | some q =>
    have hq := HB q rfl
    have hp : parF (some q, r2) 0 [] = ([], ((0 + q.1 : Nat) : Int), q.2) := rfl
    rw [hp]
    refine ⟨fun ha hb hc => ?_, fun ha hb => ?_, fun ha hb hc => ?_⟩
    · exfalso; have hb' : q.2 = 0 := hb; omega
    · obtain ⟨a1, a2, a3⟩ := A ha
      rw [HA a1]
      have hp2 : parF ((some q).map fun q => (m + q.1, q.2), ra.2 ++ r2) 0 [] = ([], ((0 + (m + q.1) : Nat) : Int), q.2) := rfl
      rw [hp2]
      rw [if_pos (show (0 : Int) < ((0 + q.1 : Nat) : Int) by omega)]
      congr 2
      show ((0 + (m + q.1) : Nat) : Int) = ((0 + q.1 : Nat) : Int) + (m : Int)
      omega
    · exfalso; have hb' : q.2 = 0 := hb; omega
  | none =>
    have hp : parF (none, r2) 0 [] = if 48 < r2.length then ([], 0, 9) else (r2, 0, 0) := rfl
    rw [hp]
    have hp2 : ∀ u : List Ins, parF (none, u) 0 [] = if 48 < u.length then ([], 0, 9) else (u, 0, 0) := fun _ => rfl
    refine ⟨fun ha hb hc => ?_, fun ha hb => ?_, fun ha hb hc => ?_⟩
    all_goals
      obtain ⟨a1, a2, a3⟩ := A ha
      rw [HA a1]
      simp only [Option.map_none]
      rw [hp2]
    · by_cases h48 : 48 < r2.length
      · rw [if_pos h48] at hb; cases hb
      · rw [if_neg h48, a2] at hc
        rw [if_pos (by rw [List.length_append]; exact hc)]
    · by_cases h48 : 48 < r2.length
      · rw [if_pos h48, if_pos (by rw [List.length_append]; omega)]
        rfl
      · rw [if_neg h48] at hb; exact absurd rfl hb
    · by_cases h48 : 48 < r2.length
      · rw [if_pos h48] at hb; cases hb
      · rw [if_neg h48, a2] at hc
        rw [if_neg h48, a2, if_neg (by rw [List.length_append]; exact hc)]

/-! ### The form of a line -/
/-- No end of a line but at the end, no space ahead of a space or of the end. -/
def okB : List UInt8 → Bool
  | [] => true
  | b :: t => match t with
    | [] => true
    | c :: _ => !(b == 10 || (b == 32 && (c == 32 || c == 10))) && okB t
theorem okB_cons {b : UInt8} (h : 33 ≤ b.toNat) (t : List UInt8) : okB (b :: t) = okB t := by
  have h1 : (b == 10) = false := by simp; rintro rfl; simp at h
  have h2 : (b == 32) = false := by simp; rintro rfl; simp at h
  cases t with
  | nil => rfl
  | cons c t => conv => lhs; rw [okB]
                simp [h1, h2]
theorem okB_word : ∀ (w r : List UInt8), (∀ b ∈ w, 33 ≤ b.toNat) → okB (w ++ r) = okB r
  | [], r, _ => rfl
  | b :: w, r, h => by rw [List.cons_append, okB_cons (h b (by simp)), okB_word w r (fun c hc => h c (by simp [hc]))]
theorem okB_spj : ∀ (ws : List Wd) (w : Wd), PW w → (∀ v ∈ ws, PW v) → okB (spj w ws ++ [10]) = true
  | [], w, h, _ => by
    unfold spj
    rw [List.flatMap_nil, List.append_nil, okB_word _ _ h.2]
    rfl
  | v :: ws, w, h, hv => by
    have ih := okB_spj ws v (hv v (by simp)) (fun u hu => hv u (by simp [hu]))
    have hp := hv v (by simp)
    obtain ⟨b, t, rfl⟩ : ∃ b t, v = b :: t := by
      cases v with
      | nil => exact absurd rfl hp.1
      | cons b t => exact ⟨b, t, rfl⟩
    have hb := hp.2 b (by simp)
    have h1 : (b == 10) = false := by simp; rintro rfl; simp at hb
    have h2 : (b == 32) = false := by simp; rintro rfl; simp at hb
    unfold spj at ih ⊢
    rw [List.append_assoc, okB_word _ _ h.2, List.flatMap_cons]
    simp only [List.cons_append] at ih ⊢
    conv => lhs; rw [okB]
    simp only [h1, h2]
    simpa using ih
theorem lines_form {x : Ins} (h : refI x = 0) : ∃ b t, (fmtT [x]).data.toList = b :: t ∧ b ≠ 32 ∧ (b :: t).getLast? = some 10 ∧ okB (b :: t) = true := by
  have hw := wds_pw (okL_of h)
  have hd : (fmtT [x]).data.toList = spj (wdsI x).1 (wdsI x).2 ++ [10] := by
    rw [fmt_data]
    simp [lnL, line_data]
  have hg := okB_spj _ _ hw.1 hw.2
  obtain ⟨b, t, hb⟩ : ∃ b t, (wdsI x).1 = b :: t := by
    cases hq : (wdsI x).1 with
    | nil => exact absurd hq hw.1.1
    | cons b t => exact ⟨b, t, rfl⟩
  have hb2 := hw.1.2 b (by simp [hb])
  refine ⟨b, t ++ (wdsI x).2.flatMap (fun v => 32 :: v) ++ [10], ?_, ?_, ?_, ?_⟩
  · rw [hd, hb]; simp [spj]
  · rintro rfl; simp at hb2
  · rw [← List.cons_append, List.getLast?_append]; simp
  · rw [hb] at hg
    simpa [spj] using hg
end Go.Proofs.YtiomnlgnhdhffaaDoor
