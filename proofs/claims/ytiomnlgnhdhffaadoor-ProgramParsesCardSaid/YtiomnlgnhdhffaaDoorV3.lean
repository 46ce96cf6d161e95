/-
  Plain law: Parse restores a valid program from its text; what is parsed is valid; two texts one behind the other. Conditions: none but what each theorem names.
-/
import Derived.Test.YtiomnlgnhdhffaaDoorV2
namespace Go.Proofs.YtiomnlgnhdhffaaDoor
open Go.RowKit
set_option linter.unusedVariables false
set_option linter.unusedSimpArgs false

def lnL (x : Ins) : Wd := (lineT x).data.toList
theorem fmt_fold (xs : List Ins) : ∀ s : ByteArray, (xs.foldl (fun a x => a ++ (lineT x ++ ⟨#[10]⟩)) s).data.toList = s.data.toList ++ xs.flatMap (fun x => lnL x ++ [10]) := by
  induction xs with
  | nil => intro s; simp
  | cons x t ih =>
    intro s
    rw [List.foldl_cons, ih]
    simp only [app_data, List.flatMap_cons, lnL]
    simp
theorem fmt_data (xs : List Ins) : (fmtT xs).data.toList = xs.flatMap (fun x => lnL x ++ [10]) := by
  unfold fmtT
  rw [fmt_fold]
  simp
theorem cut_lines : ∀ xs : List Ins, (∀ x ∈ xs, OkL x) → cutAt 10 (xs.flatMap (fun x => lnL x ++ [10])) = xs.map lnL ++ [[]]
  | [], _ => rfl
  | x :: t, h => by
    have ih := cut_lines t (fun y hy => h y (by simp [hy]))
    have hw := wds_pw (h x (by simp))
    rw [List.flatMap_cons, List.append_assoc, List.singleton_append, cutAt_app _ (by unfold lnL; rw [line_data]; exact spj_no10 hw.1 hw.2), ih]
    rfl
theorem words_line {x : Ins} (h : OkL x) : wordsOf (lnL x) = (wdsI x).1 :: (wdsI x).2 := by
  have hw := wds_pw h
  unfold lnL
  rw [line_data]
  exact wordsOf_spj hw.1 hw.2
theorem parL_back : ∀ (xs : List Ins) (k : Nat) (c : List Ins), (∀ x ∈ xs, refI x = 0) → (c ++ xs).length ≤ 48 → parL ((xs.map lnL ++ [[]]).map bstr) k c = (c ++ xs, 0, 0)
  | [], k, c, _, hl => by
    have : wordsOf (bstr []).data.toList = [] := rfl
    simp only [List.map_nil, List.nil_append, List.map_cons, parL, this, lineW, List.append_nil] at hl ⊢
    rw [if_neg (by omega)]
  | x :: t, k, c, h, hl => by
    have hx := h x (by simp)
    have ih := parL_back t (k + 1) (c ++ [x]) (fun y hy => h y (by simp [hy])) (by simpa using hl)
    rw [List.map_cons, List.cons_append, List.map_cons, parL, bstr_data, words_line (okL_of hx), line_back hx]
    simp only
    rw [ih]
    simp
theorem refL_ok : ∀ {xs : List Ins}, chkL xs = 0 → ∀ x ∈ xs, refI x = 0
  | [], _, x, hx => by simp at hx
  | y :: r, h, x, hx => by
    rw [chkL] at h
    by_cases hy : chkI y = 0
    · rw [if_pos hy] at h
      rcases List.mem_cons.1 hx with rfl | hx
      · rw [← chk_ref]; exact hy
      · exact refL_ok h x hx
    · rw [if_neg hy] at h
      exact absurd h hy
theorem mapT_size2 {x : Ins} (h : OkI x) : (mapT x).size ≤ 55 := by
  have h1 := pageT_size h.page
  have h2 := num_size h.count.1 h.count.2
  have h3 := prot_size x.prot
  have h4 := flT_size x.flags (((⟨#[]⟩ : ByteArray) ++ ⟨#[109, 97, 112, 32]⟩ ++ pageT x.page) ++ (⟨#[32]⟩ ++ numT x.count ++ ⟨#[32]⟩ ++ protT x.prot)) 4
  simp only [ByteArray.size_append, ByteArray.size_mk', List.size_toArray, List.length_cons, List.length_nil] at h4
  unfold mapT
  dsimp only
  split
  · omega
  · next hf =>
    have h5 := num_size (n := x.file) (by have := h.file; omega) (by have := h.file; omega)
    have h6 := num_size h.index.1 h.index.2
    simp only [ByteArray.size_append, ByteArray.size_mk', List.size_toArray, List.length_cons, List.length_nil]
    omega
theorem join_size2 {s : ByteArray} {ns : List Int} (h : ∀ n ∈ ns, 0 ≤ n ∧ n < 1000) (hs : s.size ≤ 8) (hn : ns.length ≤ 4) : (joinT s ns).size ≤ 30 := by
  have := join_size ns h s
  omega
theorem lineT_size2 {x : Ins} (h : OkL x) : (lineT x).size ≤ 55 := by
  obtain ⟨⟨hp, hc, hi, hv, hf, hfl⟩, hr⟩ := h
  unfold lineT
  by_cases h1 : x.op = 1
  · rw [if_pos h1]; exact mapT_size2 ⟨hp, hc, hi, hv, hf, hfl⟩
  · rw [if_neg h1]
    obtain ⟨hr1, hr2⟩ := hr h1
    have hp' : 0 ≤ x.page ∧ x.page < 1000 := by omega
    have hf' : 0 ≤ x.file ∧ x.file < 1000 := by omega
    have h3 := prot_size x.prot
    have h2 := join_size2 (s := ⟨#[112, 114, 111, 116, 101, 99, 116]⟩) (ns := [x.page, x.count]) (by simp; omega) (by decide) (by simp)
    have hj : (joinT ⟨#[112, 114, 111, 116, 101, 99, 116]⟩ [x.page, x.count] ++ ⟨#[32]⟩ ++ protT x.prot).size ≤ 55 := by
      simp only [ByteArray.size_append, ByteArray.size_mk', List.size_toArray, List.length_cons, List.length_nil]
      omega
    repeat' apply size_ite
    all_goals first
      | exact hj
      | exact Nat.le_trans (join_size2 (by simp; omega) (by decide) (by simp)) (by omega)
      | decide
theorem fmt_size2 (xs : List Ins) (h : ∀ x ∈ xs, OkL x) : (fmtT xs).size ≤ 56 * xs.length := by
  have hd : (fmtT xs).size = (xs.flatMap (fun x => lnL x ++ [10])).length := by rw [← fmt_data]; rfl
  rw [hd]
  clear hd
  induction xs with
  | nil => simp
  | cons x t ih =>
    have ih := ih (fun y hy => h y (by simp [hy]))
    have hz := lineT_size2 (h x (by simp))
    have hz' : (lnL x).length = (lineT x).size := rfl
    rw [List.flatMap_cons, List.length_append, List.length_append, List.length_singleton, List.length_cons]
    omega
/-- The text of a valid program is parsed to the program. -/
theorem par_fmt {xs : List Ins} (h : chkP xs = 0) : parT (fmtT xs) = (xs, 0, 0) := by
  have hlen : xs.length ≤ 48 := by
    by_cases h48 : 48 < xs.length
    · simp [chkP, h48] at h
    · omega
  rw [chkP, if_neg (by omega)] at h
  have hok := refL_ok h
  have hz := fmt_size2 xs (chkL_ok h)
  unfold parT
  rw [if_neg (by omega), frags, fmt_data, cut_lines xs (chkL_ok h), parL_back xs 0 [] hok (by simpa using hlen)]
  rfl

/-! ### What is parsed is valid. -/
theorem lineW_ok {ws : List Wd} {x : Ins} (h : lineW ws = .ins x) : chkI x = 0 := by
  unfold lineW at h
  split at h
  · cases h
  · next w t =>
    split at h
    · cases h
    · split at h
      · cases h
      · split at h
        · cases h
        · next hk => cases h; simpa using hk
theorem chkL_snoc : ∀ (c : List Ins) (x : Ins), chkL c = 0 → chkI x = 0 → chkL (c ++ [x]) = 0
  | [], x, _, hx => by simp [chkL, hx]
  | y :: c, x, hc, hx => by
    rw [chkL] at hc
    by_cases hy : chkI y = 0
    · rw [if_pos hy] at hc
      rw [List.cons_append, chkL, if_pos hy]
      exact chkL_snoc c x hc hx
    · rw [if_neg hy] at hc
      exact absurd hc hy
theorem parL_ok : ∀ (l : List ByteArray) (k : Nat) (c : List Ins), chkL c = 0 → ((parL l k c).2.2 = 0 → chkP (parL l k c).1 = 0) ∧ ((parL l k c).2.2 ≠ 0 → (parL l k c).1 = [])
  | [], k, c, hc => by
    rw [parL]
    by_cases h : 48 < c.length
    · rw [if_pos h]; exact ⟨fun e => absurd e (by decide), fun _ => rfl⟩
    · rw [if_neg h]; exact ⟨fun _ => by rw [chkP, if_neg h]; exact hc, fun e => absurd rfl e⟩
  | x :: r, k, c, hc => by
    rw [parL]
    cases hl : lineW (wordsOf x.data.toList) with
    | skip => exact parL_ok r (k + 1) c hc
    | bad e =>
      refine ⟨fun he => ?_, fun _ => rfl⟩
      exfalso
      have he : e = 0 := he
      subst he
      unfold lineW at hl
      split at hl
      · cases hl
      · split at hl
        · cases hl
        · split at hl
          · cases hl
          · split at hl
            · cases hl
            · cases hl
    | ins i => exact parL_ok r (k + 1) (c ++ [i]) (chkL_snoc c i hc (lineW_ok hl))
theorem par_ok (t : ByteArray) : ((parT t).2.2 = 0 → chkP (parT t).1 = 0) ∧ ((parT t).2.2 ≠ 0 → (parT t).1 = []) := by
  unfold parT
  split
  · exact ⟨fun e => absurd e (by decide), fun _ => rfl⟩
  · exact parL_ok _ 0 [] rfl
end Go.Proofs.YtiomnlgnhdhffaaDoor
