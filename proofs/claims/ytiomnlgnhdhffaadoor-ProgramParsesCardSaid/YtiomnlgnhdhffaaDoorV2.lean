/-
  Plain law: the words of a valid instruction's line, and the instruction is read back. Conditions: none but what each theorem names.
-/
import Derived.Test.YtiomnlgnhdhffaaDoorV1
namespace Go.Proofs.YtiomnlgnhdhffaaDoor
open Go.RowKit
set_option linter.unusedVariables false
set_option linter.unusedSimpArgs false

def flWs (f : Int) : Nat → List Wd
  | 0 => []
  | k + 1 => if (bits BinOp.and IntKind.i64 (f / 2 ^ k) 1 == 1) = true then flWs f k ++ [flagW k] else flWs f k
def protW (n : Int) : Wd := if n = 1 then [114] else [114, 119]
/-- The words of an instruction's line behind the first one. -/
def wdsI (x : Ins) : Wd × List Wd :=
  if x.op = 1 then ([109, 97, 112], (if x.page = -1 then [97, 110, 121] else Lib.itoa x.page) :: Lib.itoa x.count :: protW x.prot :: (flWs x.flags 4 ++ if x.file = -1 then [] else [[102, 105, 108, 101], Lib.itoa x.file, Lib.itoa x.index]))
  else if x.op = 2 then ([117, 110, 109, 97, 112], [Lib.itoa x.page, Lib.itoa x.count])
  else if x.op = 3 then ([112, 114, 111, 116, 101, 99, 116], [Lib.itoa x.page, Lib.itoa x.count, protW x.prot])
  else if x.op = 4 then (if x.value = 0 then [117, 110, 108, 111, 99, 107] else [108, 111, 99, 107], [Lib.itoa x.page, Lib.itoa x.count])
  else if x.op = 5 then ([108, 111, 97, 100], [Lib.itoa x.page, Lib.itoa x.index])
  else if x.op = 6 then ([115, 116, 111, 114, 101], [Lib.itoa x.page, Lib.itoa x.index, Lib.itoa x.value])
  else if x.op = 7 then ([114, 101, 97, 100], [Lib.itoa x.file, Lib.itoa x.page, Lib.itoa x.index])
  else if x.op = 8 then ([119, 114, 105, 116, 101], [Lib.itoa x.file, Lib.itoa x.page, Lib.itoa x.index, Lib.itoa x.value])
  else if x.op = 9 then ([116, 114, 117, 110, 99, 97, 116, 101], [Lib.itoa x.file, Lib.itoa x.count])
  else if x.op = 10 then ([115, 121, 110, 99], [Lib.itoa x.file])
  else if x.op = 11 then ([102, 111, 114, 107], [Lib.itoa x.value])
  else ([101, 120, 105, 116], [])

/-! ### The text of a line is its words. -/
theorem bstr_data (l : Wd) : (bstr l).data.toList = l := by simp [bstr]
theorem numT_data (n : Int) : (numT n).data.toList = Lib.itoa n := bstr_data _
theorem app_data (a b : ByteArray) : (a ++ b).data.toList = a.data.toList ++ b.data.toList := by simp [ByteArray.data_append]
theorem join_data (ns : List Int) : ∀ s : ByteArray, (joinT s ns).data.toList = spj s.data.toList (ns.map Lib.itoa) := by
  induction ns with
  | nil => intro s; simp [joinT, spj]
  | cons n t ih =>
    intro s
    have := ih (s ++ (⟨#[32]⟩ ++ numT n))
    unfold joinT at this ⊢
    rw [List.foldl_cons, this]
    simp only [spj, app_data, numT_data, List.map_cons, List.flatMap_cons]
    simp
theorem prot_data (n : Int) : (protT n).data.toList = protW n := by unfold protT protW; split <;> rfl
theorem flT_data (f : Int) (t : ByteArray) : ∀ k, (flT f t k).data.toList = t.data.toList ++ (flWs f k).flatMap (fun v => 32 :: v)
  | 0 => by simp [flT, flWs]
  | k + 1 => by
    have ih := flT_data f t k
    rw [flT, flWs]
    split
    · rw [app_data, ih, app_data, bstr_data, List.flatMap_append]
      simp
    · exact ih
theorem spj_snoc (w : Wd) (a b : List Wd) : spj w (a ++ b) = spj w a ++ b.flatMap (fun v => 32 :: v) := by simp [spj]
theorem page_data (p : Int) : (pageT p).data.toList = if p = -1 then [97, 110, 121] else Lib.itoa p := by
  unfold pageT; split
  · rfl
  · exact numT_data _
theorem line_data (x : Ins) : (lineT x).data.toList = spj (wdsI x).1 (wdsI x).2 := by
  unfold lineT wdsI
  by_cases h1 : x.op = 1
  · rw [if_pos h1, if_pos h1]
    unfold mapT
    dsimp only
    by_cases h5 : x.file = -1
    · rw [if_pos h5, if_pos h5, flT_data]
      simp only [app_data, numT_data, prot_data, page_data, spj, List.flatMap_cons, List.flatMap_append]
      simp
    · rw [if_neg h5, if_neg h5, app_data, flT_data]
      simp only [app_data, numT_data, prot_data, page_data, spj, List.flatMap_cons, List.flatMap_append]
      simp
  rw [if_neg h1, if_neg h1]
  by_cases h2 : x.op = 2
  · rw [if_pos h2, if_pos h2, join_data]; rfl
  rw [if_neg h2, if_neg h2]
  by_cases h3 : x.op = 3
  · rw [if_pos h3, if_pos h3, app_data, app_data, join_data, prot_data]
    simp [spj]
  rw [if_neg h3, if_neg h3]
  by_cases h4 : x.op = 4
  · rw [if_pos h4, if_pos h4]
    by_cases hv : x.value = 0
    · rw [if_pos hv, if_pos hv, join_data]; rfl
    · rw [if_neg hv, if_neg hv, join_data]; rfl
  rw [if_neg h4, if_neg h4]
  by_cases h5 : x.op = 5
  · rw [if_pos h5, if_pos h5, join_data]; rfl
  rw [if_neg h5, if_neg h5]
  by_cases h6 : x.op = 6
  · rw [if_pos h6, if_pos h6, join_data]; rfl
  rw [if_neg h6, if_neg h6]
  by_cases h7 : x.op = 7
  · rw [if_pos h7, if_pos h7, join_data]; rfl
  rw [if_neg h7, if_neg h7]
  by_cases h8 : x.op = 8
  · rw [if_pos h8, if_pos h8, join_data]; rfl
  rw [if_neg h8, if_neg h8]
  by_cases h9 : x.op = 9
  · rw [if_pos h9, if_pos h9, join_data]; rfl
  rw [if_neg h9, if_neg h9]
  by_cases h10 : x.op = 10
  · rw [if_pos h10, if_pos h10, join_data]; rfl
  rw [if_neg h10, if_neg h10]
  by_cases h11 : x.op = 11
  · rw [if_pos h11, if_pos h11, join_data]; rfl
  rw [if_neg h11, if_neg h11]
  rfl

/-! ### The words are read back. -/
theorem lineW_of {w : Wd} {t : List Wd} {x : Ins} (hw : w.headD 0 ≠ 35) (e : insS (w :: t, true) = (x, ([], true))) (hc : chkI x = 0) : lineW (w :: t) = .ins x := by
  unfold lineW
  dsimp only
  rw [if_neg hw]
  simp only [e, hc]
  simp
theorem protS_w {n : Int} (h : n = 1 ∨ n = 3) (t : List Wd) (f : Bool) : protS (protW n :: t, f) = (n, (t, f)) := by
  rcases h with rfl | rfl
  · rfl
  · rfl
theorem flagS_w {f : Int} (h0 : 0 ≤ f) (h1 : f < 16) (r : List Wd) (hr : r = [] ∨ ∃ a b, r = [[102, 105, 108, 101], a, b]) : flagS (flWs f 4 ++ r, true) 4 = (f, (r, true)) := by
  have hc : f = 0 ∨ f = 1 ∨ f = 2 ∨ f = 3 ∨ f = 4 ∨ f = 5 ∨ f = 6 ∨ f = 7 ∨ f = 8 ∨ f = 9 ∨ f = 10 ∨ f = 11 ∨ f = 12 ∨ f = 13 ∨ f = 14 ∨ f = 15 := by omega
  rcases hr with rfl | ⟨a, b, rfl⟩ <;> rcases hc with rfl | rfl | rfl | rfl | rfl | rfl | rfl | rfl | rfl | rfl | rfl | rfl | rfl | rfl | rfl | rfl <;> rfl
theorem map_back {x1 x2 x3 x5 x6 x7 : Int} (h1 : x1 = -1 ∨ (0 ≤ x1 ∧ x1 < 1000)) (h2 : 0 ≤ x2 ∧ x2 < 1000) (h6 : x6 = 1 ∨ x6 = 3) (h7 : 0 ≤ x7 ∧ x7 < 16) (h5 : (x5 = -1 ∧ x3 = 0) ∨ ((0 ≤ x5 ∧ x5 < 1000) ∧ (0 ≤ x3 ∧ x3 < 1000))) :
    insS ([109, 97, 112] :: (wdsI ⟨1, x1, x2, x3, 0, x5, x6, x7⟩).2, true) = (⟨1, x1, x2, x3, 0, x5, x6, x7⟩, ([], true)) := by
  have e1 : ∀ t, (if (atS [97, 110, 121] ((if x1 = -1 then [97, 110, 121] else Lib.itoa x1) :: t, true)).1 = true then (-1, (atS [97, 110, 121] ((if x1 = -1 then [97, 110, 121] else Lib.itoa x1) :: t, true)).2) else numS (atS [97, 110, 121] ((if x1 = -1 then [97, 110, 121] else Lib.itoa x1) :: t, true)).2) = (x1, (t, true)) := by
    intro t
    rcases h1 with rfl | h1
    · rfl
    · have hne : ¬ x1 = -1 := by omega
      simp only [if_neg hne, atS, if_neg (itoa_not_any h1)]
      simp [numS_itoa h1]
  show mapS ((wdsI ⟨1, x1, x2, x3, 0, x5, x6, x7⟩).2, true) = _
  unfold wdsI mapS
  rw [if_pos rfl]
  dsimp only
  rw [e1]
  rcases h5 with ⟨rfl, rfl⟩ | ⟨h5, h3⟩
  · rw [if_pos rfl]
    simp only [numS_itoa h2, protS_w h6]
    simp only [flagS_w h7.1 h7.2 [] (.inl rfl)]
    rfl
  · rw [if_neg (by omega)]
    simp only [numS_itoa h2, protS_w h6]
    simp only [flagS_w h7.1 h7.2 _ (.inr ⟨_, _, rfl⟩)]
    simp only [atS]
    simp [numS_itoa h5, numS_itoa h3]
set_option maxHeartbeats 4000000 in
theorem line_back {x : Ins} (h : refI x = 0) : lineW ((wdsI x).1 :: (wdsI x).2) = .ins x := by
  have hck : chkI x = 0 := by rw [chk_ref]; exact h
  obtain ⟨x0, x1, x2, x3, x4, x5, x6, x7⟩ := x
  unfold refI at h
  by_cases h1 : inR x0 1 12 = true
  · simp only [h1] at h
    by_cases h2 : usedI ⟨x0, x1, x2, x3, x4, x5, x6, x7⟩ = ⟨x0, x1, x2, x3, x4, x5, x6, x7⟩
    · simp only [h2] at h
      cases h3 : rngR ⟨x0, x1, x2, x3, x4, x5, x6, x7⟩
      · simp [h3] at h
      · clear h
        have h1' : 1 ≤ x0 ∧ x0 ≤ 12 := by simpa [inR] using h1
        clear h1
        have hc : x0 = 1 ∨ x0 = 2 ∨ x0 = 3 ∨ x0 = 4 ∨ x0 = 5 ∨ x0 = 6 ∨ x0 = 7 ∨ x0 = 8 ∨ x0 = 9 ∨ x0 = 10 ∨ x0 = 11 ∨ x0 = 12 := by omega
        rcases hc with rfl | rfl | rfl | rfl | rfl | rfl | rfl | rfl | rfl | rfl | rfl | rfl <;> simp [usedI] at h2 <;> simp [rngR, memR, inR] at h3
        · obtain rfl : x4 = 0 := by omega
          refine lineW_of (by simp [wdsI]) (map_back ?_ ?_ ?_ ?_ ?_) hck <;> omega
        · obtain rfl : x3 = 0 := by omega
          obtain rfl : x4 = 0 := by omega
          obtain rfl : x5 = 0 := by omega
          obtain rfl : x6 = 0 := by omega
          obtain rfl : x7 = 0 := by omega
          refine lineW_of (by simp [wdsI]) ?_ hck
          simp [wdsI, insS, nextS, numS_itoa (n := x1) (by omega), numS_itoa (n := x2) (by omega)]
        · obtain rfl : x3 = 0 := by omega
          obtain rfl : x4 = 0 := by omega
          obtain rfl : x5 = 0 := by omega
          obtain rfl : x7 = 0 := by omega
          refine lineW_of (by simp [wdsI]) ?_ hck
          simp [wdsI, insS, nextS, numS_itoa (n := x1) (by omega), numS_itoa (n := x2) (by omega), protS_w (n := x6) (by omega)]
        · obtain rfl : x3 = 0 := by omega
          obtain rfl : x5 = 0 := by omega
          obtain rfl : x6 = 0 := by omega
          obtain rfl : x7 = 0 := by omega
          have h4 : x4 = 0 ∨ x4 = 1 := by omega
          rcases h4 with rfl | rfl
          · refine lineW_of (by simp [wdsI]) ?_ hck
            simp [wdsI, insS, nextS, numS_itoa (n := x1) (by omega), numS_itoa (n := x2) (by omega)]
          · refine lineW_of (by simp [wdsI]) ?_ hck
            simp [wdsI, insS, nextS, numS_itoa (n := x1) (by omega), numS_itoa (n := x2) (by omega)]
        · obtain rfl : x2 = 0 := by omega
          obtain rfl : x4 = 0 := by omega
          obtain rfl : x5 = 0 := by omega
          obtain rfl : x6 = 0 := by omega
          obtain rfl : x7 = 0 := by omega
          refine lineW_of (by simp [wdsI]) ?_ hck
          simp [wdsI, insS, nextS, numS_itoa (n := x1) (by omega), numS_itoa (n := x3) (by omega)]
        · obtain rfl : x2 = 0 := by omega
          obtain rfl : x5 = 0 := by omega
          obtain rfl : x6 = 0 := by omega
          obtain rfl : x7 = 0 := by omega
          refine lineW_of (by simp [wdsI]) ?_ hck
          simp [wdsI, insS, nextS, numS_itoa (n := x1) (by omega), numS_itoa (n := x3) (by omega), numS_itoa (n := x4) (by omega)]
        · obtain rfl : x2 = 0 := by omega
          obtain rfl : x4 = 0 := by omega
          obtain rfl : x6 = 0 := by omega
          obtain rfl : x7 = 0 := by omega
          refine lineW_of (by simp [wdsI]) ?_ hck
          simp [wdsI, insS, nextS, numS_itoa (n := x1) (by omega), numS_itoa (n := x3) (by omega), numS_itoa (n := x5) (by omega)]
        · obtain rfl : x2 = 0 := by omega
          obtain rfl : x6 = 0 := by omega
          obtain rfl : x7 = 0 := by omega
          refine lineW_of (by simp [wdsI]) ?_ hck
          simp [wdsI, insS, nextS, numS_itoa (n := x1) (by omega), numS_itoa (n := x3) (by omega), numS_itoa (n := x4) (by omega), numS_itoa (n := x5) (by omega)]
        · obtain rfl : x1 = 0 := by omega
          obtain rfl : x3 = 0 := by omega
          obtain rfl : x4 = 0 := by omega
          obtain rfl : x6 = 0 := by omega
          obtain rfl : x7 = 0 := by omega
          refine lineW_of (by simp [wdsI]) ?_ hck
          simp [wdsI, insS, nextS, numS_itoa (n := x2) (by omega), numS_itoa (n := x5) (by omega)]
        · obtain rfl : x1 = 0 := by omega
          obtain rfl : x2 = 0 := by omega
          obtain rfl : x3 = 0 := by omega
          obtain rfl : x4 = 0 := by omega
          obtain rfl : x6 = 0 := by omega
          obtain rfl : x7 = 0 := by omega
          refine lineW_of (by simp [wdsI]) ?_ hck
          simp [wdsI, insS, nextS, numS_itoa (n := x5) (by omega)]
        · obtain rfl : x1 = 0 := by omega
          obtain rfl : x2 = 0 := by omega
          obtain rfl : x3 = 0 := by omega
          obtain rfl : x5 = 0 := by omega
          obtain rfl : x6 = 0 := by omega
          obtain rfl : x7 = 0 := by omega
          refine lineW_of (by simp [wdsI]) ?_ hck
          simp [wdsI, insS, nextS, numS_itoa (n := x4) (by omega)]
        · obtain rfl : x1 = 0 := by omega
          obtain rfl : x2 = 0 := by omega
          obtain rfl : x3 = 0 := by omega
          obtain rfl : x4 = 0 := by omega
          obtain rfl : x5 = 0 := by omega
          obtain rfl : x6 = 0 := by omega
          obtain rfl : x7 = 0 := by omega
          refine lineW_of (by simp [wdsI]) ?_ hck
          simp [wdsI, insS, nextS]
    · simp [h2] at h
  · simp [h1] at h
theorem protW_pw (n : Int) : PW (protW n) := by unfold protW; split <;> exact ⟨by decide, by decide⟩
theorem flWs_pw (f : Int) : ∀ k, ∀ v ∈ flWs f k, PW v
  | 0, v, h => by cases h
  | k + 1, v, h => by
    rw [flWs] at h
    split at h
    · rcases List.mem_append.1 h with h | h
      · exact flWs_pw f k v h
      · rw [List.mem_singleton] at h
        subst h
        match k with
        | 0 => exact ⟨by decide, by decide⟩
        | 1 => exact ⟨by decide, by decide⟩
        | 2 => exact ⟨by decide, by decide⟩
        | k + 3 => exact ⟨by simp [flagW], by simp [flagW]⟩
    · exact flWs_pw f k v h
def PWs (p : Wd × List Wd) : Prop := PW p.1 ∧ ∀ v ∈ p.2, PW v
theorem pws_ite {c : Prop} [Decidable c] {a b : Wd × List Wd} (ha : c → PWs a) (hb : ¬ c → PWs b) : PWs (if c then a else b) := by
  by_cases h : c
  · rw [if_pos h]; exact ha h
  · rw [if_neg h]; exact hb h
theorem pws_mk {w : Wd} {l : List Wd} (hw : PW w) (hl : ∀ v ∈ l, PW v) : PWs (w, l) := ⟨hw, hl⟩
theorem pw_cons {v : Wd} {l : List Wd} (h : PW v) (hl : ∀ u ∈ l, PW u) : ∀ u ∈ v :: l, PW u := fun u hu => by
  rcases List.mem_cons.1 hu with rfl | hu
  · exact h
  · exact hl u hu
theorem pw_nil : ∀ u ∈ ([] : List Wd), PW u := fun u hu => by cases hu
theorem wds_pw {x : Ins} (h : OkL x) : PW (wdsI x).1 ∧ ∀ v ∈ (wdsI x).2, PW v := by
  obtain ⟨⟨hp, hc, hi, hv, hf, hfl⟩, hr⟩ := h
  have ic := itoa_pw hc.1
  have ii := itoa_pw hi.1
  have iv := itoa_pw hv.1
  have ir := protW_pw x.prot
  show PWs (wdsI x)
  unfold wdsI
  refine pws_ite (fun h1 => pws_mk ⟨by decide, by decide⟩ (pw_cons ?_ (pw_cons ic (pw_cons ir fun v hm => ?_)))) (fun h1 => ?_)
  · split
    · exact ⟨by decide, by decide⟩
    · exact itoa_pw (by omega)
  · rcases List.mem_append.1 hm with hm | hm
    · exact flWs_pw _ _ v hm
    · split at hm
      · cases hm
      · next h5 =>
        have i5 := itoa_pw (n := x.file) (by omega)
        exact pw_cons (v := [102, 105, 108, 101]) ⟨by decide, by decide⟩ (pw_cons i5 (pw_cons ii pw_nil)) v hm
  · have ip := itoa_pw (hr h1).1
    have i5 := itoa_pw (hr h1).2
    refine pws_ite (fun _ => pws_mk ⟨by decide, by decide⟩ (pw_cons ip (pw_cons ic pw_nil))) fun _ => ?_
    refine pws_ite (fun _ => pws_mk ⟨by decide, by decide⟩ (pw_cons ip (pw_cons ic (pw_cons ir pw_nil)))) fun _ => ?_
    refine pws_ite (fun _ => pws_mk ?_ (pw_cons ip (pw_cons ic pw_nil))) fun _ => ?_
    · split <;> exact ⟨by decide, by decide⟩
    refine pws_ite (fun _ => pws_mk ⟨by decide, by decide⟩ (pw_cons ip (pw_cons ii pw_nil))) fun _ => ?_
    refine pws_ite (fun _ => pws_mk ⟨by decide, by decide⟩ (pw_cons ip (pw_cons ii (pw_cons iv pw_nil)))) fun _ => ?_
    refine pws_ite (fun _ => pws_mk ⟨by decide, by decide⟩ (pw_cons i5 (pw_cons ip (pw_cons ii pw_nil)))) fun _ => ?_
    refine pws_ite (fun _ => pws_mk ⟨by decide, by decide⟩ (pw_cons i5 (pw_cons ip (pw_cons ii (pw_cons iv pw_nil))))) fun _ => ?_
    refine pws_ite (fun _ => pws_mk ⟨by decide, by decide⟩ (pw_cons i5 (pw_cons ic pw_nil))) fun _ => ?_
    refine pws_ite (fun _ => pws_mk ⟨by decide, by decide⟩ (pw_cons i5 pw_nil)) fun _ => ?_
    refine pws_ite (fun _ => pws_mk ⟨by decide, by decide⟩ (pw_cons iv pw_nil)) fun _ => ?_
    exact pws_mk ⟨by decide, by decide⟩ pw_nil
end Go.Proofs.YtiomnlgnhdhffaaDoor
