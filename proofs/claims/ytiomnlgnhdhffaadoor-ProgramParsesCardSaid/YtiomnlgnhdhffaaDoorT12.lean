/-
  The walk of the reference's Parse. Conditions: none but what each theorem names.
-/
import Derived.Test.YtiomnlgnhdhffaaDoorT11
import Derived.Test.YtiomnlgnhdhffaaDoorV4
import Derived.Test.YtiomnlgnhdhffaaDoorP6
import Derived.Test.YtiomnlgnhdhffaaDoorC4
namespace Go.Proofs.YtiomnlgnhdhffaaDoor
open Go.RowKit
set_option linter.unusedVariables false
set_option linter.unusedSimpArgs false

theorem parT_lines {t : ByteArray} (h : t.size ≤ 4000) : parT t = parL ((linesR t.data.toList).map bstr) 0 [] := by
  rw [parT_X h, parX_lines, parL_X]
theorem parL_at {ls : List Wd} {i : Nat} {x : Wd} {code : List Ins} (h : ls[i]? = some x) : parL ((ls.drop i).map bstr) i code = match lineP (wordsR x) with
    | .skip => parL ((ls.drop (i + 1)).map bstr) (i + 1) code
    | .bad e => ([], (i : Int) + 1, e)
    | .ins y => parL ((ls.drop (i + 1)).map bstr) (i + 1) (code ++ [y]) := by
  obtain ⟨hi, e⟩ := List.getElem?_eq_some_iff.1 h
  rw [List.drop_eq_getElem_cons hi, e, List.map_cons, parL, bstr_data, lineP_W]
  rfl
theorem words_len {x y : Wd} (h : y ∈ wordsR x) : y.length ≤ x.length ∧ y ≠ [] := by
  unfold wordsR at h
  rw [List.mem_filter] at h
  refine ⟨?_, by simpa using h.2⟩
  have : ∀ l : List UInt8, ∀ y ∈ cutAt 32 l, y.length ≤ l.length := by
    intro l
    induction l with
    | nil => intro y hy; simp [cutAt] at hy; simp [hy]
    | cons b l ih =>
      intro y hy
      rw [cutAt] at hy
      split at hy
      · rcases List.mem_cons.1 hy with rfl | hy
        · simp
        · have := ih y hy; simp; omega
      · split at hy
        · simp at hy; subst hy; simp
        · next f r hf =>
          rcases List.mem_cons.1 hy with rfl | hy
          · have := ih f (by rw [hf]; simp)
            simp; omega
          · have := ih y (by rw [hf]; simp [hy])
            simp; omega
  exact this x y h.1
theorem lines_in {l y : Wd} (h : y ∈ linesR l) : y.length ≤ l.length := by
  have hm : y ∈ cutAt 10 l := by
    unfold linesR at h
    split at h
    · exact List.dropLast_subset _ h
    · exact h
  have : ∀ l : List UInt8, ∀ y ∈ cutAt 10 l, y.length ≤ l.length := by
    intro l
    induction l with
    | nil => intro y hy; simp [cutAt] at hy; simp [hy]
    | cons b l ih =>
      intro y hy
      rw [cutAt] at hy
      split at hy
      · rcases List.mem_cons.1 hy with rfl | hy
        · simp
        · have := ih y hy; simp; omega
      · split at hy
        · simp at hy; subst hy; simp
        · next f r hf =>
          rcases List.mem_cons.1 hy with rfl | hy
          · have := ih f (by rw [hf]; simp)
            simp; omega
          · have := ih y (by rw [hf]; simp [hy])
            simp; omega
  exact this l y hm
theorem words_count (x : Wd) : (wordsR x).length ≤ x.length + 1 := by
  unfold wordsR
  refine Nat.le_trans (List.length_filter_le _ _) ?_
  have : ∀ l : List UInt8, (cutAt 32 l).length ≤ l.length + 1 := by
    intro l
    induction l with
    | nil => simp [cutAt]
    | cons b l ih =>
      rw [cutAt]
      split
      · simp; omega
      · split
        · simp
        · next h => rw [h] at ih; simpa using Nat.le_succ_of_le ih
  exact this x
theorem lines_len2 (l : List UInt8) : (linesR l).length ≤ l.length + 1 := by
  have : ∀ l : List UInt8, (cutAt 10 l).length ≤ l.length + 1 := by
    intro l
    induction l with
    | nil => simp [cutAt]
    | cons b l ih =>
      rw [cutAt]
      split
      · simp; omega
      · split
        · simp
        · next h => rw [h] at ih; simpa using Nat.le_succ_of_le ih
  have := this l
  unfold linesR
  split
  · rw [List.length_dropLast]; omega
  · exact this
/-- The code's row of one's own, above the base. -/
structure CW (w1 : World) (v : Value) (code : List Ins) (W : World) : Prop where
  below : Below w1.heap.size w1 W
  own : W.ownsRow w1.heap.size 36 8 v code.length (codeC code)
section
variable {w1 W W' : World} {v v' : Value} {code : List Ins}
theorem CW.start (w1 : World) : CW w1 (.slice none 0 0) [] w1 := ⟨Below.refl _ _, World.ownsRow_nil _ _ _ _⟩
theorem CW.next (h : CW w1 v code W) (hb : Below W.heap.size W W') : CW w1 v code W' := by
  refine ⟨h.below.trans (hb.mono h.below.size), own_move h.own fun g hg => ?_⟩
  obtain ⟨_, cs, hcs⟩ := own_cells h.own g hg
  exact hb.block g (lt_of_block hcs)
theorem CW.more (h : CW w1 v code W) {x : Ins} {o : Obj} (ho : W'.ownsRow w1.heap.size 36 8 v' (code.length + 1) (codeC code ++ insC x)) (hg : (W.alloc o).grownBy W' v.ownBlock) : CW w1 v' (code ++ [x]) W' := by
  refine ⟨(h.below.alloc h.below.size o).trans ⟨hg.os, hg.tape, hg.output, hg.size, fun k hk => ?_⟩, by rw [codeC_snoc, List.length_append]; exact ho⟩
  refine hg.block k ?_ ?_
  · have := h.below.size; simp; omega
  · intro e
    have := h.own.lt k e.symm
    omega
end
theorem StrsAt.some {W : World} {A : Option Addr} {ws : List Wd} (h : StrsAt W A ws) (hne : ws ≠ []) : ∃ b off, A = some ⟨b, off, none⟩ := by
  cases ws with
  | nil => exact absurd rfl hne
  | cons v t => obtain ⟨b, off, e, _⟩ := h.head; exact ⟨b, off, e⟩
set_option maxRecDepth 100000 in
set_option maxHeartbeats 8000000 in
theorem parse14 (text : ByteArray) (w : World) : Calls Tryd.prog 14 #[.string text] w fun e w' => ParPost text w e w' := by
  by_cases htx : 4000 < text.size
  · have HE := Kp.mk (show parT text = ([], 0, 9) by rw [parT, if_pos htx])
    go_enter Tryd.func14, Tryd.ntmps14
    go_wp2
    go_ret3
    exact ⟨none, 0, by rw [HE.out]; rfl, by rw [HE.out]; exact fun h => absurd rfl h, by rw [HE.out]; exact Nat.le_refl _, Below.refl _ _⟩
  · have hz : text.data.toList.length = text.size := rfl
    have hP := parT_lines (t := text) (by omega)
    have hL18 := lines18 text.data.toList w (by omega)
    rw [bstr_eta] at hL18
    have hcnt : (linesR text.data.toList).length ≤ 4001 := by
      have := lines_len2 text.data.toList
      omega
    have hin := fun y (hy : y ∈ linesR text.data.toList) => Nat.le_trans (lines_in hy) (show text.data.toList.length ≤ 4000 by omega)
    have htx' : ¬ (4000 : Int) < (text.size : Int) := by omega
    clear htx hz
    generalize linesR text.data.toList = ls at hP hL18 hcnt hin
    unfold ParPost
    generalize parT text = P at hP
    have HP := Kp.mk hP
    have HL := Kp.mk hL18
    have HIn := Kp.mk hin
    clear hP hL18 hin
    go_enter Tryd.func14, Tryd.ntmps14
    go_wp2_with fail
    refine HL.out.mono ?_
    rintro e w1 ⟨A, cap, rfl, hA, hb, hc1, hc2⟩
    have HS := Kp.mk hA
    have HB := Kp.mk hb
    clear hA hb HL htx'
    obtain ⟨i0, hi, hq0, hq1, hq2⟩ := info_parts infoS36
    go_wp2_with fail
    go_loopw [6, 7] (fun v i W => ∃ (code : List Ins) (k : Nat), k ≤ ls.length ∧ code.length ≤ k ∧ i = .int .i64 k ∧ Kp (P = parL ((ls.drop k).map bstr) k code) ∧ Kp (CW w1 v code W)) (fun _ i _ => ls.length - (intOf i).toNat)
    case atStart => exact ⟨[], 0, by omega, by simp, rfl, HP, ⟨CW.start w1⟩⟩
    case round =>
      clear HP
      obtain ⟨code, k, hk, hck, rfl, HP, C⟩ := hrel
      by_cases hlt : k < ls.length
      · obtain ⟨x, hx⟩ : ∃ x, ls[k]? = some x := ⟨ls[k], by simp [hlt]⟩
        obtain ⟨b, off, rfl⟩ := HS.out.some (by rintro rfl; simp at hlt)
        have hcell : wr.cell? ⟨b, off + k, none⟩ = some (.string (bstr x)) := (HS.out.below C.out.below).cellAt hx
        have hxl := HIn.out x (List.mem_of_getElem? hx)
        have hW := words25 x wr (by omega)
        have hstep := parL_at (code := code) hx
        have hbig : ∀ y ∈ wordsR x, y.length ≤ 4000 ∧ y ≠ [] := fun y hy => ⟨Nat.le_trans (words_len hy).1 hxl, (words_len hy).2⟩
        have hcn := Nat.le_trans (words_count x) (Nat.add_le_add_right hxl 1)
        rw [← HP.out] at hstep
        generalize wordsR x = ws at hW hstep hbig hcn
        have HW := Kp.mk hW
        have HBig := Kp.mk hbig
        have HSt := Kp.mk hstep
        clear hW hstep hbig hx hxl HP
        go_wp2_with fail
        refine HW.out.mono ?_
        rintro e w2 ⟨A2, cap2, rfl, hA2, hb, hd1, hd2⟩
        have C := Kp.mk (C.out.next hb)
        have HS2 := Kp.mk hA2
        clear hA2 hb hcell HW
        cases ws with
        | nil =>
          have HP := Kp.mk HSt.out
          simp only [List.length_nil] at hd1 ⊢
          go_wp2_with fail
          go_roundw
          case rel => exact ⟨code, k + 1, by omega, by omega, by go_num, HP, C⟩
          case measure => simp [intOf]; omega
        | cons u t =>
          obtain ⟨b2, off2, rfl⟩ := HS2.out.some (by simp)
          have hcell : w2.cell? ⟨b2, off2, none⟩ = some (.string (bstr u)) := HS2.out.cellAt (j := 0) rfl
          obtain ⟨hul, hun⟩ := HBig.out u (by simp)
          obtain ⟨c, u', rfl⟩ : ∃ c u', u = c :: u' := by cases u with | nil => exact absurd rfl hun | cons c u' => exact ⟨c, u', rfl⟩
          have hx0 : ∀ W, (Instr.index 9 (.string (bstr (c :: u'))) (.int .i64 0)).run Tryd.prog W = .ok (.int .u8 (c.toNat : Int)) W := fun W => index_at (c :: u') (i := 0) rfl W
          simp only [List.length_cons] at hd1 hcn ⊢
          by_cases h35 : c = 35
          · have HP := Kp.mk (show P = parL ((ls.drop (k + 1)).map bstr) (k + 1) code by
              rw [HSt.out]; unfold lineP; dsimp only; rw [if_pos (show (c :: u').headD 0 = 35 from h35)])
            subst h35
            clear HSt hul hun
            go_wp2_with fail
            go_roundw
            case rel => exact ⟨code, k + 1, by omega, by omega, by go_num, HP, C⟩
            case measure => simp [intOf]; omega
          · have h35' : ¬ (c.toNat : Int) = 35 := by
              intro e
              apply h35
              apply UInt8.toNat_inj.1
              have : c.toNat = 35 := by omega
              rw [this]; rfl
            have h35b : ((c.toNat : Int) == 35) = false := by simpa using h35'
            have hag := agree (c :: u') t
            have hI := instr26 (c :: u') t (some ⟨b2, off2, none⟩) cap2 w2 HS2.out (fun y hy => Nat.le_trans (HBig.out y hy).1 (by omega)) (by omega) (by simp; omega) hd2
            have HSt := Kp.mk (show P = if (instrR ((c :: u') :: t)).2 = false then ([], (k : Int) + 1, 4) else if rngR (instrR ((c :: u') :: t)).1 = false then ([], (k : Int) + 1, 2) else parL ((ls.drop (k + 1)).map bstr) (k + 1) (code ++ [(instrR ((c :: u') :: t)).1]) by
              rw [HSt.out]; unfold lineP; dsimp only; rw [if_neg (show ¬ (c :: u').headD 0 = 35 from h35)]
              cases h1 : (instrR ((c :: u') :: t)).2
              · rfl
              · cases h2 : rngR (instrR ((c :: u') :: t)).1
                · simp
                · simp)
            have hrg : (instrR ((c :: u') :: t)).2 = true → 1 ≤ (instrR ((c :: u') :: t)).1.op ∧ (instrR ((c :: u') :: t)).1.op ≤ 12 := by
              intro hq
              rcases hag with ⟨_, h2⟩ | ⟨z, _, h2, h3, _⟩
              · rw [h2] at hq; cases hq
              · rw [h2]; exact h3
            generalize instrR ((c :: u') :: t) = rr at hI HSt hrg
            unfold InsPost at hI
            obtain ⟨⟨y0, y1, y2, y3, y4, y5, y6, y7⟩, q⟩ := rr
            simp only at hI HSt hrg
            have HI := Kp.mk hI
            have HRg := Kp.mk hrg
            clear hI hrg hag h35 hul hun
            go_wp2_with fail
            refine HI.out.mono ?_
            rintro e w3 ⟨rfl, hb⟩
            have C := Kp.mk ((C.out.next hb).next (below_new2 _ (.cells #[.int .i64 y0, .int .i64 y1, .int .i64 y2, .int .i64 y3, .int .i64 y4, .int .i64 y5, .int .i64 y6, .int .i64 y7] 36)))
            clear hb HI hcell hx0 h35' h35b
            cases q with
            | false =>
              have HE := Kp.mk (show P = ([], (k : Int) + 1, 4) from HSt.out)
              go_wp2_with fail
              go_ret3
              exact ⟨none, 0, by rw [HE.out]; rfl, by rw [HE.out]; exact fun h => absurd rfl h, by rw [HE.out]; exact Nat.le_refl _, HB.out.trans (C.out.below.mono HB.out.size)⟩
            | true =>
              obtain ⟨hr1, hr2⟩ := HRg.out rfl
              have HY := Kp.mk (show (w3.alloc (.cells #[.int .i64 y0, .int .i64 y1, .int .i64 y2, .int .i64 y3, .int .i64 y4, .int .i64 y5, .int .i64 y6, .int .i64 y7] 36)).heap[w3.heap.size]? = some (.cells #[.int .i64 y0, .int .i64 y1, .int .i64 y2, .int .i64 y3, .int .i64 y4, .int .i64 y5, .int .i64 y6, .int .i64 y7] 36 (0, 0)) from heap_at rfl _)
              have RG := Kp.mk (fun W => ranges22 ⟨y0, y1, y2, y3, y4, y5, y6, y7⟩ hr1 hr2 W)
              go_wp2_with (first | ((with_reducible refine gate_dst (N := 46) rfl ?_); go_must (refine wpList_load_row rfl 36 (.tmp 9) rfl w3.heap.size rfl 36 #[.int .i64 y0, .int .i64 y1, .int .i64 y2, .int .i64 y3, .int .i64 y4, .int .i64 y5, .int .i64 y6, .int .i64 y7] (0, 0) _ HY.out Tryd.underlying36 rfl (by kernel_rfl) ?_)) | fail)
              refine (RG.out _).mono ?_
              rintro e w4 ⟨rfl, hb⟩
              have C := Kp.mk (C.out.next hb)
              have HY := Kp.mk ((hb.block _ (by simp)).trans HY.out)
              clear hb RG
              cases hq : rngR ⟨y0, y1, y2, y3, y4, y5, y6, y7⟩ with
              | false =>
                have HE := Kp.mk (show P = ([], (k : Int) + 1, 2) by rw [HSt.out, if_neg (by decide), if_pos hq])
                go_wp2_with fail
                go_ret3
                exact ⟨none, 0, by rw [HE.out]; rfl, by rw [HE.out]; exact fun h => absurd rfl h, by rw [HE.out]; exact Nat.le_refl _, HB.out.trans (C.out.below.mono HB.out.size)⟩
              | true =>
                have HP := Kp.mk (show P = parL ((ls.drop (k + 1)).map bstr) (k + 1) (code ++ [⟨y0, y1, y2, y3, y4, y5, y6, y7⟩]) by rw [HSt.out, if_neg (by decide), if_neg (by rw [hq]; decide)])
                clear HSt hq
                go_wp2_with (first | ((with_reducible refine gate_dst (N := 52) rfl ?_); go_must (refine wpList_load_row rfl 36 (.tmp 9) rfl w3.heap.size rfl 36 #[.int .i64 y0, .int .i64 y1, .int .i64 y2, .int .i64 y3, .int .i64 y4, .int .i64 y5, .int .i64 y6, .int .i64 y7] (0, 0) _ HY.out Tryd.underlying36 rfl (by kernel_rfl) ?_)) | (at_builtin; go_loud (refine wpList_append_own _ rfl _ _ 22 rfl w1.heap.size 36 i0 (.agg #[.int .i64 0, .int .i64 0, .int .i64 0, .int .i64 0, .int .i64 0, .int .i64 0, .int .i64 0, .int .i64 0]) 8 64 Tryd.underlying22 hi hq0 hq1 hq2 rfl (by decide) _ _ _ rfl (C.out.own.alloc _) ⟨w4.heap.size, 0, none⟩ 1 1 (insC ⟨y0, y1, y2, y3, y4, y5, y6, y7⟩) rfl rfl (row_new _ _ _) (by simp [insC, Value.oneCell']) (by simp only [maxLen]; omega) (by omega) (by have := C.out.below.size; simp; omega) ?_); intro v' w5 hown hgrow hnil; have C := Kp.mk (C.out.more hown hgrow); clear hown hgrow hnil) | fail)
                go_roundw
                case rel => exact ⟨code ++ [⟨y0, y1, y2, y3, y4, y5, y6, y7⟩], k + 1, by omega, by simp; omega, by go_num, HP, C⟩
                case measure => simp [intOf]; omega
      · have HE := Kp.mk (show P = if 48 < code.length then ([], 0, 9) else (code, 0, 0) by
          rw [HP.out, List.drop_of_length_le (by omega)]; rfl)
        obtain ⟨A3, cap3, rfl, hc3, hA3⟩ := code_at C.out.own
        by_cases h48 : 48 < code.length
        · have HE := Kp.mk (HE.out.trans (if_pos h48))
          go_wp2_with fail
          go_ret3
          exact ⟨none, 0, by rw [HE.out]; rfl, by rw [HE.out]; exact fun h => absurd rfl h, by rw [HE.out]; exact Nat.le_refl _, HB.out.trans (C.out.below.mono HB.out.size)⟩
        · have HE := Kp.mk (HE.out.trans (if_neg h48))
          have HA3 := Kp.mk hA3
          clear hA3
          go_wp2_with fail
          go_ret3
          exact ⟨A3, cap3, by rw [HE.out]; rfl, by rw [HE.out]; exact HA3.out, by rw [HE.out]; exact hc3, HB.out.trans (C.out.below.mono HB.out.size)⟩
end Go.Proofs.YtiomnlgnhdhffaaDoor
