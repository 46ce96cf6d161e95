/-
  The region of program.check that draws its order: whatever the order, it lays the fields of the instruction and of its limits into three rows. Conditions: none but what each theorem names.
-/
import Derived.Test.YtiomnlgnhdhffaaDoorB2
namespace Go.Proofs.YtiomnlgnhdhffaaDoor
open Go.RowKit
set_option linter.unusedVariables false
section
variable {a0 : Act} {B : Nat} {w : World} {p1 p3 : Nat} {X L F1 F2 F3 L1 L2 : Array Value} {p : Nat → Nat} {l : Array Bool} {a : Act} {W : World}

theorem R4.plain (R : R4 a0 B w p1 p3 X L F1 F2 F3 L1 L2 p l a W) (hn : a0.tmps.size = 75) (hl : l.size = r4.size) {i : Nat} {o : Oper} (ho : r4[i]? = some o) (hi : i < 8) {v : Value} {W' : World} (hW : CkI B w p1 p3 X L W')
    (hrow : ∀ q, q < 3 → l.getD (8 + q) false = true → W'.heap[p q]? = W.heap[p q]?) (hv : r4val p3 (.agg X) (.agg F1) (.agg L1) (.agg F2) (.agg L2) (.agg F3) p i = v) : R4 a0 B w p1 p3 X L F1 F2 F3 L1 L2 p (l.setIfInBounds i true) (a.put o.dst v) W' := by
  refine ⟨R.sl.step r4_dstB hn hl ho (fun j _ _ => rfl) (fun d _ => hv), hW, fun q hq hb => ?_, fun q r hq hr hne hb hb' => ?_⟩
  · rw [getD_set_ne false (by omega)] at hb ⊢
    obtain ⟨h1, h2⟩ := R.row q hq hb
    exact ⟨h1, by rw [hrow q hq hb]; exact h2⟩
  · rw [getD_set_ne false (by omega)] at hb hb'
    exact R.ne q r hq hr hne hb hb'
theorem R4.alloc (R : R4 a0 B w p1 p3 X L F1 F2 F3 L1 L2 p l a W) (hn : a0.tmps.size = 75) (hl : l.size = r4.size) {q : Nat} {o : Oper} (hq : q < 3) (ho : r4[8 + q]? = some o) (hst : l.getD (11 + q) false = false) :
    R4 a0 B w p1 p3 X L F1 F2 F3 L1 L2 (fun k => if k = q then W.heap.size else p k) (l.setIfInBounds (8 + q) true) (a.put o.dst (.pointer (some ⟨W.heap.size, 0, none⟩))) (W.alloc (.cells z7 63)) := by
  refine ⟨R.sl.step r4_dstB hn hl ho (fun j hb hj => ?_) (fun d _ => ?_), R.ck.next ((Below.refl _ _).alloc R.ck.size _), fun r hr hb => ?_, fun r s hr hs hne hb hb' => ?_⟩
  · unfold r4val
    split <;> first | rfl | (dsimp only; rw [if_neg (by omega)])
  · have : q = 0 ∨ q = 1 ∨ q = 2 := by omega
    rcases this with rfl | rfl | rfl <;> rfl
  · by_cases hrq : r = q
    · subst hrq
      simp only [if_true]
      refine ⟨R.ck.size, ?_⟩
      rw [getD_set_ne false (by omega), hst]
      exact heap_at rfl _
    · rw [getD_set_ne false (by omega)] at hb ⊢
      simp only [hrq, if_false]
      obtain ⟨h1, h2⟩ := R.row r hr hb
      exact ⟨h1, heap_keep h2 _⟩
  · by_cases hrq : r = q
    · subst hrq
      rw [getD_set_ne false (by omega)] at hb'
      simp only [if_true, (show ¬ s = r by omega), if_false]
      have := lt_of_block (R.row s hs hb').2
      omega
    · rw [getD_set_ne false (by omega)] at hb
      by_cases hsq : s = q
      · subst hsq
        simp only [if_true, hrq, if_false]
        have := lt_of_block (R.row r hr hb).2
        omega
      · rw [getD_set_ne false (by omega)] at hb'
        simp only [hrq, hsq, if_false]
        exact R.ne r s hr hs hne hb hb'
theorem R4.store (R : R4 a0 B w p1 p3 X L F1 F2 F3 L1 L2 p l a W) (hn : a0.tmps.size = 75) (hl : l.size = r4.size) {q : Nat} {o : Oper} (hq : q < 3) (ho : r4[11 + q]? = some o) (hal : l.getD (8 + q) false = true) (hdst : o.dst = none) (v : Value) :
    R4 a0 B w p1 p3 X L F1 F2 F3 L1 L2 p (l.setIfInBounds (11 + q) true) (a.put o.dst v) (W.setRow (p q) (if q = 0 then F1 else if q = 1 then F2 else F3)) := by
  have hlt : 11 + q < l.size := by rw [hl, r4_size]; omega
  obtain ⟨hB, hrow⟩ := R.row q hq hal
  refine ⟨R.sl.step r4_dstB hn hl ho (fun j _ _ => rfl) (fun d hd => by rw [hdst] at hd; cases hd), R.ck.next (below_setRow (Below.refl _ _) hB _), fun r hr hb => ?_, fun r s hr hs hne hb hb' => ?_⟩
  · rw [getD_set_ne false (by omega)] at hb
    by_cases hrq : r = q
    · subst hrq
      refine ⟨hB, ?_⟩
      have e : (l.setIfInBounds (11 + r) true).getD (11 + r) false = true := by
        rw [Array.getD_eq_getD_getElem?, Array.getElem?_setIfInBounds_self_of_lt hlt]
        rfl
      rw [e, if_pos rfl]
      exact setRow_heap W (p r) _ _ 63 _ hrow
    · rw [getD_set_ne false (by omega)]
      obtain ⟨h1, h2⟩ := R.row r hr hb
      refine ⟨h1, ?_⟩
      rw [setRow_other W _ _ _ (R.ne r q hr hq hrq hb hal)]
      exact h2
  · rw [getD_set_ne false (by omega)] at hb hb'
    exact R.ne r s hr hs hne hb hb'
end

theorem wp_load_struct {K : Act → World → Prop} {Q : Exit → Act → World → Prop} {o : Oper} {a : Act} {W : World} (t : Tmp) (ho : o.op = .load 36 (.tmp t)) (p off : Nat) (hp : a.eval (.tmp t) = .pointer (some ⟨p, off, none⟩)) (C cs : Array Value) (ty : TypeId)
    (hW : W.heap[p]? = some (.cells C ty (0, 0))) (hcs : (C.extract off (off + 8)) = cs) (h8 : cs.size = 8) (h : K (a.put o.dst (.agg cs)) W) : o.wp Tryd.prog a W K Q := by
  have hr := World.rangeAt_of_block hW off 8
  rw [hcs] at hr
  have hi : (Tryd.prog.info? 36).map (·.size) = some 8 := by kernel_rfl
  refine wp_load_mid 36 (.tmp t) ho p off hp cs.toList _ hr Tryd.underlying36 rfl (by rw [hi]; simp [h8]) ?_
  simpa using h

theorem r4_off {t : Tmp} (ht : t = 1 ∨ t = 3) : ∀ (j : Nat) (o : Oper), r4[j]? = some o → o.dst ≠ some t := by
  intro j o ho
  obtain ⟨hi, hd, _⟩ := r4_at ho
  have hcase : j = 0 ∨ j = 1 ∨ j = 2 ∨ j = 3 ∨ j = 4 ∨ j = 5 ∨ j = 6 ∨ j = 7 ∨ j = 8 ∨ j = 9 ∨ j = 10 ∨ j = 11 ∨ j = 12 ∨ j = 13 := by omega
  rcases ht with rfl | rfl <;> rcases hcase with rfl | rfl | rfl | rfl | rfl | rfl | rfl | rfl | rfl | rfl | rfl | rfl | rfl | rfl <;> simp at hd <;> simp [← hd.1]
theorem r4_get {j s : Nat} (h : (r4[j]?).map (·.dst) = some (some s)) : ∃ o, r4[j]? = some o ∧ o.dst = some s := by
  obtain ⟨o, h1, h2⟩ := Option.map_eq_some_iff.1 h
  exact ⟨o, h1, h2⟩
theorem R4.ev {a0 : Act} {B : Nat} {w : World} {p1 p3 : Nat} {X L F1 F2 F3 L1 L2 : Array Value} {p : Nat → Nat} {l : Array Bool} {a : Act} {W : World} (R : R4 a0 B w p1 p3 X L F1 F2 F3 L1 L2 p l a W) {j s : Nat} (h : (r4[j]?).map (·.dst) = some (some s)) (hb : l.getD j false = true) :
    a.eval (.tmp s) = r4val p3 (.agg X) (.agg F1) (.agg L1) (.agg F2) (.agg L2) (.agg F3) p j := by
  obtain ⟨o, h1, h2⟩ := r4_get h
  exact R.sl.eval_on h1 h2 hb
theorem not_stored {l : Array Bool} (hok : listedOk r4 l) {q : Nat} (hq : q < 3) (hli : l.getD (8 + q) true = false) : l.getD (11 + q) false = false := by
  cases hb : l.getD (11 + q) false with
  | false => rfl
  | true =>
    exfalso
    have hlt : 11 + q < r4.size := by rw [r4_size]; omega
    have ho : r4[11 + q]? = some r4[11 + q] := Array.getElem?_eq_getElem hlt
    obtain ⟨_, hd, _⟩ := r4_at ho
    have h8 : l.getD (8 + q) false = true := by
      refine hok (11 + q) _ ho hb (8 + q) ?_
      have : q = 0 ∨ q = 1 ∨ q = 2 := by omega
      rcases this with rfl | rfl | rfl <;> simp at hd <;> rw [← hd.2.2] <;> simp
    rw [Array.getD_eq_getD_getElem?] at h8 hli
    cases hx : l[8 + q]? with
    | none => rw [hx] at hli; cases hli
    | some v => rw [hx] at h8 hli; simp at h8 hli; rw [h8] at hli; cases hli
theorem wp_store7 {K : Act → World → Prop} {Q : Exit → Act → World → Prop} {o : Oper} {a : Act} {W : World} (t s : Tmp) (ho : o.op = .store 63 (.tmp t) (.tmp s)) (p : Nat) (hp : a.eval (.tmp t) = .pointer (some ⟨p, 0, none⟩)) (F : Array Value) (hs : a.eval (.tmp s) = .agg F)
    (hW : W.heap[p]? = some (.cells z7 63 (0, 0))) (h7 : F.size = 7) (h1 : F.all (·.oneCell') = true) (h : K (a.put o.dst undef) (W.setRow p F)) : o.wp Tryd.prog a W K Q := by
  have hi : (Tryd.prog.info? 63).map (·.size) = some 7 := by kernel_rfl
  exact wp_store_row 63 (.tmp t) (.tmp s) ho p F hp hs 63 z7 hW (by rw [hi, h7]) (by rw [h7]; rfl) h1 h

set_option maxHeartbeats 2000000 in
theorem check_region4 {id : Nat} {Q : Exit → Act → World → Prop} {a0 : Act} {B : Nat} {w W0 : World} {p1 p3 : Nat} (x0 x1 x2 x3 x4 x5 x6 x7 : Int) (l0 l1 l2 l3 l4 l5 l6 l7 l8 l9 l10 l11 l12 l13 l14 l15 : Int)
    (hn : a0.tmps.size = 75) (h1 : a0.tmps.getD 1 undef = .pointer (some ⟨p1, 0, none⟩)) (h3 : a0.tmps.getD 3 undef = .pointer (some ⟨p3, 0, none⟩))
    (hck : CkI B w p1 p3 #[.int .i64 x0, .int .i64 x1, .int .i64 x2, .int .i64 x3, .int .i64 x4, .int .i64 x5, .int .i64 x6, .int .i64 x7]
      #[.int .i64 l0, .int .i64 l1, .int .i64 l2, .int .i64 l3, .int .i64 l4, .int .i64 l5, .int .i64 l6, .int .i64 l7, .int .i64 l8, .int .i64 l9, .int .i64 l10, .int .i64 l11, .int .i64 l12, .int .i64 l13, .int .i64 l14, .int .i64 l15] W0)
    (hend : ∀ (p : Nat → Nat) (W : World), CkI B w p1 p3 #[.int .i64 x0, .int .i64 x1, .int .i64 x2, .int .i64 x3, .int .i64 x4, .int .i64 x5, .int .i64 x6, .int .i64 x7]
      #[.int .i64 l0, .int .i64 l1, .int .i64 l2, .int .i64 l3, .int .i64 l4, .int .i64 l5, .int .i64 l6, .int .i64 l7, .int .i64 l8, .int .i64 l9, .int .i64 l10, .int .i64 l11, .int .i64 l12, .int .i64 l13, .int .i64 l14, .int .i64 l15] W →
      W.heap[p 0]? = some (.cells #[.int .i64 x1, .int .i64 x2, .int .i64 x3, .int .i64 x4, .int .i64 x5, .int .i64 x6, .int .i64 x7] 63 (0, 0)) →
      W.heap[p 1]? = some (.cells #[.int .i64 l1, .int .i64 l2, .int .i64 l3, .int .i64 l4, .int .i64 l5, .int .i64 l6, .int .i64 l7] 63 (0, 0)) →
      W.heap[p 2]? = some (.cells #[.int .i64 l9, .int .i64 l10, .int .i64 l11, .int .i64 l12, .int .i64 l13, .int .i64 l14, .int .i64 l15] 63 (0, 0)) →
      Q .normal (lay r4 (r4val p3 (insV x0 x1 x2 x3 x4 x5 x6 x7) (fldV x1 x2 x3 x4 x5 x6 x7) (insV l0 l1 l2 l3 l4 l5 l6 l7) (fldV l1 l2 l3 l4 l5 l6 l7) (insV l8 l9 l10 l11 l12 l13 l14 l15) (fldV l9 l10 l11 l12 l13 l14 l15) p) (List.range 14) a0) W) :
    (Code.region id r4 true).wp Tryd.prog Q a0 W0 := by
  refine region_inv (by kernel_rfl) r4_dag (fun l a W => ∃ p, R4 a0 B w p1 p3 #[.int .i64 x0, .int .i64 x1, .int .i64 x2, .int .i64 x3, .int .i64 x4, .int .i64 x5, .int .i64 x6, .int .i64 x7]
      #[.int .i64 l0, .int .i64 l1, .int .i64 l2, .int .i64 l3, .int .i64 l4, .int .i64 l5, .int .i64 l6, .int .i64 l7, .int .i64 l8, .int .i64 l9, .int .i64 l10, .int .i64 l11, .int .i64 l12, .int .i64 l13, .int .i64 l14, .int .i64 l15]
      #[.int .i64 x1, .int .i64 x2, .int .i64 x3, .int .i64 x4, .int .i64 x5, .int .i64 x6, .int .i64 x7] #[.int .i64 l1, .int .i64 l2, .int .i64 l3, .int .i64 l4, .int .i64 l5, .int .i64 l6, .int .i64 l7] #[.int .i64 l9, .int .i64 l10, .int .i64 l11, .int .i64 l12, .int .i64 l13, .int .i64 l14, .int .i64 l15]
      #[.int .i64 l0, .int .i64 l1, .int .i64 l2, .int .i64 l3, .int .i64 l4, .int .i64 l5, .int .i64 l6, .int .i64 l7] #[.int .i64 l8, .int .i64 l9, .int .i64 l10, .int .i64 l11, .int .i64 l12, .int .i64 l13, .int .i64 l14, .int .i64 l15] p l a W) ?_ ?_ ?_
  · refine ⟨fun _ => 0, Sl.start, hck.next (Below.refl _ _).drew, fun q hq hb => ?_, fun q r hq hr _ hb => ?_⟩ <;>
    · rw [Array.getD_eq_getD_getElem?, Array.getElem?_replicate] at hb
      split at hb <;> simp at hb
  · rintro l a W i o hl hok ⟨p, R⟩ ho hli hw
    obtain ⟨hi, hd, hop⟩ := r4_at ho
    have off1 : a.eval (.tmp 1) = .pointer (some ⟨p1, 0, none⟩) := (R.sl.eval_off (r4_off (.inl rfl))).trans h1
    have off3 : a.eval (.tmp 3) = .pointer (some ⟨p3, 0, none⟩) := (R.sl.eval_off (r4_off (.inr rfl))).trans h3
    have hcase : i = 0 ∨ i = 1 ∨ i = 2 ∨ i = 3 ∨ i = 4 ∨ i = 5 ∨ i = 6 ∨ i = 7 ∨ i = 8 ∨ i = 9 ∨ i = 10 ∨ i = 11 ∨ i = 12 ∨ i = 13 := by omega
    rcases hcase with rfl | rfl | rfl | rfl | rfl | rfl | rfl | rfl | rfl | rfl | rfl | rfl | rfl | rfl <;> simp at hd hop <;> obtain ⟨hd, hg, hwt⟩ := hd <;> refine wpOp_of ho hg.symm ?_
    · exact wp_load_struct 1 hop.symm p1 0 off1 _ _ 36 R.ck.x rfl rfl ⟨p, R.plain hn hl ho (by omega) R.ck (fun _ _ _ => rfl) rfl⟩
    · have ev := R.ev (j := 0) (s := 19) (by kernel_rfl) (hw 0 (by rw [← hwt]; simp))
      exact wp_enter (run_call32 o a W 19 _ hop.symm ev) (fields_call _ _ _ _ _ _ _ _ _ rfl _) (fun w'' hb => ⟨p, R.plain hn hl ho (by omega) (R.ck.call hb) (fun q hq hb' => hb.block _ (lt_of_block (R.row q hq hb').2)) rfl⟩)
    · exact wp_value (run_field0 o a W p3 hop.symm off3) ⟨p, R.plain hn hl ho (by omega) R.ck (fun _ _ _ => rfl) rfl⟩
    · have ev := R.ev (j := 2) (s := 21) (by kernel_rfl) (hw 2 (by rw [← hwt]; simp))
      exact wp_load_struct 21 hop.symm p3 0 ev _ _ 60 R.ck.l rfl rfl ⟨p, R.plain hn hl ho (by omega) R.ck (fun _ _ _ => rfl) rfl⟩
    · have ev := R.ev (j := 3) (s := 22) (by kernel_rfl) (hw 3 (by rw [← hwt]; simp))
      exact wp_enter (run_call32 o a W 22 _ hop.symm ev) (fields_call _ _ _ _ _ _ _ _ _ rfl _) (fun w'' hb => ⟨p, R.plain hn hl ho (by omega) (R.ck.call hb) (fun q hq hb' => hb.block _ (lt_of_block (R.row q hq hb').2)) rfl⟩)
    · exact wp_value (run_field1 o a W p3 hop.symm off3) ⟨p, R.plain hn hl ho (by omega) R.ck (fun _ _ _ => rfl) rfl⟩
    · have ev := R.ev (j := 5) (s := 24) (by kernel_rfl) (hw 5 (by rw [← hwt]; simp))
      exact wp_load_struct 24 hop.symm p3 8 ev _ _ 60 R.ck.l rfl rfl ⟨p, R.plain hn hl ho (by omega) R.ck (fun _ _ _ => rfl) rfl⟩
    · have ev := R.ev (j := 6) (s := 25) (by kernel_rfl) (hw 6 (by rw [← hwt]; simp))
      exact wp_enter (run_call32 o a W 25 _ hop.symm ev) (fields_call _ _ _ _ _ _ _ _ _ rfl _) (fun w'' hb => ⟨p, R.plain hn hl ho (by omega) (R.ck.call hb) (fun q hq hb' => hb.block _ (lt_of_block (R.row q hq hb').2)) rfl⟩)
    · exact wp_value (run_alloc63 o a W hop.symm) ⟨_, R.alloc hn hl (q := 0) (by omega) ho (not_stored hok (q := 0) (by omega) hli)⟩
    · exact wp_value (run_alloc63 o a W hop.symm) ⟨_, R.alloc hn hl (q := 1) (by omega) ho (not_stored hok (q := 1) (by omega) hli)⟩
    · exact wp_value (run_alloc63 o a W hop.symm) ⟨_, R.alloc hn hl (q := 2) (by omega) ho (not_stored hok (q := 2) (by omega) hli)⟩
    · have e1 := R.ev (j := 8) (s := 5) (by kernel_rfl) (hw 8 (by rw [← hwt]; simp))
      have e2 := R.ev (j := 1) (s := 20) (by kernel_rfl) (hw 1 (by rw [← hwt]; simp))
      have hal := hw 8 (by rw [← hwt]; simp)
      have hns : l.getD 11 false = false := by
        rw [Array.getD_eq_getD_getElem?] at hli ⊢
        cases hx : l[11]? with
        | none => rfl
        | some v => rw [hx] at hli; simpa using hli
      have hr := (R.row 0 (by omega) hal).2
      rw [show 11 + 0 = 11 from rfl, hns] at hr
      exact wp_store7 5 20 hop.symm (p 0) e1 _ e2 hr rfl (by simp [Value.oneCell']) ⟨p, R.store hn hl (q := 0) (by omega) ho hal hd.symm undef⟩
    · have e1 := R.ev (j := 9) (s := 6) (by kernel_rfl) (hw 9 (by rw [← hwt]; simp))
      have e2 := R.ev (j := 4) (s := 23) (by kernel_rfl) (hw 4 (by rw [← hwt]; simp))
      have hal := hw 9 (by rw [← hwt]; simp)
      have hns : l.getD 12 false = false := by
        rw [Array.getD_eq_getD_getElem?] at hli ⊢
        cases hx : l[12]? with
        | none => rfl
        | some v => rw [hx] at hli; simpa using hli
      have hr := (R.row 1 (by omega) hal).2
      rw [show 11 + 1 = 12 from rfl, hns] at hr
      exact wp_store7 6 23 hop.symm (p 1) e1 _ e2 hr rfl (by simp [Value.oneCell']) ⟨p, R.store hn hl (q := 1) (by omega) ho hal hd.symm undef⟩
    · have e1 := R.ev (j := 10) (s := 7) (by kernel_rfl) (hw 10 (by rw [← hwt]; simp))
      have e2 := R.ev (j := 7) (s := 26) (by kernel_rfl) (hw 7 (by rw [← hwt]; simp))
      have hal := hw 10 (by rw [← hwt]; simp)
      have hns : l.getD 13 false = false := by
        rw [Array.getD_eq_getD_getElem?] at hli ⊢
        cases hx : l[13]? with
        | none => rfl
        | some v => rw [hx] at hli; simpa using hli
      have hr := (R.row 2 (by omega) hal).2
      rw [show 11 + 2 = 13 from rfl, hns] at hr
      exact wp_store7 7 26 hop.symm (p 2) e1 _ e2 hr rfl (by simp [Value.oneCell']) ⟨p, R.store hn hl (q := 2) (by omega) ho hal hd.symm undef⟩
  · rintro l a W hl hall ⟨p, R⟩
    rw [r4_size] at hall
    have e := R.sl.all r4_dstB hn (by rw [r4_size]; exact hall)
    rw [r4_size] at e
    rw [e]
    have r0 := (R.row 0 (by omega) (hall 8 (by omega))).2
    have r1 := (R.row 1 (by omega) (hall 9 (by omega))).2
    have r2 := (R.row 2 (by omega) (hall 10 (by omega))).2
    rw [show 11 + 0 = 11 from rfl, hall 11 (by omega)] at r0
    rw [show 11 + 1 = 12 from rfl, hall 12 (by omega)] at r1
    rw [show 11 + 2 = 13 from rfl, hall 13 (by omega)] at r2
    exact hend p W R.ck (by simpa using r0) (by simpa using r1) (by simpa using r2)
end Go.Proofs.YtiomnlgnhdhffaaDoor
