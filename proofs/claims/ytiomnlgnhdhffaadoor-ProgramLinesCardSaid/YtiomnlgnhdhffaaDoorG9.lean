/-
  The walk of the statement ProgramLines. Conditions: the argument's row lies as said; the table reads as listed.
-/
import Derived.Test.YtiomnlgnhdhffaaDoorF8
import Derived.Test.YtiomnlgnhdhffaaDoorV4
namespace Go.Proofs.YtiomnlgnhdhffaaDoor
open Go.RowKit
set_option linter.unusedVariables false
set_option linter.unusedSimpArgs false
theorem insAt_one {w : World} {B off : Nat} {xs : List Ins} {k : Nat} {x : Ins} (h : InsAt w (some ⟨B, off, none⟩) xs) (hk : xs[k]? = some x) : InsAt w (some ⟨B, off + k * 8, none⟩) [x] := by
  intro _
  obtain ⟨B', off', he, hb, hr⟩ := h (by rintro rfl; simp at hk)
  cases he
  refine ⟨B, off + k * 8, rfl, hb, fun j y hj => ?_⟩
  have : j = 0 := by have := (List.getElem?_eq_some_iff.1 hj).1; simpa using this
  subst this
  obtain rfl : x = y := by simpa using hj
  simpa using hr k x hk
theorem fmt_one (x : Ins) : fmtT [x] = lineT x ++ ⟨#[10]⟩ := by
  apply ByteArray.ext
  simp [fmtT, ByteArray.data_append]
theorem chk_one {x : Ins} (h : refI x = 0) : chkP [x] = 0 := by
  have : chkI x = 0 := by rw [chk_ref]; exact h
  simp [chkP, chkL, this]
/-- The facts of one line. -/
theorem okB_drop : ∀ (l : List UInt8) (k : Nat), okB l = true → okB (l.drop k) = true
  | l, 0, h => h
  | [], k + 1, h => rfl
  | [b], k + 1, h => by simp [okB]
  | b :: c :: t, k + 1, h => by
    rw [okB] at h
    exact okB_drop (c :: t) k (Bool.and_eq_true_iff.1 h).2
theorem okB_at {l : List UInt8} {k : Nat} {b c : UInt8} (h : okB l = true) (hb : l[k]? = some b) (hc : l[k + 1]? = some c) : b ≠ 10 ∧ ¬ (b = 32 ∧ (c = 32 ∨ c = 10)) := by
  have hd := okB_drop l k h
  obtain ⟨h1, e1⟩ := List.getElem?_eq_some_iff.1 hb
  obtain ⟨h2, e2⟩ := List.getElem?_eq_some_iff.1 hc
  rw [List.drop_eq_getElem_cons h1, e1, List.drop_eq_getElem_cons h2, e2, okB] at hd
  have := (Bool.and_eq_true_iff.1 hd).1
  refine ⟨?_, ?_⟩
  · rintro rfl; simp at this
  · rintro ⟨rfl, rfl | rfl⟩ <;> simp at this
set_option maxRecDepth 100000 in
set_option maxHeartbeats 8000000 in
theorem law9 (A : Option Addr) (xs : List Ins) (cap : Nat) (w : World) (hT : Tb w.heap.size w) (hx : InsAt w A xs) (hn : xs.length ≤ 4611686018427387904) (hcap : xs.length ≤ cap) (hcap2 : cap ≤ 9223372036854775807) :
    Calls Tryd.prog 9 #[.slice A xs.length cap] w fun e w' => e = .returned (.bool true) ∧ Below w.heap.size w w' := by
  have HT := Kp.mk hT
  have HX := Kp.mk hx
  have HXw := Kp.mk hx
  clear hT hx
  by_cases h60 : 60 < xs.length
  · have hd : decide ((xs.length : Int) > 60) = true := by simp; omega
    go_enter Tryd.func9, Tryd.ntmps9
    go_wp2_with fail
    refine (awake10 _ HT.out (Nat.le_refl _)).mono ?_
    rintro e w1 ⟨rfl, hb⟩
    have HB := Kp.mk hb
    clear hb
    go_wp2
    go_ret
    exact ⟨rfl, HB.out⟩
  · have hd : decide ((xs.length : Int) > 60) = false := by simp; omega
    go_enter Tryd.func9, Tryd.ntmps9
    go_wp2_with fail
    refine (format16 A xs cap _ HT.out (Nat.le_refl _) HX.out hn).mono ?_
    rintro e w1 ⟨rfl, hb⟩
    have HB := Kp.mk hb
    have HX := Kp.mk (HX.out.below hb)
    clear hb
    by_cases hc : chkP xs = 0
    · have hlen : xs.length ≤ 48 := by
        by_cases h48 : 48 < xs.length
        · simp [chkP, h48] at hc
        · omega
      have HO := Kp.mk (show ∀ x ∈ xs, refI x = 0 from refL_ok (by rw [chkP, if_neg (by omega)] at hc; exact hc))
      rw [show formatT xs = (fmtT xs, 0) by rw [formatT, if_pos hc]]
      clear hc
      have hz := fmt_size xs (fun x hx => okL_of (HO.out x hx))
      have HZ := Kp.mk hz
      clear hz
      obtain ⟨T, hTx⟩ : ∃ T, T = fmtT xs := ⟨_, rfl⟩
      rw [← hTx]
      have HTX := Kp.mk hTx
      clear hTx
      go_wp2_with fail
      go_loopw [5, 6] (fun s i W => ∃ k : Nat, k ≤ xs.length ∧ i = .int .i64 k ∧ s = .string (fmtT (xs.take k)) ∧ Kp (Below w.heap.size w W)) (fun _ i _ => xs.length - (intOf i).toNat)
      case atStart => exact ⟨0, by omega, rfl, rfl, HB⟩
      case round =>
        have HX0 := HXw
        clear HB
        obtain ⟨k, hk, rfl, rfl, HB⟩ := hrel
        by_cases hlt : k < xs.length
        · obtain ⟨B, off, rfl, hbl, _⟩ := (HX0.out.below HB.out) (by rintro rfl; simp at hlt)
          have hxk : xs[k]? = some xs[k] := by simp [hlt]
          have HI := Kp.mk (insAt_one (HX0.out.below HB.out) hxk)
          have HR := Kp.mk (HO.out xs[k] (by simp))
          have HD := Kp.mk (fmt_take xs k hlt)
          have hz1 := HZ.out k hk
          have hz2 := lineT_size (okL_of HR.out)
          generalize xs[k] = x at HI HR HD hz2
          clear hxk hbl
          have HD := Kp.mk (show fmtT (xs.take (k + 1)) = fmtT (xs.take k) ++ fmtT [x] by rw [HD.out, fmt_one])
          have hz3 : (fmtT [x]).size ≤ 101 := by rw [fmt_one, ByteArray.size_append]; simp only [ByteArray.size_mk', List.size_toArray, List.length_singleton]; omega
          obtain ⟨b0, t0, hl, hb0, hlast, hok⟩ := lines_form HR.out
          have hfe : formatT [x] = (fmtT [x], 0) := by rw [formatT, if_pos (chk_one HR.out)]
          have F := format16 (B := w.heap.size) (some ⟨B, off + k * 8, none⟩) [x] (cap - k) wr (HT.out.on (Nat.le_refl _) HB.out) HB.out.size HI.out (by simp)
          rw [hfe] at F
          have hbs : fmtT [x] = bstr (b0 :: t0) := by rw [← hl, bstr_eta]
          rw [hbs] at F HD hz3
          generalize fmtT (xs.take k) = ft at hz1 HD ⊢
          have F := Kp.mk F
          obtain ⟨m, hm⟩ : ∃ m, (b0 :: t0).length = m + 1 := ⟨t0.length, rfl⟩
          have hs : (bstr (b0 :: t0)).size = m + 1 := by rw [bstr_size]; exact hm
          have hx0 : ∀ W, (Instr.index 9 (.string (bstr (b0 :: t0))) (.int .i64 0)).run Tryd.prog W = .ok (.int .u8 (b0.toNat : Int)) W := fun W => index_at (b0 :: t0) (i := 0) rfl W
          have hxm := index_at (b0 :: t0) (i := m) (b := 10) (by rw [List.getLast?_eq_getElem?, hm] at hlast; exact hlast)
          have h32 : ¬ (b0.toNat : Int) = 32 := by
            intro e
            apply hb0
            apply UInt8.toNat_inj.1
            have : b0.toNat = 32 := by omega
            rw [this]; rfl
          have HOK := Kp.mk hok
          have HM := Kp.mk hm
          generalize b0 :: t0 = l at F HD hs hx0 hxm HOK HM hz3
          clear hl hb0 hlast hok hfe hbs hm HI HR
          have hc1 : k + 1 ≤ cap := by omega
          have hc2 : ¬ cap = k := by omega
          have hm100 : m ≤ 100 := by omega
          have q1 : ((m : Int) + 1 == 0) = false := by simp; omega
          have q2 : ((b0.toNat : Int) == 32) = false := by simpa using h32
          have q3 : ¬ (m : Int) + 1 = 0 := by omega
          go_wp2_with fail
          refine F.out.mono ?_
          rintro e w2 ⟨rfl, hb⟩
          have HB := Kp.mk (HB.out.trans (hb.mono HB.out.size))
          clear hb F
          go_wp2_with fail
          clear hx0 hxm h32 q1 q2 q3
          go_loop [9] (fun j => ∃ q : Nat, q ≤ m ∧ j = .int .i64 q) (fun j => m - (intOf j).toNat)
          case atStart => exact ⟨0, by omega, rfl⟩
          case round =>
            obtain ⟨q, hq, rfl⟩ := hrel
            by_cases hqm : q < m
            · obtain ⟨b, hb⟩ : ∃ b, l[q]? = some b := ⟨l[q]'(by have := HM.out; omega), by simp⟩
              obtain ⟨c, hc⟩ : ∃ c, l[q + 1]? = some c := ⟨l[q + 1]'(by have := HM.out; omega), by simp⟩
              obtain ⟨g1, g2⟩ := okB_at HOK.out hb hc
              have hx1 := index_at l hb
              have hx2 : ∀ W, (Instr.index 9 (.string (bstr l)) (.int .i64 ((q : Int) + 1))).run Tryd.prog W = .ok (.int .u8 (c.toNat : Int)) W := fun W => index_at l hc W
              have h10 : ¬ (b.toNat : Int) = 10 := by
                intro e
                apply g1
                apply UInt8.toNat_inj.1
                have : b.toNat = 10 := by omega
                rw [this]; rfl
              by_cases hb32 : b = 32
              · subst hb32
                have hc32 : ¬ (c.toNat : Int) = 32 := by
                  intro e
                  apply g2
                  refine ⟨rfl, .inl ?_⟩
                  apply UInt8.toNat_inj.1
                  have : c.toNat = 32 := by omega
                  rw [this]; rfl
                have hc10 : ¬ (c.toNat : Int) = 10 := by
                  intro e
                  apply g2
                  refine ⟨rfl, .inr ?_⟩
                  apply UInt8.toNat_inj.1
                  have : c.toNat = 10 := by omega
                  rw [this]; rfl
                clear g1 g2
                have r1 : ((c.toNat : Int) == 32) = false := by simpa using hc32
                have r2 : ((c.toNat : Int) == 10) = false := by simpa using hc10
                go_wp2_with fail
                exact ⟨⟨q + 1, by omega, by congr 1⟩, by simp only [intOf]; omega⟩
              · have hb32' : ¬ (b.toNat : Int) = 32 := by
                  intro e
                  apply hb32
                  apply UInt8.toNat_inj.1
                  have : b.toNat = 32 := by omega
                  rw [this]; rfl
                clear g1 g2 hb32
                have r1 : ((b.toNat : Int) == 32) = false := by simpa using hb32'
                have r2 : ((b.toNat : Int) == 10) = false := by simpa using h10
                go_wp2_with fail
                exact ⟨⟨q + 1, by omega, by congr 1⟩, by simp only [intOf]; omega⟩
            · obtain rfl : q = m := by omega
              go_wp2_with fail
              exact ⟨⟨k + 1, by omega, by congr 1, by rw [HD.out], HB⟩, by simp only [intOf]; omega⟩
        · have HTk := Kp.mk (show fmtT (xs.take k) = T by rw [HTX.out, List.take_of_length_le (by omega)])
          rw [HTk.out]
          go_wp2_with fail
          refine (awake10 _ (HT.out.on (Nat.le_refl _) HB.out) HB.out.size).mono ?_
          rintro e w7 ⟨rfl, hb⟩
          have HB := Kp.mk (HB.out.trans (hb.mono HB.out.size))
          clear hb
          go_wp2
          go_ret
          exact ⟨rfl, HB.out⟩
    · rw [show formatT xs = (⟨#[]⟩, chkP xs) by rw [formatT, if_neg hc]]
      generalize chkP xs = c at hc ⊢
      have hc' : (c != 0) = true := by simpa using hc
      go_wp2_with fail
      refine (awake10 _ (HT.out.on (Nat.le_refl _) HB.out) HB.out.size).mono ?_
      rintro e w7 ⟨rfl, hb⟩
      have HB := Kp.mk (HB.out.trans (hb.mono HB.out.size))
      clear hb
      go_wp2
      go_ret
      exact ⟨rfl, HB.out⟩
end Go.Proofs.YtiomnlgnhdhffaaDoor
