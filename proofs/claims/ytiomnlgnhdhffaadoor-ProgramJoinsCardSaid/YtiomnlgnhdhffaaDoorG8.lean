/-
  The walk of the statement ProgramJoins. Conditions: the table reads as listed.
-/
import Derived.Test.YtiomnlgnhdhffaaDoorF8
import Derived.Test.YtiomnlgnhdhffaaDoorV4
import Derived.Test.YtiomnlgnhdhffaaDoorSm
namespace Go.Proofs.YtiomnlgnhdhffaaDoor
open Go.RowKit
set_option linter.unusedVariables false
set_option linter.unusedSimpArgs false

theorem insAt_front {w : World} {A : Option Addr} {a b : List Ins} (h : InsAt w A (a ++ b)) : InsAt w A a := by
  intro hn
  obtain ⟨B, off, rfl, hb, hr⟩ := h (by simp [hn])
  refine ⟨B, off, rfl, hb, fun j x hj => hr j x ?_⟩
  rw [List.getElem?_append_left (List.getElem?_eq_some_iff.1 hj).1]
  exact hj
theorem insAt_back {w : World} {B off : Nat} {a b : List Ins} (h : InsAt w (some ⟨B, off, none⟩) (a ++ b)) : InsAt w (some ⟨B, off + a.length * 8, none⟩) b := by
  intro hn
  obtain ⟨B', off', he, hb, hr⟩ := h (by simp [hn])
  cases he
  refine ⟨B, off + a.length * 8, rfl, hb, fun j x hj => ?_⟩
  have := hr (a.length + j) x (by rw [List.getElem?_append_right (by omega)]; simpa using hj)
  rw [show off + a.length * 8 + j * 8 = off + (a.length + j) * 8 by omega]
  exact this
theorem par_len (t : ByteArray) : (parT t).1.length ≤ 48 := by
  by_cases h : (parT t).2.2 = 0
  · have := (par_ok t).1 h
    by_cases h48 : 48 < (parT t).1.length
    · simp [chkP, h48] at this
    · omega
  · rw [(par_ok t).2 h]; simp
theorem cut_len (c : UInt8) : ∀ l : List UInt8, (cutAt c l).length ≤ l.length + 1
  | [] => by simp [cutAt]
  | b :: l => by
    have ih := cut_len c l
    rw [cutAt]
    split
    · simp; omega
    · split
      · simp
      · next h => rw [h] at ih; simpa using Nat.le_succ_of_le ih
theorem parX_le : ∀ (l : List ByteArray) (q : Nat × Int), (parX l).1 = some q → q.1 ≤ l.length
  | [], q, h => by cases h
  | x :: r, q, h => by
    rw [parX] at h
    cases hl : lineW (wordsOf x.data.toList) with
    | skip =>
      rw [hl] at h
      obtain ⟨p, hp, rfl⟩ := Option.map_eq_some_iff.1 h
      have := parX_le r p hp
      simp; omega
    | bad e =>
      rw [hl] at h
      cases h
      simp
    | ins i =>
      rw [hl] at h
      obtain ⟨p, hp, rfl⟩ := Option.map_eq_some_iff.1 h
      have := parX_le r p hp
      simp; omega
theorem par_n {t : ByteArray} (h : t.size ≤ 1900) : 0 ≤ (parT t).2.1 ∧ (parT t).2.1 ≤ 1901 := by
  rw [parT_X (by omega)]
  unfold parF
  have hl := cut_len 10 t.data.toList
  have hz : t.data.toList.length = t.size := rfl
  have hf : (frags 10 t.data.toList).length = (cutAt 10 t.data.toList).length := by simp [frags]
  cases hq : (parX (frags 10 t.data.toList)).1 with
  | some q =>
    have := parX_le _ q hq
    simp only
    omega
  | none =>
    simp only
    split <;> simp
theorem lines_len (l : List UInt8) : (linesR l).length ≤ l.length + 1 := by
  have := cut_len 10 l
  unfold linesR
  split
  · rw [List.length_dropLast]; omega
  · exact this
set_option maxRecDepth 100000 in
set_option maxHeartbeats 4000000 in
theorem joins_early (s t : ByteArray) (w : World) (hT : Tb w.heap.size w) (h : 2000 < s.size ∨ 1900 < t.size) :
    Calls Tryd.prog 8 #[.string s, .string t] w fun e w' => e = .returned (.bool true) ∧ Below w.heap.size w w' := by
  have HT := Kp.mk hT
  clear hT
  by_cases h1 : 2000 < s.size
  · have hd : decide ((s.size : Int) > 2000) = true := by simp; omega
    clear h
    go_enter Tryd.func8, Tryd.ntmps8
    go_wp2_with fail
    refine (awake10 _ HT.out (Nat.le_refl _)).mono ?_
    rintro e w1 ⟨rfl, hb⟩
    have HB := Kp.mk hb
    clear hb
    go_wp2
    go_ret
    exact ⟨rfl, HB.out⟩
  · have hd : decide ((s.size : Int) > 2000) = false := by simp; omega
    have hd2 : decide ((t.size : Int) > 1900) = true := by simp; omega
    clear h
    go_enter Tryd.func8, Tryd.ntmps8
    go_wp2_with fail
    refine (awake10 _ HT.out (Nat.le_refl _)).mono ?_
    rintro e w1 ⟨rfl, hb⟩
    have HB := Kp.mk hb
    clear hb
    go_wp2
    go_ret
    exact ⟨rfl, HB.out⟩
set_option maxRecDepth 100000 in
set_option maxHeartbeats 8000000 in
theorem law8 (s t : ByteArray) (w : World) (hT : Tb w.heap.size w) :
    Calls Tryd.prog 8 #[.string s, .string t] w fun e w' => e = .returned (.bool true) ∧ Below w.heap.size w w' := by
  by_cases h1 : 2000 < s.size ∨ 1900 < t.size
  · exact joins_early s t w hT h1
  have HT := Kp.mk hT
  clear hT
  have hs1 : s.size ≤ 2000 := by omega
  have ht1 : t.size ≤ 1900 := by omega
  have hd : decide ((s.size : Int) > 2000) = false := by simp; omega
  have hd2 : decide ((t.size : Int) > 1900) = false := by simp; omega
  have J := Kp.mk (joins hs1 ht1)
  have hlz : (s ++ ⟨#[10]⟩ : ByteArray).size = s.size + 1 := by rw [ByteArray.size_append]; rfl
  have hln : ((s ++ ⟨#[10]⟩ : ByteArray).data.toList).length ≤ 1000000 := by
    have : ((s ++ ⟨#[10]⟩ : ByteArray).data.toList).length = (s ++ ⟨#[10]⟩ : ByteArray).size := rfl
    omega
  have HL := Kp.mk hln
  have L18 := Kp.mk (fun W => show Calls Tryd.prog 18 #[.string (s ++ ⟨#[10]⟩)] W (StrsPost (linesR (s ++ ⟨#[10]⟩ : ByteArray).data.toList) W) by
    have := lines18 (s ++ ⟨#[10]⟩ : ByteArray).data.toList W hln
    rwa [bstr_eta] at this)
  have hm1 : (linesT (s ++ ⟨#[10]⟩)).length = (linesR (s ++ ⟨#[10]⟩ : ByteArray).data.toList).length := by simp [linesT]
  have hm2 := lines_len (s ++ ⟨#[10]⟩ : ByteArray).data.toList
  have hm3 : (s ++ ⟨#[10]⟩ : ByteArray).data.toList.length ≤ 2001 := by
    have : ((s ++ ⟨#[10]⟩ : ByteArray).data.toList).length = (s ++ ⟨#[10]⟩ : ByteArray).size := rfl
    omega
  have HM2 := Kp.mk (Nat.le_trans hm2 (Nat.add_le_add_right hm3 1))
  have HM1 := Kp.mk hm1
  clear hm1 hm2 hm3
  clear h1 hln hlz
  have PA := parse13 (s ++ ⟨#[10]⟩) w
  have PB := parse13 t
  have PC := parse13 (s ++ ⟨#[10]⟩ ++ t)
  obtain ⟨jo, jb, jg⟩ := J.out
  clear J
  have la := par_len (s ++ ⟨#[10]⟩)
  have lb := par_len t
  have ln := par_n ht1
  unfold ParPost at PA PB PC
  generalize parT (s ++ ⟨#[10]⟩) = ra at PA la jo jb jg
  generalize parT t = rb at PB lb ln jo jb jg
  generalize parT (s ++ ⟨#[10]⟩ ++ t) = rc at PC jo jb jg
  obtain ⟨a, na, ea⟩ := ra
  obtain ⟨b, nb, eb⟩ := rb
  obtain ⟨c, nc, ec⟩ := rc
  simp only at PA PB PC la lb ln jo jb jg
  have PA := Kp.mk PA
  have PB := Kp.mk PB
  have PC := Kp.mk PC
  have JO := Kp.mk jo
  have JB := Kp.mk jb
  have JG := Kp.mk jg
  clear jo jb jg
  go_enter Tryd.func8, Tryd.ntmps8
  go_wp2_with fail
  refine PA.out.mono ?_
  rintro e w1 ⟨A1, cap1, rfl, hA, hcap1, hb⟩
  have HB := Kp.mk hb
  have HA1 := Kp.mk hA
  clear hb hA PA
  go_wp2_with fail
  refine (PB.out w1).mono ?_
  rintro e w2 ⟨A2, cap2, rfl, hA, hcap2, hb⟩
  have HB := Kp.mk (HB.out.trans (hb.mono HB.out.size))
  have HA1 := Kp.mk (HA1.out.below hb)
  have HA2 := Kp.mk hA
  clear hb hA PB
  by_cases hea : ea = 0
  · subst hea
    go_wp2_with fail
    refine (PC.out w2).mono ?_
    rintro e w3 ⟨A3, cap3, rfl, hA, hcap3, hb⟩
    have HB := Kp.mk (HB.out.trans (hb.mono HB.out.size))
    have HA1 := Kp.mk (HA1.out.below hb)
    have HA2 := Kp.mk (HA2.out.below hb)
    have HA3 := Kp.mk hA
    clear hb hA PC
    by_cases heb : eb = 0
    · subst heb
      by_cases h48 : 48 < a.length + b.length
      · have hrc := JO.out (by trivial) (by trivial) h48
        cases hrc
        clear JO JB JG
        go_wp2_with fail
        refine (awake10 _ (HT.out.on (Nat.le_refl _) HB.out) HB.out.size).mono ?_
        rintro e w7 ⟨rfl, hb⟩
        have HB := Kp.mk (HB.out.trans (hb.mono HB.out.size))
        clear hb
        go_wp2
        go_ret
        exact ⟨rfl, HB.out⟩
      · have hrc := JG.out (by trivial) (by trivial) h48
        cases hrc
        clear JO JB JG PA PB PC
        have hcp1 : a.length ≤ cap3 := by rw [List.length_append] at hcap3; omega
        have hcp2 : a.length + b.length ≤ cap3 := by rw [List.length_append] at hcap3; omega
        clear hcap3
        by_cases hne : a.length + b.length = 0
        · obtain rfl : a = [] := List.eq_nil_of_length_eq_zero (by omega)
          obtain rfl : b = [] := List.eq_nil_of_length_eq_zero (by omega)
          clear hne h48 hcp2
          go_wp2_with fail
          refine (same15 _ A1 [] _ cap1 _ (fun h => absurd rfl h) HA1.out (by simp)).mono ?_
          rintro e w4 ⟨rfl, hb⟩
          have HB := Kp.mk (HB.out.trans (hb.mono HB.out.size))
          have HA2 := Kp.mk (HA2.out.below hb)
          clear hb
          go_wp2_with fail
          refine (same15 _ A2 [] _ cap2 _ (fun h => absurd rfl h) HA2.out (by simp)).mono ?_
          rintro e w5 ⟨rfl, hb⟩
          have HB := Kp.mk (HB.out.trans (hb.mono HB.out.size))
          clear hb
          go_wp2_with fail
          refine (awake10 _ (HT.out.on (Nat.le_refl _) HB.out) HB.out.size).mono ?_
          rintro e w7 ⟨rfl, hb⟩
          have HB := Kp.mk (HB.out.trans (hb.mono HB.out.size))
          clear hb
          go_wp2
          go_ret
          exact ⟨rfl, HB.out⟩
        · obtain ⟨B, off, rfl, _, _⟩ := HA3.out (by intro h; have := congrArg List.length h; simp at this; simp [this] at hne)
          have hc0 : ¬ cap3 = 0 := by omega
          clear hne
          go_wp2_with fail
          refine (same15 (some ⟨B, off, none⟩) A1 a _ cap1 _ (insAt_front HA3.out) HA1.out (by omega)).mono ?_
          rintro e w4 ⟨rfl, hb⟩
          have HB := Kp.mk (HB.out.trans (hb.mono HB.out.size))
          have HA2 := Kp.mk (HA2.out.below hb)
          have HA3 := Kp.mk (HA3.out.below hb)
          clear hb
          by_cases hcc : cap3 = a.length
          · obtain rfl : b = [] := List.eq_nil_of_length_eq_zero (by omega)
            subst hcc
            go_wp2_with fail
            refine (same15 _ A2 [] _ cap2 _ (fun h => absurd rfl h) HA2.out (by simp)).mono ?_
            rintro e w5 ⟨rfl, hb⟩
            have HB := Kp.mk (HB.out.trans (hb.mono HB.out.size))
            clear hb
            go_wp2_with fail
            refine (awake10 _ (HT.out.on (Nat.le_refl _) HB.out) HB.out.size).mono ?_
            rintro e w7 ⟨rfl, hb⟩
            have HB := Kp.mk (HB.out.trans (hb.mono HB.out.size))
            clear hb
            go_wp2
            go_ret
            exact ⟨rfl, HB.out⟩
          · go_wp2_with fail
            refine (same15 (some ⟨B, off + a.length * 8, none⟩) A2 b _ cap2 _ (insAt_back HA3.out) HA2.out (by omega)).mono ?_
            rintro e w5 ⟨rfl, hb⟩
            have HB := Kp.mk (HB.out.trans (hb.mono HB.out.size))
            clear hb
            go_wp2_with fail
            refine (awake10 _ (HT.out.on (Nat.le_refl _) HB.out) HB.out.size).mono ?_
            rintro e w7 ⟨rfl, hb⟩
            have HB := Kp.mk (HB.out.trans (hb.mono HB.out.size))
            clear hb
            go_wp2
            go_ret
            exact ⟨rfl, HB.out⟩
    · have hrc := JB.out (by trivial) heb
      have heb' : (eb != 0) = true := by simpa using heb
      have heb2 : (eb == 0) = false := by simpa using heb
      by_cases hnb : 0 < nb
      · rw [if_pos hnb, HM1.out] at hrc
        have hm := HM2.out
        clear HM2 HM1
        clear JO JB PA PB PC
        obtain ⟨ln0, ln1⟩ := ln
        obtain ⟨R, hR⟩ : ∃ R, R = linesR (s ++ ⟨#[10]⟩ : ByteArray).data.toList := ⟨_, rfl⟩
        rw [← hR] at hm hrc L18
        clear hR
        cases hrc
        clear JG
        go_wp2_with fail
        refine (L18.out w3).mono ?_
        rintro e w4 ⟨A4, cap4, rfl, _, hb, _, _⟩
        have HB := Kp.mk (HB.out.trans (hb.mono HB.out.size))
        clear hb
        go_wp2_with fail
        refine (awake10 _ (HT.out.on (Nat.le_refl _) HB.out) HB.out.size).mono ?_
        rintro e w7 ⟨rfl, hb⟩
        have HB := Kp.mk (HB.out.trans (hb.mono HB.out.size))
        clear hb
        go_wp2
        go_ret
        exact ⟨rfl, HB.out⟩
      · rw [if_neg hnb] at hrc
        cases hrc
        clear JO JB JG PA PB PC
        go_wp2_with fail
        refine (awake10 _ (HT.out.on (Nat.le_refl _) HB.out) HB.out.size).mono ?_
        rintro e w7 ⟨rfl, hb⟩
        have HB := Kp.mk (HB.out.trans (hb.mono HB.out.size))
        clear hb
        go_wp2
        go_ret
        exact ⟨rfl, HB.out⟩
  · have hea' : (ea != 0) = true := by simpa using hea
    go_wp2_with fail
    refine (awake10 _ (HT.out.on (Nat.le_refl _) HB.out) HB.out.size).mono ?_
    rintro e w7 ⟨rfl, hb⟩
    have HB := Kp.mk (HB.out.trans (hb.mono HB.out.size))
    clear hb
    go_wp2
    go_ret
    exact ⟨rfl, HB.out⟩
end Go.Proofs.YtiomnlgnhdhffaaDoor
