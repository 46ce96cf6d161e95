/-
  The reference's Check at every program. Conditions: none but what each theorem names.
-/
import Derived.Test.YtiomnlgnhdhffaaDoorC2
import Derived.Test.YtiomnlgnhdhffaaDoorC3
import Derived.Test.YtiomnlgnhdhffaaDoorB5
import Derived.Test.YtiomnlgnhdhffaaDoorEq
namespace Go.Proofs.YtiomnlgnhdhffaaDoor
open Go.RowKit
set_option linter.unusedVariables false
set_option linter.unusedSimpArgs false

/-- What the reference's Check says of one instruction: 0 where it goes on. -/
def refI (x : Ins) : Int := if !(inR x.op 1 12) then 1 else if usedI x ≠ x then 1 else if !(rngR x) then 2 else 0
def refL : List Ins → Int
  | [] => 0
  | x :: r => if refI x = 0 then refL r else refI x
def refP (xs : List Ins) : Int := if 48 < xs.length then 9 else refL xs

theorem eqB_iff (y x : Ins) : eqB y.op y.page y.count y.index y.value y.file y.prot y.flags x.op x.page x.count x.index x.value x.file x.prot x.flags = decide (y = x) := by
  obtain ⟨y0, y1, y2, y3, y4, y5, y6, y7⟩ := y
  obtain ⟨x0, x1, x2, x3, x4, x5, x6, x7⟩ := x
  rw [Bool.eq_iff_iff]
  simp [eqB]
set_option maxRecDepth 100000 in
set_option maxHeartbeats 4000000 in
theorem refcheck12 (A : Option Addr) (xs : List Ins) (cap : Nat) (w : World) (hx : InsAt w A xs) (hn : xs.length ≤ 4611686018427387904) :
    Calls Tryd.prog 12 #[.slice A xs.length cap] w fun e w' => e = .returned (.int .i64 (refP xs)) ∧ Below w.heap.size w w' := by
  have HX := Kp.mk hx
  clear hx
  by_cases h48 : 48 < xs.length
  · have HE := Kp.mk (show refP xs = 9 by simp [refP, h48])
    go_enter Tryd.func12, Tryd.ntmps12
    go_wp2
    go_ret
    exact ⟨by rw [HE.out]; rfl, Below.refl _ _⟩
  · have HE := Kp.mk (show refP xs = refL xs by simp [refP, h48])
    go_enter Tryd.func12, Tryd.ntmps12
    go_wp2
    go_loopw [3] (fun i wr => ∃ k : Nat, k ≤ xs.length ∧ i = .int .i64 k ∧ Kp (refP xs = refL (xs.drop k)) ∧ Kp (Below w.heap.size w wr)) (fun i _ => xs.length - (intOf i).toNat)
    case atStart => exact ⟨0, by omega, rfl, HE, ⟨Below.refl _ _⟩⟩
    case round =>
      obtain ⟨k, hk, rfl, HK, HB⟩ := hrel
      by_cases hlt : k < xs.length
      · have HI := Kp.mk (HX.out.below HB.out)
        obtain ⟨b, off, rfl, hbl, hr⟩ := HI.out (by rintro rfl; simp at hlt)
        have hxk : xs[k]? = some xs[k] := by simp [hlt]
        have HR := Kp.mk (hr k _ hxk)
        have HD := Kp.mk (show refP xs = if refI xs[k] = 0 then refL (xs.drop (k + 1)) else refI xs[k] by rw [HK.out, List.drop_eq_getElem_cons hlt]; rfl)
        generalize xs[k] = x at HR HD
        clear hr hxk HK
        obtain ⟨x0, x1, x2, x3, x4, x5, x6, x7⟩ := x
        have HR := Kp.mk (show wr.rangeAt b (off + k * 8) [.int .i64 x0, .int .i64 x1, .int .i64 x2, .int .i64 x3, .int .i64 x4, .int .i64 x5, .int .i64 x6, .int .i64 x7] from HR.out)
        have hlt' : (k : Int) < xs.length := by omega
        have hk0 : (0 : Int) ≤ k := by omega
        have e0 : wr.cell? ⟨b, off + k * 8, none⟩ = some (.int .i64 x0) := by simpa using HR.out 0 _ rfl
        have e1 : wr.cell? ⟨b, off + k * 8 + 1, none⟩ = some (.int .i64 x1) := HR.out 1 _ rfl
        have e2 : wr.cell? ⟨b, off + k * 8 + 2, none⟩ = some (.int .i64 x2) := HR.out 2 _ rfl
        have e3 : wr.cell? ⟨b, off + k * 8 + 3, none⟩ = some (.int .i64 x3) := HR.out 3 _ rfl
        have e4 : wr.cell? ⟨b, off + k * 8 + 4, none⟩ = some (.int .i64 x4) := HR.out 4 _ rfl
        have e5 : wr.cell? ⟨b, off + k * 8 + 5, none⟩ = some (.int .i64 x5) := HR.out 5 _ rfl
        have e6 : wr.cell? ⟨b, off + k * 8 + 6, none⟩ = some (.int .i64 x6) := HR.out 6 _ rfl
        have e7 : wr.cell? ⟨b, off + k * 8 + 7, none⟩ = some (.int .i64 x7) := HR.out 7 _ rfl
        cases hop : inR x0 1 12
        · have HK := Kp.mk (show refP xs = 1 by rw [HD.out]; simp [refI, hop])
          have Q := Kp.mk (fun m => (in20 x0 1 12 (wr.drewN m)).mono fun _ _ ⟨h1, h2⟩ => (⟨h1.trans (by rw [hop]), h2.symm⟩ : _ = Ending.returned (.bool false) ∧ _))
          clear HD hop
          go_wp2
          go_quiet ((go_at_call 20; with_reducible exact Calls.quiet_of_same (Q.out _)))
          go_wp2
          go_ret
          exact ⟨by rw [HK.out]; rfl, below_drewN HB.out _⟩
        · have hop2 : 1 ≤ x0 ∧ x0 ≤ 12 := by simpa [inR] using hop
          have HOP := Kp.mk hop
          clear hop
          obtain ⟨y, hy⟩ : ∃ y, y = usedI ⟨x0, x1, x2, x3, x4, x5, x6, x7⟩ := ⟨_, rfl⟩
          have HY := Kp.mk hy
          clear hy
          obtain ⟨y0, y1, y2, y3, y4, y5, y6, y7⟩ := y
          have hne := neq36 y0 y1 y2 y3 y4 y5 y6 y7 x0 x1 x2 x3 x4 x5 x6 x7
          obtain ⟨q, hq⟩ : ∃ q, q = eqB y0 y1 y2 y3 y4 y5 y6 y7 x0 x1 x2 x3 x4 x5 x6 x7 := ⟨_, rfl⟩
          rw [← hq] at hne
          have HQ := Kp.mk hq
          clear hq
          go_wp2
          have I := Kp.mk (show Below w.heap.size w wr.drew ∧ b < wr.drew.heap.size from ⟨HB.out.drew, hbl⟩)
          go_region_held3 (fun W => W.cell? ⟨b, off + k * 8, none⟩ = some (.int .i64 x0) ∧ W.cell? ⟨b, off + k * 8 + 1, none⟩ = some (.int .i64 x1) ∧ W.cell? ⟨b, off + k * 8 + 2, none⟩ = some (.int .i64 x2) ∧ W.cell? ⟨b, off + k * 8 + 3, none⟩ = some (.int .i64 x3) ∧
              W.cell? ⟨b, off + k * 8 + 4, none⟩ = some (.int .i64 x4) ∧ W.cell? ⟨b, off + k * 8 + 5, none⟩ = some (.int .i64 x5) ∧ W.cell? ⟨b, off + k * 8 + 6, none⟩ = some (.int .i64 x6) ∧ W.cell? ⟨b, off + k * 8 + 7, none⟩ = some (.int .i64 x7))
            (first | go_keep | (rw [hb.cell (p := ⟨b, _, none⟩) I.out.2, hb.cell (p := ⟨b, _, none⟩) I.out.2, hb.cell (p := ⟨b, _, none⟩) I.out.2, hb.cell (p := ⟨b, _, none⟩) I.out.2, hb.cell (p := ⟨b, _, none⟩) I.out.2, hb.cell (p := ⟨b, _, none⟩) I.out.2, hb.cell (p := ⟨b, _, none⟩) I.out.2, hb.cell (p := ⟨b, _, none⟩) I.out.2]; go_keep))
            (first | (go_at_call 20; with_reducible refine (in20 x0 1 12 _).mono ?_; rintro e w' ⟨rfl, rfl⟩; rw [HOP.out]) | (go_at_call 21; refine (used21 ⟨x0, x1, x2, x3, x4, x5, x6, x7⟩ hop2.1 hop2.2 _).mono ?_; rintro e w' ⟨rfl, hb⟩; rw [← HY.out]))
          clear hne
          have HQ' := Kp.mk (HQ.out.trans (eqB_iff ⟨y0, y1, y2, y3, y4, y5, y6, y7⟩ ⟨x0, x1, x2, x3, x4, x5, x6, x7⟩))
          clear HQ
          have HB3 := Kp.mk (HB.out.drew.trans (hb.mono HB.out.size))
          clear hb
          cases q <;> go_wp2_with fail
          · have HK := Kp.mk (show refP xs = 1 by
              have h := HQ'.out
              rw [HY.out] at h
              rw [HD.out]
              simp [refI, HOP.out, of_decide_eq_false h.symm])
            go_ret
            exact ⟨by rw [HK.out]; rfl, HB3.out⟩
          · have h := HQ'.out
            rw [HY.out] at h
            have HE2 := Kp.mk (of_decide_eq_true h.symm)
            clear h
            refine (ranges22 ⟨x0, x1, x2, x3, x4, x5, x6, x7⟩ hop2.1 hop2.2 _).mono ?_
            rintro e w2 ⟨rfl, hb2⟩
            have HB4 := Kp.mk (HB3.out.trans (hb2.mono HB3.out.size))
            clear hb2
            cases hr : rngR ⟨x0, x1, x2, x3, x4, x5, x6, x7⟩
            · have HK := Kp.mk (show refP xs = 2 by
                rw [HD.out]
                simp [refI, HOP.out, HE2.out, hr])
              go_wp2
              go_ret
              exact ⟨by rw [HK.out]; rfl, HB4.out⟩
            · have HK := Kp.mk (show refP xs = refL (xs.drop (k + 1)) by
                rw [HD.out]
                simp [refI, HOP.out, HE2.out, hr])
              clear hr HE2 HQ' HY HOP HD HR
              go_wp2
              go_roundw
              case rel => exact ⟨k + 1, by omega, by go_num, HK, HB4⟩
              case measure => simp [intOf]; omega
      · have HK' := Kp.mk (show refP xs = 0 by rw [HK.out, List.drop_eq_nil_of_le (by omega)]; rfl)
        go_wp2
        go_ret
        exact ⟨by rw [HK'.out]; rfl, HB.out⟩
end Go.Proofs.YtiomnlgnhdhffaaDoor
