/-
  The contract of program.check. Conditions: none but what each theorem names.
-/
import Derived.Test.YtiomnlgnhdhffaaDoorB3
namespace Go.Proofs.YtiomnlgnhdhffaaDoor
open Go.RowKit
set_option linter.unusedVariables false

theorem use_ops {P : Program} {ops ops' : Array Oper} {id : Nat} {b : Bool} {Q : Exit → Act → World → Prop} {a : Act} {w : World} (he : ops = ops') (h : (Code.region id ops' b).wp P Q a w) : (Code.region id ops b).wp P Q a w := by subst he; exact h
theorem put_none (a : Act) (v : Value) : a.put none v = a := rfl
theorem r4_lay (v : Nat → Value) (a : Act) : lay r4 v (List.range 14) a = (((((((((((((a.put (some 19) (v 0)).put (some 20) (v 1)).put (some 21) (v 2)).put (some 22) (v 3)).put (some 23) (v 4)).put (some 24) (v 5)).put (some 25) (v 6)).put (some 26) (v 7)).put (some 5) (v 8)).put (some 6) (v 9)).put (some 7) (v 10)))) := by
  have h0 : (r4[0]?).bind (·.dst) = some 19 := by kernel_rfl
  have h1 : (r4[1]?).bind (·.dst) = some 20 := by kernel_rfl
  have h2 : (r4[2]?).bind (·.dst) = some 21 := by kernel_rfl
  have h3 : (r4[3]?).bind (·.dst) = some 22 := by kernel_rfl
  have h4 : (r4[4]?).bind (·.dst) = some 23 := by kernel_rfl
  have h5 : (r4[5]?).bind (·.dst) = some 24 := by kernel_rfl
  have h6 : (r4[6]?).bind (·.dst) = some 25 := by kernel_rfl
  have h7 : (r4[7]?).bind (·.dst) = some 26 := by kernel_rfl
  have h8 : (r4[8]?).bind (·.dst) = some 5 := by kernel_rfl
  have h9 : (r4[9]?).bind (·.dst) = some 6 := by kernel_rfl
  have h10 : (r4[10]?).bind (·.dst) = some 7 := by kernel_rfl
  have h11 : (r4[11]?).bind (·.dst) = none := by kernel_rfl
  have h12 : (r4[12]?).bind (·.dst) = none := by kernel_rfl
  have h13 : (r4[13]?).bind (·.dst) = none := by kernel_rfl
  simp only [show List.range 14 = [0, 1, 2, 3, 4, 5, 6, 7, 8, 9, 10, 11, 12, 13] from rfl, lay, h0, h1, h2, h3, h4, h5, h6, h7, h8, h9, h10, h11, h12, h13, put_none]

/-- The scan of the fields: none is ErrArg, else the error so far. -/
def scan : List Int → List Int → List Int → Int → Option Int
  | n :: f, l :: lo, h :: hi, e => if n < l ∨ h < n then (if h = 0 then none else scan f lo hi 2) else scan f lo hi e
  | _, _, _, e => some e

set_option maxRecDepth 100000
def ckT (l14 x0 x3 x5 x6 : Int) : Bool := (l14 == 3 && !(x6 == 1 || x6 == 3)) || (x0 == 1 && (x5 == -1 && x3 != 0))
/-- What check answers for an operation that there is. -/
def ckA (F LO HI : List Int) (t : Bool) : Int := match scan F LO HI 0 with
  | none => 1
  | some e => if t then 2 else e
theorem scan_step {F LO HI : List Int} {k : Nat} {e : Int} (hF : k < F.length) (hL : k < LO.length) (hH : k < HI.length) : scan (F.drop k) (LO.drop k) (HI.drop k) e =
    if F.getD k 0 < LO.getD k 0 ∨ HI.getD k 0 < F.getD k 0 then (if HI.getD k 0 = 0 then none else scan (F.drop (k + 1)) (LO.drop (k + 1)) (HI.drop (k + 1)) 2) else scan (F.drop (k + 1)) (LO.drop (k + 1)) (HI.drop (k + 1)) e := by
  rw [List.drop_eq_getElem_cons hF, List.drop_eq_getElem_cons hL, List.drop_eq_getElem_cons hH]
  simp only [scan, List.getD_eq_getElem?_getD, List.getElem?_eq_getElem hF, List.getElem?_eq_getElem hL, List.getElem?_eq_getElem hH, Option.getD_some]
theorem idx63 (a0 a1 a2 a3 a4 a5 a6 : Int) {k : Nat} (hk : k < 7) : ∀ w, (Instr.index 63 (.agg #[.int .i64 a0, .int .i64 a1, .int .i64 a2, .int .i64 a3, .int .i64 a4, .int .i64 a5, .int .i64 a6]) (.int .i64 k)).run Tryd.prog w = .ok (.int .i64 ([a0, a1, a2, a3, a4, a5, a6].getD k 0)) w := by
  have : k = 0 ∨ k = 1 ∨ k = 2 ∨ k = 3 ∨ k = 4 ∨ k = 5 ∨ k = 6 := by omega
  rcases this with rfl | rfl | rfl | rfl | rfl | rfl | rfl <;> exact fun _ => by kernel_rfl
theorem cell63 {W : World} {p : Nat} {a0 a1 a2 a3 a4 a5 a6 : Int} (h : W.heap[p]? = some (.cells #[.int .i64 a0, .int .i64 a1, .int .i64 a2, .int .i64 a3, .int .i64 a4, .int .i64 a5, .int .i64 a6] 63 (0, 0))) {k : Nat} (hk : k < 7) : W.cell? ⟨p, k, none⟩ = some (.int .i64 ([a0, a1, a2, a3, a4, a5, a6].getD k 0)) := by
  rw [cell_of_row _ _ _ _ _ _ h]
  have : k = 0 ∨ k = 1 ∨ k = 2 ∨ k = 3 ∨ k = 4 ∨ k = 5 ∨ k = 6 := by omega
  rcases this with rfl | rfl | rfl | rfl | rfl | rfl | rfl <;> rfl

set_option maxRecDepth 100000 in
set_option maxHeartbeats 40000000 in
theorem check_main (x0 x1 x2 x3 x4 x5 x6 x7 : Int) (l0 l1 l2 l3 l4 l5 l6 l7 l8 l9 l10 l11 l12 l13 l14 l15 : Int) (hof : ∀ w, Calls Tryd.prog 31 #[.int .i64 x0] w fun e w' => e = .returned (.tuple #[.agg #[.int .i64 l0, .int .i64 l1, .int .i64 l2, .int .i64 l3, .int .i64 l4, .int .i64 l5, .int .i64 l6, .int .i64 l7, .int .i64 l8, .int .i64 l9, .int .i64 l10, .int .i64 l11, .int .i64 l12, .int .i64 l13, .int .i64 l14, .int .i64 l15], .bool true]) ∧ Below w.heap.size w w') (w : World) :
    Calls Tryd.prog 19 #[insV x0 x1 x2 x3 x4 x5 x6 x7] w fun e w' => e = .returned (.int .i64 (ckA [x1, x2, x3, x4, x5, x6, x7] [l1, l2, l3, l4, l5, l6, l7] [l9, l10, l11, l12, l13, l14, l15] (ckT l14 x0 x3 x5 x6))) ∧ Below w.heap.size w w' := by
  obtain ⟨R, hR⟩ : ∃ R, R = ckA [x1, x2, x3, x4, x5, x6, x7] [l1, l2, l3, l4, l5, l6, l7] [l9, l10, l11, l12, l13, l14, l15] (ckT l14 x0 x3 x5 x6) := ⟨_, rfl⟩
  rw [← hR]
  have HR := Kp.mk hR
  clear hR
  have HO := Kp.mk hof
  clear hof
  go_enter Tryd.func19, Tryd.ntmps19
  go_wp2_with fail
  refine (HO.out _).mono ?_
  rintro e w1 ⟨rfl, hb⟩
  have I := Kp.mk (show CkI (w1.heap.size + 1) w w.heap.size w1.heap.size #[.int .i64 x0, .int .i64 x1, .int .i64 x2, .int .i64 x3, .int .i64 x4, .int .i64 x5, .int .i64 x6, .int .i64 x7] #[.int .i64 l0, .int .i64 l1, .int .i64 l2, .int .i64 l3, .int .i64 l4, .int .i64 l5, .int .i64 l6, .int .i64 l7, .int .i64 l8, .int .i64 l9, .int .i64 l10, .int .i64 l11, .int .i64 l12, .int .i64 l13, .int .i64 l14, .int .i64 l15]
      (w1.alloc (.cells #[.int .i64 l0, .int .i64 l1, .int .i64 l2, .int .i64 l3, .int .i64 l4, .int .i64 l5, .int .i64 l6, .int .i64 l7, .int .i64 l8, .int .i64 l9, .int .i64 l10, .int .i64 l11, .int .i64 l12, .int .i64 l13, .int .i64 l14, .int .i64 l15] 60)) by
    have hz := hb.size
    simp at hz
    refine ⟨(((Below.refl w.heap.size w).alloc (Nat.le_refl _) _).trans (hb.mono (by simp))).alloc (by omega) _, by simp, by omega, by omega, by omega, heap_keep ?_ _, heap_at rfl _⟩
    rw [hb.block _ (by simp)]
    exact heap_at rfl _)
  clear hb
  go_wp2_with fail
  refine use_ops (ops' := r4) (by kernel_rfl) (check_region4 x0 x1 x2 x3 x4 x5 x6 x7 l0 l1 l2 l3 l4 l5 l6 l7 l8 l9 l10 l11 l12 l13 l14 l15 rfl rfl rfl I.out ?_)
  clear I HO
  intro p W hck h0 h1 h2
  have I := Kp.mk hck
  have H0 := Kp.mk h0
  have H1 := Kp.mk h1
  have H2 := Kp.mk h2
  clear hck h0 h1 h2
  rw [r4_lay]
  simp only [Act.put, r4val, List.setIfInBounds_toArray, List.set_cons_zero, List.set_cons_succ]
  have c14 : W.cell? ⟨w1.heap.size, 14, none⟩ = some (.int .i64 l14) := by rw [cell_of_row _ _ _ _ _ _ I.out.l]; rfl
  have c0 : W.cell? ⟨w.heap.size, 0, none⟩ = some (.int .i64 x0) := by rw [cell_of_row _ _ _ _ _ _ I.out.x]; rfl
  have c3 : W.cell? ⟨w.heap.size, 3, none⟩ = some (.int .i64 x3) := by rw [cell_of_row _ _ _ _ _ _ I.out.x]; rfl
  have c5 : W.cell? ⟨w.heap.size, 5, none⟩ = some (.int .i64 x5) := by rw [cell_of_row _ _ _ _ _ _ I.out.x]; rfl
  have c6 : W.cell? ⟨w.heap.size, 6, none⟩ = some (.int .i64 x6) := by rw [cell_of_row _ _ _ _ _ _ I.out.x]; rfl
  go_wp2_with ((with_reducible refine gate_dst (N := 27) rfl ?_); go_must (refine wpList_load_row rfl 63 (.tmp 5) rfl (p 0) rfl 63 _ (0, 0) _ H0.out Tryd.underlying63 rfl (by kernel_rfl) ?_))
  go_loop [8, 28] (fun e i => ∃ (k : Nat) (v : Int), k ≤ 7 ∧ i = .int .i64 k ∧ e = .int .i64 v ∧ Kp (scan [x1, x2, x3, x4, x5, x6, x7] [l1, l2, l3, l4, l5, l6, l7] [l9, l10, l11, l12, l13, l14, l15] 0 = scan ([x1, x2, x3, x4, x5, x6, x7].drop k) ([l1, l2, l3, l4, l5, l6, l7].drop k) ([l9, l10, l11, l12, l13, l14, l15].drop k) v)) (fun _ i => 7 - (intOf i).toNat)
  case atStart => exact ⟨0, 0, by omega, rfl, rfl, ⟨rfl⟩⟩
  case round =>
    obtain ⟨k, v, hk, rfl, rfl, HS⟩ := hrel
    by_cases hlt : k < 7
    · have ix := idx63 x1 x2 x3 x4 x5 x6 x7 hlt
      have ca := cell63 H1.out hlt
      have cb := cell63 H2.out hlt
      have hs := scan_step (F := [x1, x2, x3, x4, x5, x6, x7]) (LO := [l1, l2, l3, l4, l5, l6, l7]) (HI := [l9, l10, l11, l12, l13, l14, l15]) (e := v) hlt hlt hlt
      rw [← HS.out] at hs
      generalize [x1, x2, x3, x4, x5, x6, x7].getD k 0 = n at ix hs
      generalize [l1, l2, l3, l4, l5, l6, l7].getD k 0 = lo at ca hs
      generalize [l9, l10, l11, l12, l13, l14, l15].getD k 0 = hi at cb hs
      have HT := Kp.mk hs
      clear hs HS
      by_cases d1 : n < lo ∨ hi < n
      · by_cases d2 : hi = 0
        · have HT' := Kp.mk (show R = 1 by rw [HR.out, ckA, HT.out, if_pos d1, if_pos d2])
          have d3 : (hi == 0) = true := by simpa using d2
          clear HT d2
          by_cases d4 : n < lo
          · go_wp2
            go_ret
            exact ⟨by rw [HT'.out]; rfl, I.out.below⟩
          · have d5 : hi < n := by omega
            go_wp2
            go_ret
            exact ⟨by rw [HT'.out]; rfl, I.out.below⟩
        · have d3 : (hi == 0) = false := by simpa using d2
          have HT' := HT.out
          rw [if_pos d1, if_neg d2] at HT'
          have HN := Kp.mk HT'
          clear HT' HT d2
          by_cases d4 : n < lo
          · go_wp2
            go_round
            case rel => exact ⟨k + 1, 2, by omega, by go_num, rfl, HN⟩
            case measure => simp [intOf]; omega
          · have d5 : hi < n := by omega
            go_wp2
            go_round
            case rel => exact ⟨k + 1, 2, by omega, by go_num, rfl, HN⟩
            case measure => simp [intOf]; omega
      · have HT' := HT.out
        rw [if_neg d1] at HT'
        have HN := Kp.mk HT'
        have d4 : ¬ n < lo := by omega
        have d5 : ¬ hi < n := by omega
        clear HT' HT d1
        go_wp2
        go_round
        case rel => exact ⟨k + 1, v, by omega, by go_num, rfl, HN⟩
        case measure => simp [intOf]; omega
    · obtain rfl : k = 7 := by omega
      have HV := Kp.mk (show R = if ckT l14 x0 x3 x5 x6 then 2 else v by rw [HR.out, ckA, HS.out]; rfl)
      clear HS HR
      cases q6 : (x6 == 1 || x6 == 3)
      · cases q1 : (l14 == 3)
        · skip
          cases q0 : (x0 == 1)
          · have HT := Kp.mk (show R = v by rw [HV.out, ckT]; simp [q1, q0])
            clear HV
            go_wp2_with (go_at_call 33; with_reducible refine (prots33 x6 _).mono ?_; rintro e w' ⟨rfl, rfl⟩; rw [q6])
            all_goals
              go_ret
              exact ⟨by rw [HT.out]; rfl, I.out.below⟩
          · cases q5 : (x5 == -1)
            · have HT := Kp.mk (show R = v by rw [HV.out, ckT]; simp [q1, q0, q5])
              clear HV
              go_wp2_with (go_at_call 33; with_reducible refine (prots33 x6 _).mono ?_; rintro e w' ⟨rfl, rfl⟩; rw [q6])
              all_goals
                go_ret
                exact ⟨by rw [HT.out]; rfl, I.out.below⟩
            · cases q3 : (x3 != 0)
              · have HT := Kp.mk (show R = v by rw [HV.out, ckT]; simp [q1, q0, q5, q3])
                clear HV
                go_wp2_with (go_at_call 33; with_reducible refine (prots33 x6 _).mono ?_; rintro e w' ⟨rfl, rfl⟩; rw [q6])
                all_goals
                  go_ret
                  exact ⟨by rw [HT.out]; rfl, I.out.below⟩
              · have HT := Kp.mk (show R = 2 by rw [HV.out, ckT]; simp [q1, q0, q5, q3])
                clear HV
                go_wp2_with (go_at_call 33; with_reducible refine (prots33 x6 _).mono ?_; rintro e w' ⟨rfl, rfl⟩; rw [q6])
                all_goals
                  go_ret
                  exact ⟨by rw [HT.out]; rfl, I.out.below⟩
        · have HT := Kp.mk (show R = 2 by rw [HV.out, ckT]; simp [q1, q6])
          clear HV
          go_wp2_with (go_at_call 33; with_reducible refine (prots33 x6 _).mono ?_; rintro e w' ⟨rfl, rfl⟩; rw [q6])
          all_goals
            go_ret
            exact ⟨by rw [HT.out]; rfl, I.out.below⟩
      · skip
        cases q0 : (x0 == 1)
        · have HT := Kp.mk (show R = v by rw [HV.out, ckT]; simp [q6, q0])
          clear HV
          go_wp2_with (go_at_call 33; with_reducible refine (prots33 x6 _).mono ?_; rintro e w' ⟨rfl, rfl⟩; rw [q6])
          all_goals
            go_ret
            exact ⟨by rw [HT.out]; rfl, I.out.below⟩
        · cases q5 : (x5 == -1)
          · have HT := Kp.mk (show R = v by rw [HV.out, ckT]; simp [q6, q0, q5])
            clear HV
            go_wp2_with (go_at_call 33; with_reducible refine (prots33 x6 _).mono ?_; rintro e w' ⟨rfl, rfl⟩; rw [q6])
            all_goals
              go_ret
              exact ⟨by rw [HT.out]; rfl, I.out.below⟩
          · cases q3 : (x3 != 0)
            · have HT := Kp.mk (show R = v by rw [HV.out, ckT]; simp [q6, q0, q5, q3])
              clear HV
              go_wp2_with (go_at_call 33; with_reducible refine (prots33 x6 _).mono ?_; rintro e w' ⟨rfl, rfl⟩; rw [q6])
              all_goals
                go_ret
                exact ⟨by rw [HT.out]; rfl, I.out.below⟩
            · have HT := Kp.mk (show R = 2 by rw [HV.out, ckT]; simp [q6, q0, q5, q3])
              clear HV
              go_wp2_with (go_at_call 33; with_reducible refine (prots33 x6 _).mono ?_; rintro e w' ⟨rfl, rfl⟩; rw [q6])
              all_goals
                go_ret
                exact ⟨by rw [HT.out]; rfl, I.out.below⟩
end Go.Proofs.YtiomnlgnhdhffaaDoor
