/-
  Walks of watermark.Reserve and the reference's Reserve. Conditions: none but what each theorem names.
-/
import Derived.Test.YtmomcelnfljnmaaX
namespace Go.Proofs.Ytmomcelnfljnmaa
open Go.RowKit
set_option linter.unusedVariables false

def ZsAt (w : World) (A : Option Addr) (zs : List (Zn × Pl)) : Prop :=
  (zs ≠ [] → ∃ b off, A = some ⟨b, off, none⟩ ∧ b < w.heap.size ∧ ∀ j zp, zs[j]? = some zp → w.rangeAt b (off + j * 10) (cellsZ zp.1 zp.2).toList) ∧
  ∀ zp ∈ zs, ∀ k, k < 5 → IntsAt w (zp.2.A k) (zp.1.l k)
theorem ZsAt.below {w w' : World} {A : Option Addr} {zs : List (Zn × Pl)} (h : ZsAt w A zs) (hb : Below w.heap.size w w') : ZsAt w' A zs := by
  refine ⟨fun hz => ?_, fun zp hzp k hk => (h.2 zp hzp k hk).below hb⟩
  obtain ⟨b, off, h1, h2, h3⟩ := h.1 hz
  refine ⟨b, off, h1, Nat.lt_of_lt_of_le h2 hb.size, fun j zp hj i v hv => ?_⟩
  rw [hb.cell (p := ⟨b, off + j * 10 + i, none⟩) h2]
  exact h3 j zp hj i v hv
theorem ZsAt.item {w : World} {A : Option Addr} {zs : List (Zn × Pl)} (h : ZsAt w A zs) {j : Nat} (hj : j < zs.length) : ∃ b off z P, A = some ⟨b, off, none⟩ ∧ zs[j]? = some (z, P) ∧ w.rangeAt b (off + j * 10) (cellsZ z P).toList ∧ ∀ k, k < 5 → IntsAt w (P.A k) (z.l k) := by
  obtain ⟨b, off, h1, h2, h3⟩ := h.1 (by rintro rfl; simp at hj)
  refine ⟨b, off, zs[j].1, zs[j].2, h1, by simp [hj], h3 j _ (by simp [hj]), h.2 _ (by simp)⟩
theorem range_cells {w : World} {b o : Nat} {z : Zn} {P : Pl} (h : w.rangeAt b o (cellsZ z P).toList) : w.cell? ⟨b, o + 1, none⟩ = some (.int .i64 z.kd) ∧ w.cell? ⟨b, o + 4, none⟩ = some (.int .i64 z.mn) :=
  ⟨h 1 _ rfl, h 4 _ rfl⟩

/-- What Reserve answers for the zones that are left. -/
def rs : List (Zn × Pl) → Int → Int → Int × Int × Int
  | [], n, a => (n, a, 0)
  | zp :: t, n, a => if inB zp.1.mn = true then rs t (if zp.1.kd = 0 then n + zp.1.mn else n) (a + zp.1.mn) else (0, 0, 2)
def rsT (zs : List (Zn × Pl)) : Int × Int × Int := if 6 < zs.length then (0, 0, 2) else rs zs 0 0
def tri (x : Int × Int × Int) : Value := .tuple #[.int .i64 x.1, .int .i64 x.2.1, .int .i64 x.2.2]
theorem drop_item {zs : List (Zn × Pl)} {j : Nat} {z : Zn} {P : Pl} (h : zs[j]? = some (z, P)) : zs.drop j = (z, P) :: zs.drop (j + 1) := by
  obtain ⟨hj, e⟩ := List.getElem?_eq_some_iff.1 h
  rw [List.drop_eq_getElem_cons hj, e]
theorem rs_bad {zs : List (Zn × Pl)} {j : Nat} {z : Zn} {P : Pl} (h : zs[j]? = some (z, P)) (n a : Int) (hb : inB z.mn = false) : rs (zs.drop j) n a = (0, 0, 2) := by rw [drop_item h, rs, hb]; rfl
theorem rs_norm {zs : List (Zn × Pl)} {j : Nat} {z : Zn} {P : Pl} (h : zs[j]? = some (z, P)) (n a : Int) (hb : inB z.mn = true) (hk : z.kd = 0) : rs (zs.drop j) n a = rs (zs.drop (j + 1)) (n + z.mn) (a + z.mn) := by rw [drop_item h, rs, hb, hk]; rfl
theorem rs_mov {zs : List (Zn × Pl)} {j : Nat} {z : Zn} {P : Pl} (h : zs[j]? = some (z, P)) (n a : Int) (hb : inB z.mn = true) (hk : z.kd ≠ 0) : rs (zs.drop j) n a = rs (zs.drop (j + 1)) n (a + z.mn) := by rw [drop_item h, rs, hb]; simp [hk]
theorem rs_end {zs : List (Zn × Pl)} {j : Nat} (h : zs.length ≤ j) (n a : Int) : rs (zs.drop j) n a = (n, a, 0) := by rw [List.drop_of_length_le h]; rfl

def Z0 : Array Value := #[.int .i64 0, .int .i64 0, .int .i64 0, .int .i64 0, .int .i64 0, .slice none 0 0, .slice none 0 0, .slice none 0 0, .slice none 0 0, .slice none 0 0]
theorem alloc60 (w : World) : (Instr.alloc 60 true (.tuple #[])).run Try.prog w = .ok (.pointer (some ⟨w.heap.size, 0, none⟩)) (w.alloc (.cells Z0 60)) := by kernel_rfl
section
variable {ops : Array Oper} {rest : List Oper} {o : Oper} {a : Act} {W : World} {Q : Exit → Act → World → Prop} {z : Zn} {P : Pl}
theorem wpList_alloc_zone (hgd : o.guard = none) (ho : o.op = .alloc 60) (hK : wpList Try.prog ops Q rest (a.put o.dst (.pointer (some ⟨W.heap.size, 0, none⟩))) (W.alloc (.cells Z0 60))) : wpList Try.prog ops Q (o :: rest) a W :=
  wpList_plain hgd fun _ hk => by
    unfold Oper.wp execOp
    simp only [ho, Sem.run_bind, Sem.run_pure, Result.andThen_ok, alloc60]
    exact hk _ _ hK
theorem wpList_store_zone (hgd : o.guard = none) (x y : Tmp) (ho : o.op = .store 60 (.tmp x) (.tmp y)) (hx : a.eval (.tmp x) = .pointer (some ⟨W.heap.size, 0, none⟩)) (hy : a.eval (.tmp y) = ZV z P)
    (hK : wpList Try.prog ops Q rest (a.put o.dst undef) (W.alloc (.cells (cellsZ z P) 60))) : wpList Try.prog ops Q (o :: rest) a (W.alloc (.cells Z0 60)) :=
  wpList_plain hgd fun _ hk => by
    have hi : (Try.prog.info? 60).map (·.size) = some 10 := by kernel_rfl
    refine wp_store_row 60 (.tmp x) (.tmp y) ho W.heap.size (cellsZ z P) hx hy 60 Z0 (blk_at rfl _) (by rw [hi]; rfl) rfl (by simp [cellsZ, slV, Value.oneCell']) ?_
    rw [setRow_alloc_last]
    exact hk _ _ hK
theorem wpList_load_elem {b off : Nat} (hgd : o.guard = none) (h : W.rangeAt b off (cellsZ z P).toList) (t : Tmp) (ho : o.op = .load 60 (.tmp t)) (hp : a.eval (.tmp t) = .pointer (some ⟨b, off, none⟩)) (hK : wpList Try.prog ops Q rest (a.put o.dst (ZV z P)) W) : wpList Try.prog ops Q (o :: rest) a W :=
  wpList_plain hgd fun _ hk => by
    have hi : (Try.prog.info? 60).map (·.size) = some 10 := by kernel_rfl
    refine wp_load_mid 60 (.tmp t) ho b off hp (cellsZ z P).toList _ h Try.underlying60 rfl (by rw [hi]; rfl) ?_
    simpa [ZV] using hk _ _ hK
end
theorem gate_none {P : Program} {ops : Array Oper} {Q : Exit → Act → World → Prop} {rest : List Oper} {o : Oper} {a : Act} {w : World} (_ : o.dst = none) (h : wpList P ops Q (o :: rest) a w) : wpList P ops Q (o :: rest) a w := h

set_option maxRecDepth 100000 in
set_option maxHeartbeats 2000000 in
theorem reserve30 (A : Option Addr) (zs : List (Zn × Pl)) (cap : Nat) (w : World) (hz : ZsAt w A zs) (hn : zs.length ≤ 10) : Calls Try.prog 30 #[.slice A zs.length cap] w fun e w' => e = .returned (tri (rsT zs)) ∧ Below w.heap.size w w' := by
  have HZ := Kp.mk hz
  clear hz
  go_enter Try.func30, Try.ntmps30
  by_cases h6 : 6 < zs.length
  · have HE := Kp.mk (show rsT zs = (0, 0, 2) by rw [rsT, if_pos h6])
    go_wp2_with fail
    go_returns
    exact ⟨by rw [HE.out]; rfl, Below.refl _ _⟩
  · have HE := Kp.mk (show rsT zs = rs (zs.drop 0) 0 0 by rw [rsT, if_neg h6]; rfl)
    go_wp2_with fail
    go_loopw [5, 6, 14] (fun n s i W => ∃ (j : Nat) (x y : Int), j ≤ zs.length ∧ i = .int .i64 j ∧ n = .int .i64 x ∧ s = .int .i64 y ∧ 0 ≤ x ∧ x ≤ 4096 * j ∧ 0 ≤ y ∧ y ≤ 4096 * j ∧ Kp (rsT zs = rs (zs.drop j) x y) ∧ Kp (Below w.heap.size w W)) (fun n s i _ => zs.length - (intOf i).toNat)
    case atStart => exact ⟨0, 0, 0, by omega, rfl, rfl, rfl, by omega, by omega, by omega, by omega, HE, ⟨Below.refl _ _⟩⟩
    case round =>
      clear HE
      obtain ⟨j, x, y, hj, rfl, rfl, rfl, x0, x1, y0, y1, HE, HB⟩ := hrel
      by_cases hlt : j < zs.length
      · have hj0 : (0 : Int) ≤ (j : Int) := by omega
        have hj1 : (j : Int) < (zs.length : Int) := by omega
        obtain ⟨b, off, z, P, rfl, hzj, hr, _⟩ := (HZ.out.below HB.out).item hlt
        have HR := Kp.mk hr
        have HJ := Kp.mk hzj
        clear hr hzj
        have h4 : (cellsZ z P)[4]? = some (.int .i64 z.mn) := rfl
        have h1 : (cellsZ z P)[1]? = some (.int .i64 z.kd) := rfl
        cases hin : inB z.mn
        · have HI := Kp.mk hin
          have HX := Kp.mk (show rsT zs = (0, 0, 2) by rw [HE.out, rs_bad HJ.out _ _ hin])
          clear hin
          go_wp2_with (first | ((with_reducible refine gate_dst (N := 17) rfl ?_); go_must (refine wpList_load_elem rfl HR.out 16 rfl rfl ?_)) | ((with_reducible refine gate_dst (N := 8) rfl ?_); go_must (refine wpList_alloc_zone rfl rfl ?_)) | ((with_reducible refine gate_none rfl ?_); go_must (refine wpList_store_zone rfl 8 17 rfl rfl rfl ?_)) | (go_at_call 39; refine (in39 _ _).mono ?_; rintro e w2 ⟨rfl, rfl⟩; rw [HI.out]))
          go_returns
          exact ⟨by rw [HX.out]; rfl, HB.out.alloc HB.out.size _⟩
        · have HI := Kp.mk hin
          have hbd := inB_true hin
          by_cases hkd : z.kd = 0
          · have HX := Kp.mk (show rsT zs = rs (zs.drop (j + 1)) (x + z.mn) (y + z.mn) by rw [HE.out, rs_norm HJ.out _ _ hin hkd])
            clear hin
            go_wp2_with (first | ((with_reducible refine gate_dst (N := 17) rfl ?_); go_must (refine wpList_load_elem rfl HR.out 16 rfl rfl ?_)) | ((with_reducible refine gate_dst (N := 8) rfl ?_); go_must (refine wpList_alloc_zone rfl rfl ?_)) | ((with_reducible refine gate_none rfl ?_); go_must (refine wpList_store_zone rfl 8 17 rfl rfl rfl ?_)) | (go_at_call 39; refine (in39 _ _).mono ?_; rintro e w2 ⟨rfl, rfl⟩; rw [HI.out]))
            exact ⟨⟨j + 1, x + z.mn, y + z.mn, by omega, by congr 1, rfl, rfl, by omega, by push_cast; omega, by omega, by push_cast; omega, HX, ⟨HB.out.alloc HB.out.size _⟩⟩, by simp only [intOf]; omega⟩
          · have HX := Kp.mk (show rsT zs = rs (zs.drop (j + 1)) x (y + z.mn) by rw [HE.out, rs_mov HJ.out _ _ hin hkd])
            clear hin
            go_wp2_with (first | ((with_reducible refine gate_dst (N := 17) rfl ?_); go_must (refine wpList_load_elem rfl HR.out 16 rfl rfl ?_)) | ((with_reducible refine gate_dst (N := 8) rfl ?_); go_must (refine wpList_alloc_zone rfl rfl ?_)) | ((with_reducible refine gate_none rfl ?_); go_must (refine wpList_store_zone rfl 8 17 rfl rfl rfl ?_)) | (go_at_call 39; refine (in39 _ _).mono ?_; rintro e w2 ⟨rfl, rfl⟩; rw [HI.out]))
            exact ⟨⟨j + 1, x, y + z.mn, by omega, by congr 1, rfl, rfl, by omega, by push_cast; omega, by omega, by push_cast; omega, HX, ⟨HB.out.alloc HB.out.size _⟩⟩, by simp only [intOf]; omega⟩
      · have HX := Kp.mk (show rsT zs = (x, y, 0) by rw [HE.out, rs_end (by omega)])
        go_wp2_with fail
        go_returns
        exact ⟨by rw [HX.out]; rfl, HB.out⟩
set_option maxRecDepth 100000 in
set_option maxHeartbeats 2000000 in
theorem reserve31 (A : Option Addr) (zs : List (Zn × Pl)) (cap : Nat) (w : World) (hz : ZsAt w A zs) (hn : zs.length ≤ 10) : Calls Try.prog 31 #[.slice A zs.length cap] w fun e w' => e = .returned (tri (rsT zs)) ∧ Below w.heap.size w w' := by
  have HZ := Kp.mk hz
  clear hz
  go_enter Try.func31, Try.ntmps31
  by_cases h6 : 6 < zs.length
  · have HE := Kp.mk (show rsT zs = (0, 0, 2) by rw [rsT, if_pos h6])
    go_wp2_with fail
    go_returns
    exact ⟨by rw [HE.out]; rfl, Below.refl _ _⟩
  · have HE := Kp.mk (show rsT zs = rs (zs.drop 0) 0 0 by rw [rsT, if_neg h6]; rfl)
    go_wp2_with fail
    go_loopw [5, 6, 7] (fun n s i W => ∃ (j : Nat) (x y : Int), j ≤ zs.length ∧ i = .int .i64 j ∧ n = .int .i64 x ∧ s = .int .i64 y ∧ 0 ≤ x ∧ x ≤ 4096 * j ∧ 0 ≤ y ∧ y ≤ 4096 * j ∧ Kp (rsT zs = rs (zs.drop j) x y) ∧ Kp (Below w.heap.size w W)) (fun n s i _ => zs.length - (intOf i).toNat)
    case atStart => exact ⟨0, 0, 0, by omega, rfl, rfl, rfl, by omega, by omega, by omega, by omega, HE, ⟨Below.refl _ _⟩⟩
    case round =>
      clear HE
      obtain ⟨j, x, y, hj, rfl, rfl, rfl, x0, x1, y0, y1, HE, HB⟩ := hrel
      by_cases hlt : j < zs.length
      · have hj0 : (0 : Int) ≤ (j : Int) := by omega
        have hj1 : (j : Int) < (zs.length : Int) := by omega
        obtain ⟨b, off, z, P, rfl, hzj, hr, _⟩ := (HZ.out.below HB.out).item hlt
        have HR := Kp.mk hr
        have HJ := Kp.mk hzj
        clear hr hzj
        obtain ⟨h1, h4⟩ := range_cells HR.out
        cases hin : inB z.mn
        · have HI := Kp.mk hin
          have HX := Kp.mk (show rsT zs = (0, 0, 2) by rw [HE.out, rs_bad HJ.out _ _ hin])
          clear hin
          go_wp2_with (first | (go_at_call 40; refine (in40 _ _).mono ?_; rintro e w2 ⟨rfl, rfl⟩; rw [HI.out]))
          go_returns
          exact ⟨by rw [HX.out]; rfl, HB.out⟩
        · have HI := Kp.mk hin
          have hbd := inB_true hin
          by_cases hkd : z.kd = 0
          · have HX := Kp.mk (show rsT zs = rs (zs.drop (j + 1)) (x + z.mn) (y + z.mn) by rw [HE.out, rs_norm HJ.out _ _ hin hkd])
            clear hin
            go_wp2_with (first | (go_at_call 40; refine (in40 _ _).mono ?_; rintro e w2 ⟨rfl, rfl⟩; rw [HI.out]))
            exact ⟨⟨j + 1, x + z.mn, y + z.mn, by omega, by congr 1, rfl, rfl, by omega, by push_cast; omega, by omega, by push_cast; omega, HX, ⟨HB.out⟩⟩, by simp only [intOf]; omega⟩
          · have HX := Kp.mk (show rsT zs = rs (zs.drop (j + 1)) x (y + z.mn) by rw [HE.out, rs_mov HJ.out _ _ hin hkd])
            clear hin
            go_wp2_with (first | (go_at_call 40; refine (in40 _ _).mono ?_; rintro e w2 ⟨rfl, rfl⟩; rw [HI.out]))
            exact ⟨⟨j + 1, x, y + z.mn, by omega, by congr 1, rfl, rfl, by omega, by push_cast; omega, by omega, by push_cast; omega, HX, ⟨HB.out⟩⟩, by simp only [intOf]; omega⟩
      · have HX := Kp.mk (show rsT zs = (x, y, 0) by rw [HE.out, rs_end (by omega)])
        go_wp2_with fail
        go_returns
        exact ⟨by rw [HX.out]; rfl, HB.out⟩
end Go.Proofs.Ytmomcelnfljnmaa
