/-
  The walk of the reference's options. Conditions: the words lie as said, and no flags are set before.
-/
import Derived.Test.YtiomnlgnhdhffaaDoorT2
import Derived.Test.YtiomnlgnhdhffaaDoorT4
namespace Go.Proofs.YtiomnlgnhdhffaaDoor
open Go.RowKit
set_option linter.unusedVariables false
set_option linter.unusedSimpArgs false

theorem StrsAt.below {W W' : World} {A : Option Addr} {ws : List Wd} (h : StrsAt W A ws) (hb : Below W.heap.size W W') : StrsAt W' A ws := by
  refine strs_move h hb.size (fun ad hA hn => ?_)
  obtain ⟨ad', hA', hl, _⟩ := h.2 hn
  rw [hA'] at hA
  cases hA
  exact hb.block _ hl
theorem StrsAt.tail {W : World} {b off : Nat} {v : Wd} {t : List Wd} (h : StrsAt W (some ⟨b, off, none⟩) (v :: t)) : StrsAt W (some ⟨b, off + 1, none⟩) t := by
  refine ⟨by have := h.1; simp at this ⊢; omega, fun hn => ?_⟩
  obtain ⟨ad, hA, k2, k3⟩ := h.2 (by simp)
  cases hA
  refine ⟨⟨b, off + 1, none⟩, rfl, k2, fun j x hx => ?_⟩
  rw [← k3 (j + 1) x (by simpa using hx)]
  congr 1
  unfold Addr.add
  by_cases hj : j = 0 <;> simp [hj, Nat.add_assoc, Nat.add_comm 1]
theorem StrsAt.nil (W : World) (A : Option Addr) : StrsAt W A [] := ⟨by simp, fun h => absurd rfl h⟩
theorem StrsAt.cellAt {W : World} {b off : Nat} {ws : List Wd} (h : StrsAt W (some ⟨b, off, none⟩) ws) {j : Nat} {x : Wd} (hx : ws[j]? = some x) : W.cell? ⟨b, off + j, none⟩ = some (.string (bstr x)) := by
  obtain ⟨ad, hA, k2, k3⟩ := h.2 (by rintro rfl; simp at hx)
  cases hA
  have := k3 j x hx
  rwa [Go.WideShapes.add_plain] at this
def nmS : Array Value := #[.string ⟨#[115, 104, 97, 114, 101, 100]⟩, .string ⟨#[103, 114, 111, 119, 115]⟩, .string ⟨#[108, 111, 99, 107, 101, 100]⟩, .string ⟨#[104, 117, 103, 101]⟩]
theorem nmS_at {k : Nat} (h : k < 4) : nmS[k]? = some (.string (bstr (flagW k))) := by
  have : k = 0 ∨ k = 1 ∨ k = 2 ∨ k = 3 := by omega
  rcases this with rfl | rfl | rfl | rfl <;> rfl
/-- The memory of options: the instruction's row, the result's row, the names' row. -/
structure OpI (w : World) (x : Array Value) (W : World) : Prop where
  below : Below w.heap.size w W
  x : W.heap[w.heap.size]? = some (.cells x 36 (0, 0))
  r : W.heap[w.heap.size + 1]? = some (.cells (c8 0 0 0 0 0 0 0 0) 36 (0, 0))
  nm : W.heap[w.heap.size + 2]? = some (.cells nmS 9 (0, 0))
theorem OpI.start (w : World) (x : Array Value) : OpI w x (((w.alloc (.cells x 36)).alloc (.cells (c8 0 0 0 0 0 0 0 0) 36)).alloc (.cells nmS 9)) :=
  ⟨(((Below.refl _ _).alloc (Nat.le_refl _) _).alloc (by simp) _).alloc (by simp; omega) _, heap_keep (heap_keep (heap_at rfl _) _) _, heap_keep (heap_at (by simp) _) _, heap_at (by simp) _⟩
section
variable {w W W' : World} {x : Array Value}
theorem OpI.next (h : OpI w x W) (hb : Below W.heap.size W W') : OpI w x W' :=
  ⟨h.below.trans (hb.mono h.below.size), (hb.block _ (lt_of_block h.x)).trans h.x, (hb.block _ (lt_of_block h.r)).trans h.r, (hb.block _ (lt_of_block h.nm)).trans h.nm⟩
theorem OpI.set (h : OpI w x W) (i : Nat) (v : Value) : OpI w (x.setIfInBounds i v) (W.setCell ⟨w.heap.size, i, none⟩ v) :=
  ⟨h.below.setCell (p := ⟨w.heap.size, i, none⟩) (Nat.le_refl _) v, setCell_row v h.x, (Below.heap_setCell W _ _ _ (by simp)).trans h.r, (Below.heap_setCell W _ _ _ (by simp)).trans h.nm⟩
theorem OpI.name (h : OpI w x W) {k : Nat} (hk : k < 4) : W.cell? ⟨w.heap.size + 2, k, none⟩ = some (.string (bstr (flagW k))) := by
  rw [cell_of_row _ _ _ _ _ _ h.nm]; exact nmS_at hk
theorem OpI.cells {x0 x1 x2 x3 x4 x5 x6 x7 : Int} (h : OpI w (c8 x0 x1 x2 x3 x4 x5 x6 x7) W) : W.cell? ⟨w.heap.size, 7, none⟩ = some (.int .i64 x7) ∧ (∀ i, W.frozen? ⟨w.heap.size, i, none⟩ = false) := by
  refine ⟨?_, fun i => ?_⟩
  · rw [cell_of_row _ _ _ _ _ _ h.x]; rfl
  · simp [World.frozen?, h.x]
theorem OpI.fin (h : OpI w x W) (y : Array Value) : (W.setRow (w.heap.size + 1) y).heap[w.heap.size + 1]? = some (.cells y 36 (0, 0)) ∧ Below w.heap.size w (W.setRow (w.heap.size + 1) y) := by
  refine ⟨setRow_heap W _ _ _ 36 _ h.r, ⟨h.below.os, h.below.tape, h.below.output, by have := h.below.size; simpa [World.setRow] using this, fun k hk => ?_⟩⟩
  rw [setRow_other W _ _ _ (by omega)]
  exact h.below.block k hk
end
theorem flagS_bd2 (ws : List Wd) : ∀ k, 0 ≤ (flagS (ws, true) k).1 ∧ (flagS (ws, true) k).1 < 2 ^ k
  | 0 => by simp [flagS]
  | k + 1 => by
    have ih := flagS_bd2 ws k
    have hp : (0 : Int) < 2 ^ k := Int.pow_pos (by decide)
    have h2 : (2 : Int) ^ (k + 1) = 2 ^ k + 2 ^ k := by rw [Int.pow_succ]; omega
    simp only [flagS]
    split <;> omega
theorem flagS_next (ws : List Wd) (k : Nat) : flagS (ws, true) (k + 1) = match (flagS (ws, true) k).2.1 with
    | [] => ((flagS (ws, true) k).1, ([], true))
    | v :: t => if v = flagW k then ((flagS (ws, true) k).1 + 2 ^ k, (t, true)) else ((flagS (ws, true) k).1, (v :: t, true)) := by
  have h := (flagS_f ws true k).2
  simp only [flagS]
  generalize flagS (ws, true) k = r at h
  obtain ⟨n, l, f⟩ := r
  simp only at h
  subst h
  cases l with
  | nil => rfl
  | cons v t =>
    simp only [atS]
    by_cases hv : v = flagW k
    · simp [hv]
    · simp [hv]

theorem flagS_sub (ws : List Wd) : ∀ k x, x ∈ (flagS (ws, true) k).2.1 → x ∈ ws
  | 0, x, h => h
  | k + 1, x, h => by
    rw [flagS_next] at h
    have ih := flagS_sub ws k x
    generalize flagS (ws, true) k = fs at h ih
    obtain ⟨n, r, f⟩ := fs
    cases r with
    | nil => cases h
    | cons v t =>
      simp only at h ih
      split at h
      · exact ih (List.mem_cons_of_mem _ h)
      · exact ih h
def optE (x : Ins) (n : Int) (r : List Wd) : Ins × Bool :=
  if r = [] then (⟨x.op, x.page, x.count, x.index, x.value, x.file, x.prot, x.flags + n⟩, true)
  else if r.length ≠ 3 ∨ r.headD [] ≠ [102, 105, 108, 101] ∨ refN (r.getD 1 []) < 0 ∨ refN (r.getD 2 []) < 0 then (⟨x.op, x.page, x.count, x.index, x.value, x.file, x.prot, x.flags + n⟩, false)
  else (⟨x.op, x.page, x.count, refN (r.getD 2 []), x.value, refN (r.getD 1 []), x.prot, x.flags + n⟩, true)
set_option maxRecDepth 100000 in
set_option maxHeartbeats 8000000 in
theorem options44 (x0 x1 x2 x3 x4 x5 x6 : Int) (A : Option Addr) (cap : Nat) (ws : List Wd) (w : World) (hs : StrsAt w A ws) (hc : ws.length ≤ cap) (hc2 : cap ≤ 9223372036854775807) (hbig : ∀ x ∈ ws, x.length ≤ 1000000) :
    Calls Tryd.prog 44 #[insV x0 x1 x2 x3 x4 x5 x6 0, .slice A ws.length cap] w fun e w' => e = .returned (.tuple #[(optR ⟨x0, x1, x2, x3, x4, x5, x6, 0⟩ ws).1.V, .bool (optR ⟨x0, x1, x2, x3, x4, x5, x6, 0⟩ ws).2]) ∧ Below w.heap.size w w' := by
  obtain ⟨R, hR⟩ : ∃ R, R = optR ⟨x0, x1, x2, x3, x4, x5, x6, 0⟩ ws := ⟨_, rfl⟩
  rw [← hR]
  have HR := Kp.mk hR
  have HS := Kp.mk hs
  have HG := Kp.mk (fun k x (hx : x ∈ (flagS (ws, true) k).2.1) => hbig x (flagS_sub ws k x hx))
  clear hbig
  have I0 := Kp.mk (OpI.start w (c8 x0 x1 x2 x3 x4 x5 x6 0))
  clear hR hs
  go_enter Tryd.func44, Tryd.ntmps44
  go_wp2_with fail
  have I0 : Kp (OpI w (c8 x0 x1 x2 x3 x4 x5 x6 0) (World.alloc _ (.cells #[.string ⟨#[115, 104, 97, 114, 101, 100]⟩, .string ⟨#[103, 114, 111, 119, 115]⟩, .string ⟨#[108, 111, 99, 107, 101, 100]⟩, .string ⟨#[104, 117, 103, 101]⟩] 9))) := I0
  go_loopw [1, 7, 8] (fun s b i W => ∃ (k : Nat) (A' : Option Addr) (cap' : Nat), k ≤ 4 ∧ i = .int .i64 k ∧ b = .int .i64 (2 ^ k) ∧ s = .slice A' (flagS (ws, true) k).2.1.length cap' ∧ (flagS (ws, true) k).2.1.length ≤ cap' ∧ cap' ≤ 9223372036854775807 ∧ Kp (StrsAt w A' (flagS (ws, true) k).2.1) ∧ Kp (OpI w (c8 x0 x1 x2 x3 x4 x5 x6 (flagS (ws, true) k).1) W)) (fun _ _ i _ => 4 - (intOf i).toNat)
  case atStart => exact ⟨0, A, cap, by omega, rfl, rfl, rfl, hc, hc2, HS, I0⟩
  case round =>
    clear I0 HS
    obtain ⟨k, A', cap', hk4, rfl, rfl, rfl, hcp, hcp2, HS, I⟩ := hrel
    have hn := flagS_next ws k
    have hbd := flagS_bd2 ws k
    by_cases hk : k < 4
    · have hki : (k : Int) < 4 := by omega
      have hk0 : (0 : Int) ≤ (k : Int) := by omega
      have hp : (1 : Int) ≤ 2 ^ k ∧ (2 : Int) ^ k ≤ 8 := by
        have : k = 0 ∨ k = 1 ∨ k = 2 ∨ k = 3 := by omega
        rcases this with rfl | rfl | rfl | rfl <;> decide
      have hpn := Kp.mk (show (2 : Int) ^ (k + 1) = 2 ^ k + 2 ^ k by rw [Int.pow_succ]; omega)
      generalize flagS (ws, true) k = fs at hn hbd hcp HS I ⊢
      obtain ⟨n, r, f⟩ := fs
      simp only at hn hbd hcp HS I ⊢
      obtain ⟨hp1, hp2⟩ := hp
      obtain ⟨hb1, hb2⟩ := hbd
      cases r with
      | nil =>
        have HN := Kp.mk hn
        clear hn
        generalize (2 : Int) ^ k = g at *
        go_wp2_with fail
        go_quiet (fail)
        have I := Kp.mk (I.out.next (below_drewN (Below.refl _ _) nq))
        go_wp2_with fail
        go_roundw
        case rel => exact ⟨k + 1, A', cap', by omega, by go_num, by rw [hpn.out], by rw [HN.out]; rfl, by rw [HN.out]; exact hcp, hcp2, by rw [HN.out]; exact HS, by rw [HN.out]; exact I⟩
        case measure => simp [intOf]; omega
      | cons v t =>
        obtain ⟨b, off, rfl, hv0⟩ := HS.out.head
        have HC := Kp.mk (HS.out.below I.out.below).head
        have hcell : wr.cell? ⟨b, off, none⟩ = some (.string (bstr v)) := by
          obtain ⟨b', off', he, hc⟩ := HC.out
          cases he
          exact hc
        have hname := I.out.name hk
        obtain ⟨hf7, hfz⟩ := I.out.cells
        have hfz7 := hfz 7
        clear hv0 HC hfz
        have hlv := bstr_list v
        have hlf := bstr_list (flagW k)
        by_cases hvk : v = flagW k
        · have HN := Kp.mk (show flagS (ws, true) (k + 1) = (n + 2 ^ k, (t, true)) by rw [hn]; exact if_pos hvk)
          have q : ((bstr v).toList == (bstr (flagW k)).toList) = true := by rw [hlv, hlf, hvk]; simp
          clear hn hvk hlv hlf
          have HT := Kp.mk HS.out.tail
          generalize (2 : Int) ^ k = g at *
          generalize bstr (flagW k) = gw at *
          simp only [List.length_cons] at hcp ⊢
          go_wp2_with fail
          go_quiet (fail)
          have I := Kp.mk (I.out.next (below_drewN (Below.refl _ _) nq))
          obtain ⟨hf7, hfz⟩ := I.out.cells
          have hfz7 := hfz 7
          clear hfz hname hcell
          have I' : Kp (OpI w (c8 x0 x1 x2 x3 x4 x5 x6 (n + g)) (World.setCell _ ⟨w.heap.size, 7, none⟩ (.int .i64 (n + g)))) := ⟨I.out.set 7 (.int .i64 (n + g))⟩
          by_cases hc1 : cap' = 1
          · subst hc1
            obtain rfl : t = [] := List.eq_nil_of_length_eq_zero (by omega)
            go_wp2_with fail
            go_roundw
            case rel => exact ⟨k + 1, some ⟨b, off, none⟩, 0, by omega, by go_num, by rw [hpn.out], by rw [HN.out]; rfl, by rw [HN.out]; exact Nat.le_refl _, by omega, by rw [HN.out]; exact ⟨StrsAt.nil _ _⟩, by rw [HN.out]; exact I'⟩
            case measure => simp [intOf]; omega
          · go_wp2_with fail
            go_roundw
            case rel => exact ⟨k + 1, some ⟨b, off + 1, none⟩, cap' - 1, by omega, by go_num, by rw [hpn.out], by first | (rw [HN.out]; done) | (rw [HN.out]; rfl), by rw [HN.out]; simp only; omega, by omega, by rw [HN.out]; exact HT, by rw [HN.out]; exact I'⟩
            case measure => simp [intOf]; omega
        · have HN := Kp.mk (show flagS (ws, true) (k + 1) = (n, (v :: t, true)) by rw [hn]; exact if_neg hvk)
          have q : ((bstr v).toList == (bstr (flagW k)).toList) = false := by rw [hlv, hlf]; simpa using hvk
          clear hn hvk hlv hlf hf7 hfz7
          generalize (2 : Int) ^ k = g at *
          generalize bstr (flagW k) = gw at *
          simp only [List.length_cons] at hcp ⊢
          go_wp2_with fail
          go_quiet (fail)
          have I := Kp.mk (I.out.next (below_drewN (Below.refl _ _) nq))
          clear hname hcell
          go_wp2_with fail
          go_roundw
          case rel => exact ⟨k + 1, some ⟨b, off, none⟩, cap', by omega, by go_num, by rw [hpn.out], by rw [HN.out]; rfl, by rw [HN.out]; exact hcp, hcp2, by rw [HN.out]; exact HS, by rw [HN.out]; exact I⟩
          case measure => simp [intOf]; omega
    · obtain rfl : k = 4 := by omega
      clear hn hbd
      have HR := Kp.mk (show R = optE ⟨x0, x1, x2, x3, x4, x5, x6, 0⟩ (flagS (ws, true) 4).1 (flagS (ws, true) 4).2.1 from HR.out)
      have HG := Kp.mk (HG.out 4)
      generalize flagS (ws, true) 4 = fs at hcp HS I HR HG ⊢
      obtain ⟨n, r, f⟩ := fs
      simp only at hcp HS I HR HG ⊢
      clear hk hk4 f
      cases r with
      | nil =>
        have HE := Kp.mk (show R = (⟨x0, x1, x2, x3, x4, x5, x6, n⟩, true) by rw [HR.out]; simp [optE])
        clear HR
        go_wp2_with (first | ((with_reducible refine gate_dst (N := 42) rfl ?_); go_must (refine wpList_load_row rfl 36 (.tmp 2) rfl w.heap.size rfl 36 (c8 x0 x1 x2 x3 x4 x5 x6 n) (0, 0) _ I.out.x Tryd.underlying36 rfl (by kernel_rfl) ?_)) | ((with_reducible refine gate_op (op := .store 36 (.tmp 4) (.tmp 42)) rfl ?_); go_must (refine wpList_store_row rfl 36 (.tmp 4) (.tmp 42) rfl (w.heap.size + 1) _ rfl rfl 36 (c8 0 0 0 0 0 0 0 0) I.out.r (by kernel_rfl) rfl (by simp [c8, Value.oneCell']) ?_)) | fail)
        exact bodyPost_ret (v := .tuple #[.agg (c8 x0 x1 x2 x3 x4 x5 x6 n), .bool true]) (results_row_tmp rfl _ _ (w.heap.size + 1) 36 _ (0, 0) _ _ rfl rfl (I.out.fin _).1 Tryd.underlying36 rfl (by kernel_rfl)) rfl ⟨by rw [HE.out]; rfl, (I.out.fin _).2⟩
      | cons u r =>
        obtain ⟨b, off, rfl, hv0⟩ := HS.out.head
        clear hv0
        have HSW := Kp.mk (HS.out.below I.out.below)
        have hlu := bstr_list u
        simp only [List.length_cons] at hcp ⊢
        by_cases hl3 : r.length = 2
        · obtain ⟨v, z, rfl⟩ : ∃ v z, r = [v, z] := by
            match r, hl3 with
            | [v, z], _ => exact ⟨v, z, rfl⟩
          have c0 : wr.cell? ⟨b, off, none⟩ = some (.string (bstr u)) := HSW.out.cellAt (j := 0) rfl
          have c1 : wr.cell? ⟨b, off + 1, none⟩ = some (.string (bstr v)) := HSW.out.cellAt (j := 1) rfl
          have c2 : wr.cell? ⟨b, off + 2, none⟩ = some (.string (bstr z)) := HSW.out.cellAt (j := 2) rfl
          have HV := Kp.mk (show (R = optE ⟨x0, x1, x2, x3, x4, x5, x6, 0⟩ n [u, v, z]) ∧ u.length ≤ 1000000 ∧ v.length ≤ 1000000 ∧ z.length ≤ 1000000 from ⟨HR.out, HG.out u (by simp), HG.out v (by simp), HG.out z (by simp)⟩)
          have NV := Kp.mk (fun W => number41 v W HV.out.2.2.1)
          have NZ := Kp.mk (fun W => number41 z W HV.out.2.2.2)
          obtain ⟨nv, hnv⟩ : ∃ nv, nv = refN v := ⟨_, rfl⟩
          obtain ⟨nz, hnz⟩ : ∃ nz, nz = refN z := ⟨_, rfl⟩
          rw [← hnv] at NV
          rw [← hnz] at NZ
          have HNV := Kp.mk hnv
          have HNZ := Kp.mk hnz
          clear hnv hnz
          by_cases hu : u = [102, 105, 108, 101]
          · have q : ((bstr u).toList == [102, 105, 108, 101]) = true := by rw [hlu, hu]; rfl
            have q2 : ((bstr u).toList != [102, 105, 108, 101]) = false := by rw [hlu, hu]; rfl
            clear hlu hl3
            by_cases hv : nv < 0
            · have HE := Kp.mk (show R = (⟨x0, x1, x2, x3, x4, x5, x6, n⟩, false) by
                have hv' := hv
                rw [HNV.out] at hv'
                rw [HR.out]; simp [optE, hu, hv'])
              clear HR hu
              go_wp2_with (first | ((with_reducible refine gate_dst (N := 66) rfl ?_); go_must (refine wpList_load_row rfl 36 (.tmp 2) rfl w.heap.size rfl 36 (c8 x0 x1 x2 x3 x4 x5 x6 n) (0, 0) _ I.out.x Tryd.underlying36 rfl (by kernel_rfl) ?_)) | ((with_reducible refine gate_op (op := .store 36 (.tmp 4) (.tmp 66)) rfl ?_); go_must (refine wpList_store_row rfl 36 (.tmp 4) (.tmp 66) rfl (w.heap.size + 1) _ rfl rfl 36 (c8 0 0 0 0 0 0 0 0) I.out.r (by kernel_rfl) rfl (by simp [c8, Value.oneCell']) ?_)) | (go_at_call 41; first | ((with_reducible refine (NV.out _).mono ?_); rintro e w' ⟨rfl, rfl⟩) | ((with_reducible refine (NZ.out _).mono ?_); rintro e w' ⟨rfl, rfl⟩)))
              exact bodyPost_ret (v := .tuple #[.agg (c8 x0 x1 x2 x3 x4 x5 x6 n), .bool false]) (results_row_tmp rfl _ _ (w.heap.size + 1) 36 _ (0, 0) _ _ rfl rfl (I.out.fin _).1 Tryd.underlying36 rfl (by kernel_rfl)) rfl ⟨by rw [HE.out]; rfl, (I.out.fin _).2⟩
            · by_cases hz : nz < 0
              · have HE := Kp.mk (show R = (⟨x0, x1, x2, x3, x4, x5, x6, n⟩, false) by
                  have hz' := hz
                  rw [HNZ.out] at hz'
                  rw [HR.out]; simp [optE, hu, hz'])
                clear HR hu
                go_wp2_with (first | ((with_reducible refine gate_dst (N := 66) rfl ?_); go_must (refine wpList_load_row rfl 36 (.tmp 2) rfl w.heap.size rfl 36 (c8 x0 x1 x2 x3 x4 x5 x6 n) (0, 0) _ I.out.x Tryd.underlying36 rfl (by kernel_rfl) ?_)) | ((with_reducible refine gate_op (op := .store 36 (.tmp 4) (.tmp 66)) rfl ?_); go_must (refine wpList_store_row rfl 36 (.tmp 4) (.tmp 66) rfl (w.heap.size + 1) _ rfl rfl 36 (c8 0 0 0 0 0 0 0 0) I.out.r (by kernel_rfl) rfl (by simp [c8, Value.oneCell']) ?_)) | (go_at_call 41; first | ((with_reducible refine (NV.out _).mono ?_); rintro e w' ⟨rfl, rfl⟩) | ((with_reducible refine (NZ.out _).mono ?_); rintro e w' ⟨rfl, rfl⟩)))
                exact bodyPost_ret (v := .tuple #[.agg (c8 x0 x1 x2 x3 x4 x5 x6 n), .bool false]) (results_row_tmp rfl _ _ (w.heap.size + 1) 36 _ (0, 0) _ _ rfl rfl (I.out.fin _).1 Tryd.underlying36 rfl (by kernel_rfl)) rfl ⟨by rw [HE.out]; rfl, (I.out.fin _).2⟩
              · have HE := Kp.mk (show R = (⟨x0, x1, x2, nz, x4, nv, x6, n⟩, true) by
                  have hz' := hz
                  have hv' := hv
                  rw [HNZ.out] at hz'
                  rw [HNV.out] at hv'
                  rw [HR.out, HNV.out, HNZ.out]; simp [optE, hu, hz', hv'])
                clear HR hu
                have I5 : Kp (OpI w (c8 x0 x1 x2 x3 x4 nv x6 n) (World.setCell _ ⟨w.heap.size, 5, none⟩ (.int .i64 nv))) := ⟨I.out.set 5 (.int .i64 nv)⟩
                have I3 : Kp (OpI w (c8 x0 x1 x2 nz x4 nv x6 n) (World.setCell _ ⟨w.heap.size, 3, none⟩ (.int .i64 nz))) := ⟨I5.out.set 3 (.int .i64 nz)⟩
                obtain ⟨_, hfz⟩ := I.out.cells
                have hfz5 := hfz 5
                clear hfz
                have e5 : wr.cell? ⟨w.heap.size, 5, none⟩ = some (.int .i64 x5) := by rw [cell_of_row _ _ _ _ _ _ I.out.x]; rfl
                have e3 : (wr.setCell ⟨w.heap.size, 5, none⟩ (.int .i64 nv)).cell? ⟨w.heap.size, 3, none⟩ = some (.int .i64 x3) := by rw [cell_of_row _ _ _ _ _ _ I5.out.x]; rfl
                have c2' : (wr.setCell ⟨w.heap.size, 5, none⟩ (.int .i64 nv)).cell? ⟨b, off + 2, none⟩ = some (.string (bstr z)) := (HS.out.below I5.out.below).cellAt (j := 2) rfl
                obtain ⟨_, hfz⟩ := I5.out.cells
                have hfz3 := hfz 3
                clear hfz
                go_wp2_with (first | ((with_reducible refine gate_dst (N := 77) rfl ?_); go_must (refine wpList_load_row rfl 36 (.tmp 2) rfl w.heap.size rfl 36 (c8 x0 x1 x2 nz x4 nv x6 n) (0, 0) _ I3.out.x Tryd.underlying36 rfl (by kernel_rfl) ?_)) | ((with_reducible refine gate_op (op := .store 36 (.tmp 4) (.tmp 77)) rfl ?_); go_must (refine wpList_store_row rfl 36 (.tmp 4) (.tmp 77) rfl (w.heap.size + 1) _ rfl rfl 36 (c8 0 0 0 0 0 0 0 0) I3.out.r (by kernel_rfl) rfl (by simp [c8, Value.oneCell']) ?_)) | (go_at_call 41; first | ((with_reducible refine (NV.out _).mono ?_); rintro e w' ⟨rfl, rfl⟩) | ((with_reducible refine (NZ.out _).mono ?_); rintro e w' ⟨rfl, rfl⟩)))
                exact bodyPost_ret (v := .tuple #[.agg (c8 x0 x1 x2 nz x4 nv x6 n), .bool true]) (results_row_tmp rfl _ _ (w.heap.size + 1) 36 _ (0, 0) _ _ rfl rfl (I3.out.fin _).1 Tryd.underlying36 rfl (by kernel_rfl)) rfl ⟨by rw [HE.out]; rfl, (I3.out.fin _).2⟩
          · have HE := Kp.mk (show R = (⟨x0, x1, x2, x3, x4, x5, x6, n⟩, false) by rw [HR.out]; simp [optE, hu])
            have q : ((bstr u).toList == [102, 105, 108, 101]) = false := by rw [hlu]; simpa using hu
            clear HR hlu hl3
            go_wp2_with (first | ((with_reducible refine gate_dst (N := 66) rfl ?_); go_must (refine wpList_load_row rfl 36 (.tmp 2) rfl w.heap.size rfl 36 (c8 x0 x1 x2 x3 x4 x5 x6 n) (0, 0) _ I.out.x Tryd.underlying36 rfl (by kernel_rfl) ?_)) | ((with_reducible refine gate_op (op := .store 36 (.tmp 4) (.tmp 66)) rfl ?_); go_must (refine wpList_store_row rfl 36 (.tmp 4) (.tmp 66) rfl (w.heap.size + 1) _ rfl rfl 36 (c8 0 0 0 0 0 0 0 0) I.out.r (by kernel_rfl) rfl (by simp [c8, Value.oneCell']) ?_)) | fail)
            exact bodyPost_ret (v := .tuple #[.agg (c8 x0 x1 x2 x3 x4 x5 x6 n), .bool false]) (results_row_tmp rfl _ _ (w.heap.size + 1) 36 _ (0, 0) _ _ rfl rfl (I.out.fin _).1 Tryd.underlying36 rfl (by kernel_rfl)) rfl ⟨by rw [HE.out]; rfl, (I.out.fin _).2⟩
        · have HE := Kp.mk (show R = (⟨x0, x1, x2, x3, x4, x5, x6, n⟩, false) by rw [HR.out]; simp [optE, hl3])
          have q : (((r.length : Int) + 1) == 3) = false := by simp; omega
          have q2 : ¬ ((r.length : Int) + 1) = 3 := by omega
          clear HR hlu hl3
          go_wp2_with (first | ((with_reducible refine gate_dst (N := 66) rfl ?_); go_must (refine wpList_load_row rfl 36 (.tmp 2) rfl w.heap.size rfl 36 (c8 x0 x1 x2 x3 x4 x5 x6 n) (0, 0) _ I.out.x Tryd.underlying36 rfl (by kernel_rfl) ?_)) | ((with_reducible refine gate_op (op := .store 36 (.tmp 4) (.tmp 66)) rfl ?_); go_must (refine wpList_store_row rfl 36 (.tmp 4) (.tmp 66) rfl (w.heap.size + 1) _ rfl rfl 36 (c8 0 0 0 0 0 0 0 0) I.out.r (by kernel_rfl) rfl (by simp [c8, Value.oneCell']) ?_)) | fail)
          exact bodyPost_ret (v := .tuple #[.agg (c8 x0 x1 x2 x3 x4 x5 x6 n), .bool false]) (results_row_tmp rfl _ _ (w.heap.size + 1) 36 _ (0, 0) _ _ rfl rfl (I.out.fin _).1 Tryd.underlying36 rfl (by kernel_rfl)) rfl ⟨by rw [HE.out]; rfl, (I.out.fin _).2⟩
end Go.Proofs.YtiomnlgnhdhffaaDoor
