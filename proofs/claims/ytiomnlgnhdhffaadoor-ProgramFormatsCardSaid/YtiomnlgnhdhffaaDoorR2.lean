/-
  The walk of the reference's mapping. Conditions: the instruction's numbers are of three digits at most; the table reads as listed. (Printed by wip/tools/genR2.py.)
-/
import Derived.Test.YtiomnlgnhdhffaaDoorR1
namespace Go.Proofs.YtiomnlgnhdhffaaDoor
open Go.RowKit
set_option linter.unusedVariables false

def nmT (k : Nat) : ByteArray := ⟨#[32]⟩ ++ bstr (flagW k)
theorem nm_size (k : Nat) : (nmT k).size ≤ 7 := by
  have := flag_size k
  simp only [nmT, ByteArray.size_append, ByteArray.size_mk', List.size_toArray, List.length_singleton]; omega
def nmC : Array Value := #[.string ⟨#[32, 115, 104, 97, 114, 101, 100]⟩, .string ⟨#[32, 103, 114, 111, 119, 115]⟩, .string ⟨#[32, 108, 111, 99, 107, 101, 100]⟩, .string ⟨#[32, 104, 117, 103, 101]⟩]
theorem nm_at {k : Nat} (h : k < 4) : nmC[k]? = some (.string (nmT k)) := by
  have : k = 0 ∨ k = 1 ∨ k = 2 ∨ k = 3 := by omega
  have e0 : nmT 0 = ⟨#[32, 115, 104, 97, 114, 101, 100]⟩ := by decide +kernel
  have e1 : nmT 1 = ⟨#[32, 103, 114, 111, 119, 115]⟩ := by decide +kernel
  have e2 : nmT 2 = ⟨#[32, 108, 111, 99, 107, 101, 100]⟩ := by decide +kernel
  have e3 : nmT 3 = ⟨#[32, 104, 117, 103, 101]⟩ := by decide +kernel
  rcases this with rfl | rfl | rfl | rfl
  · rw [e0]; rfl
  · rw [e1]; rfl
  · rw [e2]; rfl
  · rw [e3]; rfl
/-- The memory of mapping: the instruction's row X, the names' row S. -/
structure RM (w : World) (X S : Nat) (x : Array Value) (W : World) : Prop where
  m : XM w X x W
  nm : W.heap[S]? = some (.cells nmC 9 (0, 0))
theorem RM.start {w W : World} {X : Nat} {x : Array Value} (h : XM w X x W) : RM w X W.heap.size x (W.alloc (.cells nmC 9)) :=
  ⟨h.next ((Below.refl _ _).alloc (Nat.le_refl _) _), heap_at rfl _⟩
theorem RM.next {w W W' : World} {X S : Nat} {x : Array Value} (h : RM w X S x W) (hb : Below W.heap.size W W') : RM w X S x W' :=
  ⟨h.m.next hb, (hb.block S (lt_of_block h.nm)).trans h.nm⟩
theorem RM.cell {w W : World} {X S : Nat} {x : Array Value} (h : RM w X S x W) {k : Nat} (hk : k < 4) : W.cell? ⟨S, k, none⟩ = some (.string (nmT k)) := by
  rw [cell_of_row _ _ _ _ _ _ h.nm]; exact nm_at hk
theorem flR_no {f : Int} {t : ByteArray} {k : Nat} (h : ¬ f / 2 ^ k % 2 = 1) : flR f t (k + 1) = flR f t k := by simp [flR, h]
theorem flR_yes {f : Int} {t : ByteArray} {k : Nat} (h : f / 2 ^ k % 2 = 1) : flR f t (k + 1) = flR f t k ++ nmT k := by simp [flR, h, nmT]
theorem half {f : Int} (h0 : 0 ≤ f) (k : Nat) : f / 2 ^ (k + 1) = f / 2 ^ k / 2 := by
  rw [Int.pow_succ, Int.ediv_ediv_of_nonneg (by exact Int.pow_nonneg (by decide))]
theorem half_bd {f : Int} (h0 : 0 ≤ f) (h1 : f < 16) (k : Nat) : 0 ≤ f / 2 ^ k ∧ f / 2 ^ k < 16 := by
  have hp : (0 : Int) < 2 ^ k := Int.pow_pos (by decide)
  refine ⟨Int.ediv_nonneg h0 (Int.le_of_lt hp), Int.lt_of_le_of_lt (Int.ediv_le_self _ h0) h1⟩

def mapE (x : Ins) (o : ByteArray) : ByteArray :=
  if x.file ≥ 0 then flR x.flags (o ++ rightT x.prot) 4 ++ joinT ⟨#[32, 102, 105, 108, 101]⟩ [x.file, x.index] else flR x.flags (o ++ rightT x.prot) 4
theorem mapR_eq (x : Ins) : mapR x = mapE x (if x.page < 0 then joinT ⟨#[109, 97, 112, 32, 97, 110, 121]⟩ [x.count] else joinT ⟨#[109, 97, 112]⟩ [x.page, x.count]) := rfl

set_option maxRecDepth 100000 in
set_option maxHeartbeats 4000000 in
theorem mapping49 {B : Nat} (x : Ins) (w : World) (hT : Tb B w) (hB : B ≤ w.heap.size) (hv : OkI x) :
    Calls Tryd.prog 49 #[x.V] w fun e w' => e = .returned (.string (mapR x)) ∧ Below w.heap.size w w' := by
  obtain ⟨x0, x1, x2, x3, x4, x5, x6, x7⟩ := x
  obtain ⟨hp, hc, hi, hva, hf, hfl⟩ := hv
  simp only at hp hc hi hva hf hfl
  obtain ⟨T, hTT⟩ : ∃ T, T = mapR ⟨x0, x1, x2, x3, x4, x5, x6, x7⟩ := ⟨_, rfl⟩
  rw [← hTT]
  have HTT := Kp.mk hTT
  clear hTT
  have HT := Kp.mk hT
  have HF := Kp.mk hf
  have HI := Kp.mk hi
  have HL := Kp.mk hfl
  have HC := Kp.mk hc
  have M := Kp.mk (XM.start w (c8 x0 x1 x2 x3 x4 x5 x6 x7))
  clear hT hf hi hfl hva
  obtain ⟨d0, d1, d2, d3, d4, d5, d6, d7⟩ := M.out.cells
  clear d0 d3 d4 d5 d6 d7
  go_enter Tryd.func49, Tryd.ntmps49
  go_wp2_with fail
  refine (words50 (B := B) ⟨#[109, 97, 112]⟩ [x1, x2] (w.heap.size + 1) 2 _ (HT.out.on hB (M.out.below.alloc M.out.below.size _)) (by simp; omega) (by exact IntsAt.row (heap_at (by simp) _) rfl) (by decide) (by simp) (by simp; omega)).mono ?_
  rintro e V ⟨rfl, hb⟩
  have M := Kp.mk ((M.out.next (below_new _ (.cells #[.int .i64 x1, .int .i64 x2] 3))).next hb)
  clear hb d1 d2
  have hz1 := join_size5 [x1, x2] (by simp; omega) ⟨#[109, 97, 112]⟩
  simp only [ByteArray.size_mk', List.length_cons, List.length_nil, List.size_toArray] at hz1
  obtain ⟨d0, d1, d2, d3, d4, d5, d6, d7⟩ := M.out.cells
  clear d0 d3 d4 d5 d7
  by_cases hp1 : x1 < 0
  · have HP := Kp.mk (show mapR ⟨x0, x1, x2, x3, x4, x5, x6, x7⟩ = mapE ⟨x0, x1, x2, x3, x4, x5, x6, x7⟩ (joinT ⟨#[109, 97, 112, 32, 97, 110, 121]⟩ [x2]) by rw [mapR_eq, if_pos hp1])
    go_wp2_with fail
    refine (words50 (B := B) ⟨#[109, 97, 112, 32, 97, 110, 121]⟩ [x2] V.heap.size 1 _ (HT.out.on hB (M.out.below.alloc M.out.below.size _)) (by have := M.out.below.size; simp; omega) (by exact IntsAt.row (heap_at rfl _) rfl) (by decide) (by simp) (by simp; omega)).mono ?_
    rintro e V2 ⟨rfl, hb⟩
    have M := Kp.mk ((M.out.next (below_new _ (.cells #[.int .i64 x2] 3))).next hb)
    clear hb d1 d2 d6 hz1 hp1 hp
    have hz1 := join_size5 [x2] (by simp; omega) ⟨#[109, 97, 112, 32, 97, 110, 121]⟩
    simp only [ByteArray.size_mk', List.length_cons, List.length_nil, List.size_toArray] at hz1
    generalize joinT ⟨#[109, 97, 112, 32, 97, 110, 121]⟩ [x2] = o at HP hz1 ⊢
    obtain ⟨d0, d1, d2, d3, d4, d5, d6, d7⟩ := M.out.cells
    clear d0 d1 d2 d3 d4 d5 d7
    go_wp2_with fail
    have hos : o.size ≤ 20 := by omega
    clear hz1
    have hr := right_size x6
    refine (rights51 x6 _).mono ?_
    rintro e W9 ⟨rfl, rfl⟩
    have HMR := Kp.mk (show mapR ⟨x0, x1, x2, x3, x4, x5, x6, x7⟩ = if x5 ≥ 0 then flR x7 (o ++ rightT x6) 4 ++ joinT ⟨#[32, 102, 105, 108, 101]⟩ [x5, x3] else flR x7 (o ++ rightT x6) 4 from HP.out)
    clear HP
    generalize rightT x6 = rt at hr HMR ⊢
    have M2 : Kp (RM w w.heap.size _ (c8 x0 x1 x2 x3 x4 x5 x6 x7) (World.alloc _ (.cells #[.string ⟨#[32, 115, 104, 97, 114, 101, 100]⟩, .string ⟨#[32, 103, 114, 111, 119, 115]⟩, .string ⟨#[32, 108, 111, 99, 107, 101, 100]⟩, .string ⟨#[32, 104, 117, 103, 101]⟩] 9))) := ⟨RM.start M.out⟩
    clear d6
    obtain ⟨d0, d1, d2, d3, d4, d5, d6, d7⟩ := M2.out.m.cells
    clear d0 d1 d2 d3 d4 d5 d6
    go_wp2_with fail
    clear d7
    have hz5 : (o ++ rt).size ≤ 23 := by rw [ByteArray.size_append]; omega
    clear hos hr
    generalize o ++ rt = a at HMR hz5 ⊢
    go_loop [3, 5, 6] (fun s f i => ∃ k : Nat, k ≤ 4 ∧ i = .int .i64 k ∧ f = .int .i64 (x7 / 2 ^ k) ∧ s = .string (flR x7 a k)) (fun _ _ i => 4 - (intOf i).toNat)
    case atStart => exact ⟨0, by omega, rfl, by simp, rfl⟩
    case round =>
      obtain ⟨k, hk4, rfl, rfl, rfl⟩ := hrel
      have hz6 := flR_size x7 a k
      by_cases hk : k < 4
      · have hki : (k : Int) < 4 := by omega
        have hkp : (0 : Int) ≤ (k : Int) := by omega
        have hcell := M2.out.cell hk
        have hz7 := nm_size k
        have hbd := half_bd HL.out.1 HL.out.2 k
        have HHF := Kp.mk (half HL.out.1 k)
        by_cases hq : x7 / 2 ^ k % 2 = 1
        · have HFL := Kp.mk (flR_yes (t := a) hq)
          generalize nmT k = nk at hcell hz7 HFL
          generalize flR x7 a k = fk at hz6 HFL ⊢
          generalize x7 / 2 ^ k = g at hq hbd HHF ⊢
          obtain ⟨hb1, hb2⟩ := hbd
          have ht : g.tmod 2 = 1 := by rw [Int.tmod_eq_emod_of_nonneg hb1]; exact hq
          have hd : g.tdiv 2 = g / 2 := Int.tdiv_eq_ediv_of_nonneg hb1
          go_wp2_with fail
          exact ⟨⟨k + 1, by omega, by congr 1, by rw [HHF.out], by rw [HFL.out]⟩, by simp only [intOf]; omega⟩
        · have HFL := Kp.mk (flR_no (t := a) hq)
          generalize flR x7 a k = fk at hz6 HFL ⊢
          generalize x7 / 2 ^ k = g at hq hbd HHF ⊢
          obtain ⟨hb1, hb2⟩ := hbd
          have ht : g.tmod 2 = 0 := by rw [Int.tmod_eq_emod_of_nonneg hb1]; omega
          have hd : g.tdiv 2 = g / 2 := Int.tdiv_eq_ediv_of_nonneg hb1
          go_wp2_with fail
          exact ⟨⟨k + 1, by omega, by congr 1, by rw [HHF.out], by rw [HFL.out]⟩, by simp only [intOf]; omega⟩
      · obtain rfl : k = 4 := by omega
        generalize flR x7 a 4 = f4 at hz6 HMR ⊢
        generalize x7 / 2 ^ 4 = g
        obtain ⟨d0, d1, d2, d3, d4, d5, d6, d7⟩ := M2.out.m.cells
        clear d0 d1 d2 d4 d6 d7
        by_cases h5 : x5 ≥ 0
        · have HE := Kp.mk (HTT.out.trans (HMR.out.trans (if_pos h5)))
          have h5' : x5 < 1000 := by have := HF.out; omega
          have hz8 := join_size5 [x5, x3] (by have := HI.out; simp; omega) ⟨#[32, 102, 105, 108, 101]⟩
          simp only [ByteArray.size_mk', List.length_cons, List.length_nil, List.size_toArray] at hz8
          go_wp2_with fail
          refine (words50 (B := B) ⟨#[32, 102, 105, 108, 101]⟩ [x5, x3] (W9.heap.size + 1) 2 _ (HT.out.on hB (M2.out.m.below.alloc M2.out.m.below.size _)) (by have := M2.out.m.below.size; simp at this ⊢; omega) (by exact IntsAt.row (heap_at (by simp) _) rfl) (by decide) (by simp) (by have := HI.out; simp; omega)).mono ?_
          rintro e V3 ⟨rfl, hb⟩
          have HB := Kp.mk (((M2.out.next (below_new _ (.cells #[.int .i64 x5, .int .i64 x3] 3))).next hb).m.below)
          clear hb
          generalize joinT ⟨#[32, 102, 105, 108, 101]⟩ [x5, x3] = j5 at HE hz8 ⊢
          go_wp2
          go_ret
          exact ⟨by rw [HE.out]; rfl, HB.out⟩
        · have HE := Kp.mk (HTT.out.trans (HMR.out.trans (if_neg h5)))
          go_wp2
          go_ret
          exact ⟨by rw [HE.out]; rfl, M2.out.m.below⟩
  · have HP := Kp.mk (show mapR ⟨x0, x1, x2, x3, x4, x5, x6, x7⟩ = mapE ⟨x0, x1, x2, x3, x4, x5, x6, x7⟩ (joinT ⟨#[109, 97, 112]⟩ [x1, x2]) by rw [mapR_eq, if_neg hp1])
    generalize joinT ⟨#[109, 97, 112]⟩ [x1, x2] = o at HP hz1 ⊢
    clear d2 hp
    go_wp2_with fail
    clear d1 hp1
    have hos : o.size ≤ 20 := by omega
    clear hz1
    have hr := right_size x6
    refine (rights51 x6 _).mono ?_
    rintro e W9 ⟨rfl, rfl⟩
    have HMR := Kp.mk (show mapR ⟨x0, x1, x2, x3, x4, x5, x6, x7⟩ = if x5 ≥ 0 then flR x7 (o ++ rightT x6) 4 ++ joinT ⟨#[32, 102, 105, 108, 101]⟩ [x5, x3] else flR x7 (o ++ rightT x6) 4 from HP.out)
    clear HP
    generalize rightT x6 = rt at hr HMR ⊢
    have M2 : Kp (RM w w.heap.size _ (c8 x0 x1 x2 x3 x4 x5 x6 x7) (World.alloc _ (.cells #[.string ⟨#[32, 115, 104, 97, 114, 101, 100]⟩, .string ⟨#[32, 103, 114, 111, 119, 115]⟩, .string ⟨#[32, 108, 111, 99, 107, 101, 100]⟩, .string ⟨#[32, 104, 117, 103, 101]⟩] 9))) := ⟨RM.start M.out⟩
    clear d6
    obtain ⟨d0, d1, d2, d3, d4, d5, d6, d7⟩ := M2.out.m.cells
    clear d0 d1 d2 d3 d4 d5 d6
    go_wp2_with fail
    clear d7
    have hz5 : (o ++ rt).size ≤ 23 := by rw [ByteArray.size_append]; omega
    clear hos hr
    generalize o ++ rt = a at HMR hz5 ⊢
    go_loop [3, 5, 6] (fun s f i => ∃ k : Nat, k ≤ 4 ∧ i = .int .i64 k ∧ f = .int .i64 (x7 / 2 ^ k) ∧ s = .string (flR x7 a k)) (fun _ _ i => 4 - (intOf i).toNat)
    case atStart => exact ⟨0, by omega, rfl, by simp, rfl⟩
    case round =>
      obtain ⟨k, hk4, rfl, rfl, rfl⟩ := hrel
      have hz6 := flR_size x7 a k
      by_cases hk : k < 4
      · have hki : (k : Int) < 4 := by omega
        have hkp : (0 : Int) ≤ (k : Int) := by omega
        have hcell := M2.out.cell hk
        have hz7 := nm_size k
        have hbd := half_bd HL.out.1 HL.out.2 k
        have HHF := Kp.mk (half HL.out.1 k)
        by_cases hq : x7 / 2 ^ k % 2 = 1
        · have HFL := Kp.mk (flR_yes (t := a) hq)
          generalize nmT k = nk at hcell hz7 HFL
          generalize flR x7 a k = fk at hz6 HFL ⊢
          generalize x7 / 2 ^ k = g at hq hbd HHF ⊢
          obtain ⟨hb1, hb2⟩ := hbd
          have ht : g.tmod 2 = 1 := by rw [Int.tmod_eq_emod_of_nonneg hb1]; exact hq
          have hd : g.tdiv 2 = g / 2 := Int.tdiv_eq_ediv_of_nonneg hb1
          go_wp2_with fail
          exact ⟨⟨k + 1, by omega, by congr 1, by rw [HHF.out], by rw [HFL.out]⟩, by simp only [intOf]; omega⟩
        · have HFL := Kp.mk (flR_no (t := a) hq)
          generalize flR x7 a k = fk at hz6 HFL ⊢
          generalize x7 / 2 ^ k = g at hq hbd HHF ⊢
          obtain ⟨hb1, hb2⟩ := hbd
          have ht : g.tmod 2 = 0 := by rw [Int.tmod_eq_emod_of_nonneg hb1]; omega
          have hd : g.tdiv 2 = g / 2 := Int.tdiv_eq_ediv_of_nonneg hb1
          go_wp2_with fail
          exact ⟨⟨k + 1, by omega, by congr 1, by rw [HHF.out], by rw [HFL.out]⟩, by simp only [intOf]; omega⟩
      · obtain rfl : k = 4 := by omega
        generalize flR x7 a 4 = f4 at hz6 HMR ⊢
        generalize x7 / 2 ^ 4 = g
        obtain ⟨d0, d1, d2, d3, d4, d5, d6, d7⟩ := M2.out.m.cells
        clear d0 d1 d2 d4 d6 d7
        by_cases h5 : x5 ≥ 0
        · have HE := Kp.mk (HTT.out.trans (HMR.out.trans (if_pos h5)))
          have h5' : x5 < 1000 := by have := HF.out; omega
          have hz8 := join_size5 [x5, x3] (by have := HI.out; simp; omega) ⟨#[32, 102, 105, 108, 101]⟩
          simp only [ByteArray.size_mk', List.length_cons, List.length_nil, List.size_toArray] at hz8
          go_wp2_with fail
          refine (words50 (B := B) ⟨#[32, 102, 105, 108, 101]⟩ [x5, x3] (W9.heap.size + 1) 2 _ (HT.out.on hB (M2.out.m.below.alloc M2.out.m.below.size _)) (by have := M2.out.m.below.size; simp at this ⊢; omega) (by exact IntsAt.row (heap_at (by simp) _) rfl) (by decide) (by simp) (by have := HI.out; simp; omega)).mono ?_
          rintro e V3 ⟨rfl, hb⟩
          have HB := Kp.mk (((M2.out.next (below_new _ (.cells #[.int .i64 x5, .int .i64 x3] 3))).next hb).m.below)
          clear hb
          generalize joinT ⟨#[32, 102, 105, 108, 101]⟩ [x5, x3] = j5 at HE hz8 ⊢
          go_wp2
          go_ret
          exact ⟨by rw [HE.out]; rfl, HB.out⟩
        · have HE := Kp.mk (HTT.out.trans (HMR.out.trans (if_neg h5)))
          go_wp2
          go_ret
          exact ⟨by rw [HE.out]; rfl, M2.out.m.below⟩
end Go.Proofs.YtiomnlgnhdhffaaDoor
