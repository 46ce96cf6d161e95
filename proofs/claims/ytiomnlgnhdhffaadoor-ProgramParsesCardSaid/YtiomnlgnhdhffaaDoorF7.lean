/-
  program.Format whole. Conditions: the argument's row lies as said; the table reads as listed.
-/
import Derived.Test.YtiomnlgnhdhffaaDoorF6
import Derived.Test.YtiomnlgnhdhffaaDoorD1
namespace Go.Proofs.YtiomnlgnhdhffaaDoor
open Go.RowKit
set_option linter.unusedVariables false
set_option maxHeartbeats 4000000 in
theorem okL_of {x : Ins} (h : refI x = 0) : OkL x := by
  obtain ⟨x0, x1, x2, x3, x4, x5, x6, x7⟩ := x
  unfold refI at h
  by_cases h1 : inR x0 1 12 = true
  · simp only [h1] at h
    by_cases h2 : usedI ⟨x0, x1, x2, x3, x4, x5, x6, x7⟩ = ⟨x0, x1, x2, x3, x4, x5, x6, x7⟩
    · simp only [h2] at h
      cases h3 : rngR ⟨x0, x1, x2, x3, x4, x5, x6, x7⟩
      · simp [h3] at h
      · clear h
        have h1' : 1 ≤ x0 ∧ x0 ≤ 12 := by simpa [inR] using h1
        clear h1
        have hc : x0 = 1 ∨ x0 = 2 ∨ x0 = 3 ∨ x0 = 4 ∨ x0 = 5 ∨ x0 = 6 ∨ x0 = 7 ∨ x0 = 8 ∨ x0 = 9 ∨ x0 = 10 ∨ x0 = 11 ∨ x0 = 12 := by omega
        rcases hc with rfl | rfl | rfl | rfl | rfl | rfl | rfl | rfl | rfl | rfl | rfl | rfl <;> simp [usedI] at h2 <;> simp [rngR, memR, inR] at h3 <;> refine ⟨⟨?_, ?_, ?_, ?_, ?_, ?_⟩, fun _ => ?_⟩ <;> dsimp only at * <;> omega
    · simp [h2] at h
  · simp [h1] at h

structure BM (w : World) (b : Nat) (t : ByteArray) (W : World) : Prop where
  bd : BdAt b t W
  below : Below w.heap.size w W
  low : w.heap.size ≤ b
theorem BM.next {w W W' : World} {b : Nat} {t : ByteArray} (h : BM w b t W) (hb : Below W.heap.size W W') : BM w b t W' := ⟨h.bd.next hb, h.below.trans (hb.mono h.below.size), h.low⟩
theorem BM.write {w W W' : World} {b : Nat} {t s : ByteArray} (h : BM w b t W) (hb : Below b W W') (hd : BdAt b s W') : BM w b s W' := ⟨hd, h.below.trans (hb.mono h.low), h.low⟩
def fmtT (xs : List Ins) : ByteArray := xs.foldl (fun a x => a ++ (lineT x ++ ⟨#[10]⟩)) ⟨#[]⟩
theorem fmt_take (xs : List Ins) (k : Nat) (h : k < xs.length) : fmtT (xs.take (k + 1)) = fmtT (xs.take k) ++ (lineT xs[k] ++ ⟨#[10]⟩) := by
  unfold fmtT
  rw [List.take_succ_eq_append_getElem h, List.foldl_append]
  rfl
theorem fmt_size (xs : List Ins) (h : ∀ x ∈ xs, OkL x) : ∀ k, k ≤ xs.length → (fmtT (xs.take k)).size ≤ 101 * k
  | 0, _ => by simp [fmtT, ByteArray.size_mk']
  | k + 1, hk => by
    have ih := fmt_size xs h k (by omega)
    rw [fmt_take xs k (by omega)]
    have := lineT_size (h xs[k] (by simp))
    simp only [ByteArray.size_append, ByteArray.size_mk', List.size_toArray, List.length_cons, List.length_nil]
    omega
theorem chkL_ok : ∀ {xs : List Ins}, chkL xs = 0 → ∀ x ∈ xs, OkL x
  | [], _, x, hx => by simp at hx
  | y :: r, h, x, hx => by
    rw [chkL] at h
    by_cases hy : chkI y = 0
    · rw [if_pos hy] at h
      rcases List.mem_cons.1 hx with rfl | hx
      · exact okL_of (by rw [← chk_ref]; exact hy)
      · exact chkL_ok h x hx
    · rw [if_neg hy] at h
      exact absurd h hy
/-- What program.Format returns. -/
def formatT (xs : List Ins) : ByteArray × Int := if chkP xs = 0 then (fmtT xs, 0) else (⟨#[]⟩, chkP xs)

set_option maxRecDepth 100000 in
set_option maxHeartbeats 4000000 in
theorem format16 {B : Nat} (A : Option Addr) (xs : List Ins) (cap : Nat) (w : World) (hT : Tb B w) (hB : B ≤ w.heap.size) (hx : InsAt w A xs) (hn : xs.length ≤ 4611686018427387904) :
    Calls Tryd.prog 16 #[.slice A xs.length cap] w fun e w' => e = .returned (.tuple #[.string (formatT xs).1, .int .i64 (formatT xs).2]) ∧ Below w.heap.size w w' := by
  have HX := Kp.mk hx
  have HT := Kp.mk hT
  clear hx hT
  go_enter Tryd.func16, Tryd.ntmps16
  go_wp2_with fail
  refine (check11 A xs cap _ HX.out hn).mono ?_
  rintro e w2 ⟨rfl, hb⟩
  have HB := Kp.mk hb
  clear hb
  by_cases hc : chkP xs = 0
  · have HE := Kp.mk (show formatT xs = (fmtT xs, 0) by rw [formatT, if_pos hc])
    have hlen : xs.length ≤ 48 := by
      by_cases h48 : 48 < xs.length
      · simp [chkP, h48] at hc
      · omega
    have HO := Kp.mk (chkL_ok (xs := xs) (by rw [chkP, if_neg (by omega)] at hc; exact hc))
    rw [hc]
    clear hc
    have M0 := Kp.mk (show BM w w2.heap.size ⟨#[]⟩ (w2.alloc (.cells #[.pointer none, .slice none 0 0] 52)) from ⟨BdAt.fresh w2, HB.out.alloc HB.out.size _, HB.out.size⟩)
    go_wp2_with fail
    go_loopw [15] (fun i W => ∃ k : Nat, k ≤ xs.length ∧ i = .int .i64 k ∧ Kp (BM w w2.heap.size (fmtT (xs.take k)) W)) (fun i _ => xs.length - (intOf i).toNat)
    case atStart => exact ⟨0, by omega, rfl, M0⟩
    case round =>
      clear M0
      obtain ⟨k, hk, rfl, M⟩ := hrel
      by_cases hlt : k < xs.length
      · obtain ⟨b, off, rfl, hbl, hr⟩ := (HX.out.below M.out.below) (by rintro rfl; simp at hlt)
        have hxk : xs[k]? = some xs[k] := by simp [hlt]
        have HR := Kp.mk (hr k _ hxk)
        have HD := Kp.mk (fmt_take xs k hlt)
        have HO2 := Kp.mk (HO.out xs[k] (by simp))
        have hz1 := fmt_size xs HO.out k hk
        have hz2 := lineT_size HO2.out
        generalize xs[k] = x at HR HD HO2 hz2
        generalize fmtT (xs.take k) = t at HD hz1 M
        clear hr hxk
        obtain ⟨x0, x1, x2, x3, x4, x5, x6, x7⟩ := x
        have HR := Kp.mk (show wr.rangeAt b (off + k * 8) [.int .i64 x0, .int .i64 x1, .int .i64 x2, .int .i64 x3, .int .i64 x4, .int .i64 x5, .int .i64 x6, .int .i64 x7] from HR.out)
        go_wp2_with (first | ((with_reducible refine gate_dst (N := 18) rfl ?_); go_must (refine wpList_load_mid rfl 36 (.tmp 17) rfl b (off + k * 8) rfl _ _ HR.out Tryd.underlying36 rfl (by kernel_rfl) ?_)) | fail)
        refine (format28 (B := B) ⟨x0, x1, x2, x3, x4, x5, x6, x7⟩ _ (HT.out.on hB (M.out.next (below_new _ _)).below) (by have := M.out.below.size; simp; omega) HO2.out).mono ?_
        rintro e w4 ⟨rfl, hb⟩
        have M := Kp.mk ((M.out.next (below_new _ _)).next hb)
        clear hb HR
        generalize lineT ⟨x0, x1, x2, x3, x4, x5, x6, x7⟩ = l at HD hz2 ⊢
        go_wp2_with fail
        refine (write27 _ _ M.out.bd (by simp [ByteArray.size_append, ByteArray.size_mk']; omega)).mono ?_
        rintro e w5 ⟨rfl, hd, hb⟩
        have M := Kp.mk (M.out.write hb hd)
        clear hd hb
        go_wp2_with fail
        exact ⟨⟨k + 1, by omega, by congr 1, by rw [HD.out]; exact M⟩, by simp only [intOf]; omega⟩
      · have HK : Kp (k = xs.length) := ⟨by omega⟩
        have M : Kp (BM w w2.heap.size (fmtT xs) wr) := by rw [HK.out, List.take_length] at M; exact M
        go_wp2_with fail
        refine (string29 _ M.out.bd).mono ?_
        rintro e w5 ⟨rfl, hb⟩
        have HB := Kp.mk (M.out.below.trans (hb.mono M.out.low))
        clear hb
        go_wp2
        go_ret2
        exact ⟨by rw [HE.out]; rfl, HB.out⟩
  · have HE := Kp.mk (show formatT xs = (⟨#[]⟩, chkP xs) by rw [formatT, if_neg hc])
    generalize chkP xs = c at HE hc
    have hc' : (c != 0) = true := by simpa using hc
    go_wp2
    go_ret2
    exact ⟨by rw [HE.out]; rfl, HB.out⟩
end Go.Proofs.YtiomnlgnhdhffaaDoor
