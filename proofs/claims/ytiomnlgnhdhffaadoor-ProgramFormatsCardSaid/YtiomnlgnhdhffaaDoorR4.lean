/-
  The reference's line and Format whole; the reference's text is the program's. Conditions: the argument's row lies as said; the table reads as listed.
-/
import Derived.Test.YtiomnlgnhdhffaaDoorR3
import Derived.Test.YtiomnlgnhdhffaaDoorV3
namespace Go.Proofs.YtiomnlgnhdhffaaDoor
open Go.RowKit
set_option linter.unusedVariables false

/-- What the reference's line returns. -/
def lineR (x : Ins) : ByteArray :=
  if x.op = 1 then mapR x
  else if x.op = 2 then joinT ⟨#[117, 110, 109, 97, 112]⟩ [x.page, x.count]
  else if x.op = 3 then joinT ⟨#[112, 114, 111, 116, 101, 99, 116]⟩ [x.page, x.count] ++ rightT x.prot
  else if x.op = 4 then (if x.value = 1 then joinT ⟨#[108, 111, 99, 107]⟩ [x.page, x.count] else joinT ⟨#[117, 110, 108, 111, 99, 107]⟩ [x.page, x.count])
  else if x.op = 5 then joinT ⟨#[108, 111, 97, 100]⟩ [x.page, x.index]
  else if x.op = 6 then joinT ⟨#[115, 116, 111, 114, 101]⟩ [x.page, x.index, x.value]
  else if x.op = 7 then joinT ⟨#[114, 101, 97, 100]⟩ [x.file, x.page, x.index]
  else if x.op = 8 then joinT ⟨#[119, 114, 105, 116, 101]⟩ [x.file, x.page, x.index, x.value]
  else if x.op = 9 then joinT ⟨#[116, 114, 117, 110, 99, 97, 116, 101]⟩ [x.file, x.count]
  else if x.op = 10 then joinT ⟨#[115, 121, 110, 99]⟩ [x.file]
  else if x.op = 11 then joinT ⟨#[102, 111, 114, 107]⟩ [x.value]
  else ⟨#[101, 120, 105, 116]⟩
theorem ba_ext {a b : ByteArray} (h : a.data.toList = b.data.toList) : a = b := by
  obtain ⟨a⟩ := a
  obtain ⟨b⟩ := b
  congr 1
  exact Array.toList_inj.1 h
theorem right_data (n : Int) : (rightT n).data.toList = 32 :: protW n := by unfold rightT protW; split <;> rfl
theorem flR_data {f : Int} (h0 : 0 ≤ f) (h1 : f < 16) (t : ByteArray) : (flR f t 4).data.toList = t.data.toList ++ (flWs f 4).flatMap (fun v => 32 :: v) := by
  rw [← flT_data]
  congr 2
  have hc : f = 0 ∨ f = 1 ∨ f = 2 ∨ f = 3 ∨ f = 4 ∨ f = 5 ∨ f = 6 ∨ f = 7 ∨ f = 8 ∨ f = 9 ∨ f = 10 ∨ f = 11 ∨ f = 12 ∨ f = 13 ∨ f = 14 ∨ f = 15 := by omega
  rcases hc with rfl | rfl | rfl | rfl | rfl | rfl | rfl | rfl | rfl | rfl | rfl | rfl | rfl | rfl | rfl | rfl <;> rfl
theorem mapR_T {x : Ins} (h : OkI x) : mapR x = mapT x := by
  apply ba_ext
  have h5 : x.file ≥ 0 ↔ ¬ x.file = -1 := by have := h.file; omega
  have h1 : x.page < 0 ↔ x.page = -1 := by have := h.page; omega
  unfold mapR mapT
  dsimp only
  by_cases hf : x.file = -1
  · rw [if_pos hf, if_neg (by omega), flR_data h.flags.1 h.flags.2, flT_data]
    by_cases hp : x.page = -1
    · rw [if_pos (by omega)]
      simp only [app_data, join_data, right_data, numT_data, prot_data, page_data, spj, hp]
      simp
    · rw [if_neg (by omega)]
      simp only [app_data, join_data, right_data, numT_data, prot_data, page_data, spj, if_neg hp]
      simp
  · rw [if_neg hf, if_pos (by omega), app_data, app_data, flR_data h.flags.1 h.flags.2, flT_data]
    by_cases hp : x.page = -1
    · rw [if_pos (by omega)]
      simp only [app_data, join_data, right_data, numT_data, prot_data, page_data, spj, hp]
      simp
    · rw [if_neg (by omega)]
      simp only [app_data, join_data, right_data, numT_data, prot_data, page_data, spj, if_neg hp]
      simp
theorem lineR_T {x : Ins} (h : OkI x) (hv : x.op = 4 → x.value = 0 ∨ x.value = 1) : lineR x = lineT x := by
  unfold lineR lineT
  by_cases h1 : x.op = 1
  · rw [if_pos h1, if_pos h1]; exact mapR_T h
  rw [if_neg h1, if_neg h1]
  by_cases h2 : x.op = 2
  · rw [if_pos h2, if_pos h2]
  rw [if_neg h2, if_neg h2]
  by_cases h3 : x.op = 3
  · rw [if_pos h3, if_pos h3]
    apply ba_ext
    simp only [app_data, right_data, prot_data]
    simp
  rw [if_neg h3, if_neg h3]
  by_cases h4 : x.op = 4
  · rw [if_pos h4, if_pos h4]
    rcases hv h4 with hv | hv
    · rw [hv]; rfl
    · rw [hv]; rfl
  rw [if_neg h4, if_neg h4]
theorem value_of {x : Ins} (h : refI x = 0) : x.op = 4 → x.value = 0 ∨ x.value = 1 := by
  intro h4
  obtain ⟨x0, x1, x2, x3, x4, x5, x6, x7⟩ := x
  obtain rfl : x0 = 4 := h4
  unfold refI at h
  rw [if_neg (show ¬ (!inR 4 1 12) = true by decide)] at h
  split at h
  · cases h
  · split at h
    · cases h
    · next h3 =>
      simp [rngR, memR, inR] at h3
      dsimp only
      omega

theorem line30 {B : Nat} (x : Ins) (w : World) (hT : Tb B w) (hB : B ≤ w.heap.size) (hv : OkL x) :
    Calls Tryd.prog 30 #[x.V] w fun e w' => e = .returned (.string (lineR x)) ∧ Below w.heap.size w w' := by
  obtain ⟨x0, x1, x2, x3, x4, x5, x6, x7⟩ := x
  obtain ⟨ok, hr⟩ := hv
  obtain ⟨hp, hc, hi, hva, hf, hfl⟩ := ok
  simp only at hp hc hi hva hf hfl hr
  by_cases h1 : x0 = 1
  · subst h1
    exact rline_map x1 x2 x3 x4 x5 x6 x7 w hT hB ⟨hp, hc, hi, hva, hf, hfl⟩
  have hp' : -1 ≤ x1 ∧ x1 < 1000 := by omega
  have hc' : -1 ≤ x2 ∧ x2 < 1000 := by omega
  have hi' : -1 ≤ x3 ∧ x3 < 1000 := by omega
  have hva' : -1 ≤ x4 ∧ x4 < 1000 := by omega
  have hf' : -1 ≤ x5 ∧ x5 < 1000 := by omega
  by_cases h2 : x0 = 2
  · subst h2; exact rline_unmap x1 x2 x3 x4 x5 x6 x7 w hT hB ⟨hp', hc'⟩
  by_cases h3 : x0 = 3
  · subst h3; exact rline_protect x1 x2 x3 x4 x5 x6 x7 w hT hB ⟨hp', hc'⟩
  by_cases h4 : x0 = 4
  · subst h4
    by_cases hv1 : x4 = 1
    · subst hv1; exact rline_lock x1 x2 x3 x5 x6 x7 w hT hB ⟨hp', hc'⟩
    · rw [show lineR ⟨4, x1, x2, x3, x4, x5, x6, x7⟩ = joinT ⟨#[117, 110, 108, 111, 99, 107]⟩ [x1, x2] by simp [lineR, hv1]]
      exact rline_unlock x1 x2 x3 x4 x5 x6 x7 w hT hB ⟨hp', hc'⟩ hv1
  by_cases h5 : x0 = 5
  · subst h5; exact rline_load x1 x2 x3 x4 x5 x6 x7 w hT hB ⟨hp', hi'⟩
  by_cases h6 : x0 = 6
  · subst h6; exact rline_store x1 x2 x3 x4 x5 x6 x7 w hT hB ⟨hp', hi', hva'⟩
  by_cases h7 : x0 = 7
  · subst h7; exact rline_read x1 x2 x3 x4 x5 x6 x7 w hT hB ⟨hf', hp', hi'⟩
  by_cases h8 : x0 = 8
  · subst h8; exact rline_write x1 x2 x3 x4 x5 x6 x7 w hT hB ⟨hf', hp', hi', hva'⟩
  by_cases h9 : x0 = 9
  · subst h9; exact rline_truncate x1 x2 x3 x4 x5 x6 x7 w hT hB ⟨hf', hc'⟩
  by_cases h10 : x0 = 10
  · subst h10; exact rline_sync x1 x2 x3 x4 x5 x6 x7 w hT hB hf'
  by_cases h11 : x0 = 11
  · subst h11; exact rline_fork x1 x2 x3 x4 x5 x6 x7 w hT hB hva'
  have hz := rline_exit x0 x1 x2 x3 x4 x5 x6 x7 w (by omega)
  rw [show lineR ⟨x0, x1, x2, x3, x4, x5, x6, x7⟩ = ⟨#[101, 120, 105, 116]⟩ by
    unfold lineR
    rw [if_neg h1, if_neg h2, if_neg h3, if_neg h4, if_neg h5, if_neg h6, if_neg h7, if_neg h8, if_neg h9, if_neg h10, if_neg h11]]
  exact hz

theorem okV_of {xs : List Ins} (h : chkL xs = 0) : ∀ x ∈ xs, OkL x ∧ lineR x = lineT x := fun x hx =>
  have hr := refL_ok h x hx
  ⟨okL_of hr, lineR_T (okL_of hr).ok (value_of hr)⟩
set_option maxRecDepth 100000 in
set_option maxHeartbeats 4000000 in
theorem format17 {B : Nat} (A : Option Addr) (xs : List Ins) (cap : Nat) (w : World) (hT : Tb B w) (hB : B ≤ w.heap.size) (hx : InsAt w A xs) (hn : xs.length ≤ 4611686018427387904) :
    Calls Tryd.prog 17 #[.slice A xs.length cap] w fun e w' => e = .returned (.tuple #[.string (formatT xs).1, .int .i64 (formatT xs).2]) ∧ Below w.heap.size w w' := by
  have HX := Kp.mk hx
  have HT := Kp.mk hT
  clear hx hT
  go_enter Tryd.func17, Tryd.ntmps17
  go_wp2_with fail
  refine (refcheck12 A xs cap _ HX.out hn).mono ?_
  rintro e w2 ⟨rfl, hb⟩
  have HB := Kp.mk hb
  clear hb
  rw [← chkP_ref]
  by_cases hc : chkP xs = 0
  · have HE := Kp.mk (show formatT xs = (fmtT xs, 0) by rw [formatT, if_pos hc])
    have hlen : xs.length ≤ 48 := by
      by_cases h48 : 48 < xs.length
      · simp [chkP, h48] at hc
      · omega
    have HO := Kp.mk (okV_of (xs := xs) (by rw [chkP, if_neg (by omega)] at hc; exact hc))
    rw [hc]
    clear hc
    go_wp2_with fail
    go_loopw [5, 6] (fun s i W => ∃ k : Nat, k ≤ xs.length ∧ i = .int .i64 k ∧ s = .string (fmtT (xs.take k)) ∧ Kp (Below w.heap.size w W)) (fun _ i _ => xs.length - (intOf i).toNat)
    case atStart => exact ⟨0, by omega, rfl, rfl, HB⟩
    case round =>
      clear HB
      obtain ⟨k, hk, rfl, rfl, HB⟩ := hrel
      by_cases hlt : k < xs.length
      · obtain ⟨b, off, rfl, hbl, hr⟩ := (HX.out.below HB.out) (by rintro rfl; simp at hlt)
        have hxk : xs[k]? = some xs[k] := by simp [hlt]
        have HR := Kp.mk (hr k _ hxk)
        have HD := Kp.mk (fmt_take xs k hlt)
        have HO2 := Kp.mk (HO.out xs[k] (by simp))
        have hz1 := fmt_size xs (fun x hx => (HO.out x hx).1) k hk
        have hz2 := lineT_size HO2.out.1
        generalize xs[k] = x at HR HD HO2 hz2
        generalize fmtT (xs.take k) = t at HD hz1 ⊢
        clear hr hxk
        obtain ⟨x0, x1, x2, x3, x4, x5, x6, x7⟩ := x
        have HR := Kp.mk (show wr.rangeAt b (off + k * 8) [.int .i64 x0, .int .i64 x1, .int .i64 x2, .int .i64 x3, .int .i64 x4, .int .i64 x5, .int .i64 x6, .int .i64 x7] from HR.out)
        go_wp2_with (first | ((with_reducible refine gate_dst (N := 22) rfl ?_); go_must (refine wpList_load_mid rfl 36 (.tmp 21) rfl b (off + k * 8) rfl _ _ HR.out Tryd.underlying36 rfl (by kernel_rfl) ?_)) | fail)
        refine (line30 (B := B) ⟨x0, x1, x2, x3, x4, x5, x6, x7⟩ _ (HT.out.on hB HB.out) (by have := HB.out.size; omega) HO2.out.1).mono ?_
        rintro e w4 ⟨rfl, hb⟩
        have HB := Kp.mk (HB.out.trans (hb.mono HB.out.size))
        clear hb HR
        rw [HO2.out.2]
        generalize lineT ⟨x0, x1, x2, x3, x4, x5, x6, x7⟩ = l at HD hz2 ⊢
        go_wp2_with fail
        exact ⟨⟨k + 1, by omega, by congr 1, by rw [HD.out], HB⟩, by simp only [intOf]; omega⟩
      · have HK : Kp (k = xs.length) := ⟨by omega⟩
        have HTk := Kp.mk (show fmtT (xs.take k) = fmtT xs by rw [HK.out, List.take_length])
        go_wp2_with fail
        go_ret2
        exact ⟨by rw [HE.out, HTk.out]; rfl, HB.out⟩
  · have HE := Kp.mk (show formatT xs = (⟨#[]⟩, chkP xs) by rw [formatT, if_neg hc])
    generalize chkP xs = c at HE hc
    have hc' : (c != 0) = true := by simpa using hc
    go_wp2
    go_ret2
    exact ⟨by rw [HE.out]; rfl, HB.out⟩
end Go.Proofs.YtiomnlgnhdhffaaDoor
