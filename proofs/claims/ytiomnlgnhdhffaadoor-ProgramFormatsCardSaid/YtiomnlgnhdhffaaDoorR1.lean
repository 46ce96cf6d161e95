/-
  The walks of the reference's words and rights. Conditions: the numbers are -1 or of three digits at most; the table reads as listed.
-/
import Derived.Test.YtiomnlgnhdhffaaDoorF6
namespace Go.Proofs.YtiomnlgnhdhffaaDoor
open Go.RowKit
set_option linter.unusedVariables false

theorem num_size5 {n : Int} (h0 : -1 ≤ n) (h1 : n < 1000) : (numT n).size ≤ 3 := by
  by_cases h : n = -1
  · subst h
    unfold numT
    rw [bstr_size, Lib.itoa, if_pos (by decide)]
    have := dec_len 0 (-1 : Int).natAbs (by decide)
    simp only [List.length_cons]
    omega
  · exact num_size (by omega) h1
theorem itoa61b {n : Int} (h0 : -1 ≤ n) (h1 : n < 1000) {B : Nat} (w : World) (hT : Tb B w) :
    Calls Tryd.prog 61 #[.int .i64 n] w fun e w' => e = .returned (.string (numT n)) ∧ Below w.heap.size w w' := by
  refine (Tryd.strconv_Itoa n (by omega) (by omega) w hT.here).mono ?_
  rintro e w' ⟨rfl, k, os, rfl⟩
  exact ⟨rfl, Lib.below_grow _ _ (Nat.le_refl _) _ _⟩
theorem join_size5 (ns : List Int) (h : ∀ n ∈ ns, -1 ≤ n ∧ n < 1000) (s : ByteArray) : (joinT s ns).size ≤ s.size + 4 * ns.length := by
  induction ns generalizing s with
  | nil => simp [joinT]
  | cons n t ih =>
    have := ih (fun m hm => h m (List.mem_cons_of_mem _ hm)) (s ++ (⟨#[32]⟩ ++ numT n))
    have h2 := num_size5 (h n (by simp)).1 (h n (by simp)).2
    simp only [joinT, List.foldl_cons] at this ⊢
    simp only [ByteArray.size_append] at this
    have : (ByteArray.mk #[32]).size = 1 := rfl
    simp only [List.length_cons]
    omega
def rightT (n : Int) : ByteArray := if n = 1 then ⟨#[32, 114]⟩ else ⟨#[32, 114, 119]⟩
theorem right_size (n : Int) : (rightT n).size ≤ 3 := by unfold rightT; split <;> decide
set_option maxRecDepth 100000 in
theorem rights51 (n : Int) (w : World) : Calls Tryd.prog 51 #[.int .i64 n] w fun e w' => e = .returned (.string (rightT n)) ∧ w' = w := by
  by_cases h : n = 1
  · go_enter Tryd.func51, Tryd.ntmps51
    go_wp2
    go_ret
    exact ⟨by rw [rightT, if_pos h]; rfl, rfl⟩
  · go_enter Tryd.func51, Tryd.ntmps51
    go_wp2
    go_ret
    exact ⟨by rw [rightT, if_neg h]; rfl, rfl⟩

set_option maxRecDepth 100000 in
set_option maxHeartbeats 4000000 in
theorem words50 {B : Nat} (s : ByteArray) (ns : List Int) (b cap : Nat) (w : World) (hT : Tb B w) (hB : B ≤ w.heap.size) (hb : IntsAt w b ns) (hs : s.size ≤ 1000) (hn : ns.length ≤ 10) (hv : ∀ n ∈ ns, -1 ≤ n ∧ n < 1000) :
    Calls Tryd.prog 50 #[.string s, .slice (some ⟨b, 0, none⟩) ns.length cap] w fun e w' => e = .returned (.string (joinT s ns)) ∧ Below w.heap.size w w' := by
  have HT := Kp.mk hT
  have HI := Kp.mk hb
  have HV := Kp.mk hv
  clear hT hb hv
  go_enter Tryd.func50, Tryd.ntmps50
  go_wp2
  go_loopw [0, 5] (fun x i wr => ∃ k : Nat, k ≤ ns.length ∧ i = .int .i64 k ∧ x = .string (joinT s (ns.take k)) ∧ Kp (Below w.heap.size w wr)) (fun _ i _ => ns.length - (intOf i).toNat)
  case atStart => exact ⟨0, by omega, rfl, by simp [joinT], ⟨Below.refl _ _⟩⟩
  case round =>
    obtain ⟨k, hk, rfl, rfl, HB⟩ := hrel
    have hsz := join_size5 (ns.take k) (fun n hm => HV.out n (List.mem_of_mem_take hm)) s
    rw [List.length_take, Nat.min_eq_left hk] at hsz
    by_cases hlt : k < ns.length
    · have HE := Kp.mk (join_take s ns k hlt)
      have hc : wr.cell? ⟨b, k, none⟩ = some (.int .i64 ns[k]) := (HI.out.below HB.out).2 k _ (by simp [hlt])
      have hb2 := HV.out ns[k] (by simp)
      generalize ns[k] = n at HE hc hb2
      generalize joinT s (ns.take k) = t at HE hsz ⊢
      obtain ⟨hb3, hb4⟩ := hb2
      have hz := num_size5 hb3 hb4
      go_wp2_with fail
      refine (itoa61b hb3 hb4 wr (HT.out.on hB HB.out)).mono ?_
      rintro e w2 ⟨rfl, hb5⟩
      have HB2 := Kp.mk (HB.out.trans (hb5.mono HB.out.size))
      clear hb5 HB hc
      go_wp2
      go_roundw
      case rel => exact ⟨k + 1, by omega, by go_num, by rw [HE.out], HB2⟩
      case measure => simp [intOf]; omega
    · obtain rfl : k = ns.length := by omega
      rw [List.take_length]
      go_wp2
      go_ret
      exact ⟨rfl, HB.out⟩

def flR (f : Int) (t : ByteArray) : Nat → ByteArray
  | 0 => t
  | k + 1 => if f / 2 ^ k % 2 = 1 then flR f t k ++ (⟨#[32]⟩ ++ bstr (flagW k)) else flR f t k
theorem flR_size (f : Int) (t : ByteArray) : ∀ k, (flR f t k).size ≤ t.size + 7 * k
  | 0 => by simp [flR]
  | k + 1 => by
    have ih := flR_size f t k
    have := flag_size k
    rw [flR]
    split
    · simp only [ByteArray.size_append, ByteArray.size_mk', List.size_toArray, List.length_singleton]; omega
    · omega
def mapR (x : Ins) : ByteArray :=
  let o := if x.page < 0 then joinT ⟨#[109, 97, 112, 32, 97, 110, 121]⟩ [x.count] else joinT ⟨#[109, 97, 112]⟩ [x.page, x.count]
  if x.file ≥ 0 then flR x.flags (o ++ rightT x.prot) 4 ++ joinT ⟨#[32, 102, 105, 108, 101]⟩ [x.file, x.index] else flR x.flags (o ++ rightT x.prot) 4
end Go.Proofs.YtiomnlgnhdhffaaDoor
