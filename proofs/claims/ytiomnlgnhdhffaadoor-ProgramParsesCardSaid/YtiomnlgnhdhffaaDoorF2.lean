/-
  The texts of numbers: strconv.Itoa, program.formatProt, program.join. Conditions: the numbers are of three digits at most; the table reads as listed.
-/
import Derived.Test.YtiomnlgnhdhffaaDoorF1
import Derived.Lib.AppendIntMem
namespace Go.Proofs.YtiomnlgnhdhffaaDoor
open Go.RowKit
set_option linter.unusedVariables false

def Tb (B : Nat) (w : World) : Prop := Lib.TabBelow Tryd.prog B w "internal/strconv.uint64pow10" .u64 Lib.pow10Tab
theorem Tb.on {B B' : Nat} {w w' : World} (h : Tb B w) (hB : B ≤ B') (hb : Below B' w w') : Tb B w' := Lib.TabBelow.on h (hb.mono hB)
def numT (n : Int) : ByteArray := bstr (Lib.itoa n)
theorem dec_len (k : Nat) : ∀ u : Nat, u < 10 ^ (k + 1) → (Lib.decDigits u).length ≤ k + 1 := by
  induction k with
  | zero => intro u hu; rw [Lib.decDigits, dif_pos (by omega)]; simp
  | succ k ih =>
    intro u hu
    rw [Lib.decDigits]
    split
    · simp
    · have := ih (u / 10) (by have : 10 ^ (k + 1 + 1) = 10 ^ (k + 1) * 10 := Nat.pow_succ ..; omega)
      simp; omega
theorem num_size {n : Int} (h0 : 0 ≤ n) (h1 : n < 1000) : (numT n).size ≤ 3 := by
  unfold numT
  rw [bstr_size, Lib.itoa, if_neg (by omega)]
  exact dec_len 2 _ (by omega)
theorem itoa61 {n : Int} (h0 : 0 ≤ n) (h1 : n < 1000) {B : Nat} (w : World) (hT : Tb B w) :
    Calls Tryd.prog 61 #[.int .i64 n] w fun e w' => e = .returned (.string (numT n)) ∧ Below w.heap.size w w' := by
  refine (Tryd.strconv_Itoa n (by omega) (by omega) w hT.here).mono ?_
  rintro e w' ⟨rfl, k, os, rfl⟩
  exact ⟨rfl, Lib.below_grow _ _ (Nat.le_refl _) _ _⟩
def protT (n : Int) : ByteArray := if n = 1 then ⟨#[114]⟩ else ⟨#[114, 119]⟩
theorem prot_size (n : Int) : (protT n).size ≤ 2 := by unfold protT; split <;> decide

set_option maxRecDepth 100000 in
theorem formatProt48 (n : Int) (w : World) : Calls Tryd.prog 48 #[.int .i64 n] w fun e w' => e = .returned (.string (protT n)) ∧ w' = w := by
  by_cases h : n = 1
  · go_enter Tryd.func48, Tryd.ntmps48
    go_wp2
    go_ret
    exact ⟨by rw [protT, if_pos h]; rfl, rfl⟩
  · go_enter Tryd.func48, Tryd.ntmps48
    go_wp2
    go_ret
    exact ⟨by rw [protT, if_neg h]; rfl, rfl⟩

def joinT (s : ByteArray) (ns : List Int) : ByteArray := ns.foldl (fun a n => a ++ (⟨#[32]⟩ ++ numT n)) s
theorem join_size (ns : List Int) (h : ∀ n ∈ ns, 0 ≤ n ∧ n < 1000) (s : ByteArray) : (joinT s ns).size ≤ s.size + 4 * ns.length := by
  induction ns generalizing s with
  | nil => simp [joinT]
  | cons n t ih =>
    have := ih (fun m hm => h m (List.mem_cons_of_mem _ hm)) (s ++ (⟨#[32]⟩ ++ numT n))
    have h2 := num_size (h n (by simp)).1 (h n (by simp)).2
    simp only [joinT, List.foldl_cons] at this ⊢
    simp only [ByteArray.size_append] at this
    have : (ByteArray.mk #[32]).size = 1 := rfl
    simp only [List.length_cons]
    omega
theorem join_take (s : ByteArray) (ns : List Int) (k : Nat) (h : k < ns.length) : joinT s (ns.take (k + 1)) = joinT s (ns.take k) ++ (⟨#[32]⟩ ++ numT ns[k]) := by
  unfold joinT
  rw [List.take_succ_eq_append_getElem h, List.foldl_append]
  rfl
def IntsAt (w : World) (b : Nat) (ns : List Int) : Prop := b < w.heap.size ∧ ∀ j n, ns[j]? = some n → w.cell? ⟨b, j, none⟩ = some (.int .i64 n)
theorem IntsAt.below {w w' : World} {b : Nat} {ns : List Int} (h : IntsAt w b ns) (hb : Below w.heap.size w w') : IntsAt w' b ns :=
  ⟨Nat.lt_of_lt_of_le h.1 hb.size, fun j n hj => (hb.cell (p := ⟨b, j, none⟩) h.1).trans (h.2 j n hj)⟩

set_option maxRecDepth 100000 in
set_option maxHeartbeats 4000000 in
theorem join47 {B : Nat} (s : ByteArray) (ns : List Int) (b cap : Nat) (w : World) (hT : Tb B w) (hB : B ≤ w.heap.size) (hb : IntsAt w b ns) (hs : s.size ≤ 1000) (hn : ns.length ≤ 10) (hv : ∀ n ∈ ns, 0 ≤ n ∧ n < 1000) :
    Calls Tryd.prog 47 #[.string s, .slice (some ⟨b, 0, none⟩) ns.length cap] w fun e w' => e = .returned (.string (joinT s ns)) ∧ Below w.heap.size w w' := by
  have HT := Kp.mk hT
  have HI := Kp.mk hb
  have HV := Kp.mk hv
  clear hT hb hv
  go_enter Tryd.func47, Tryd.ntmps47
  go_wp2
  go_loopw [0, 9] (fun x i wr => ∃ k : Nat, k ≤ ns.length ∧ i = .int .i64 k ∧ x = .string (joinT s (ns.take k)) ∧ Kp (Below w.heap.size w wr)) (fun _ i _ => ns.length - (intOf i).toNat)
  case atStart => exact ⟨0, by omega, rfl, by simp [joinT], ⟨Below.refl _ _⟩⟩
  case round =>
    obtain ⟨k, hk, rfl, rfl, HB⟩ := hrel
    have hsz := join_size (ns.take k) (fun n hm => HV.out n (List.mem_of_mem_take hm)) s
    rw [List.length_take, Nat.min_eq_left hk] at hsz
    by_cases hlt : k < ns.length
    · have HE := Kp.mk (join_take s ns k hlt)
      have hc : wr.cell? ⟨b, k, none⟩ = some (.int .i64 ns[k]) := (HI.out.below HB.out).2 k _ (by simp [hlt])
      have hb2 := HV.out ns[k] (by simp)
      generalize ns[k] = n at HE hc hb2
      generalize joinT s (ns.take k) = t at HE hsz ⊢
      obtain ⟨hb3, hb4⟩ := hb2
      have hz := num_size hb3 hb4
      go_wp2_with fail
      refine (itoa61 hb3 hb4 wr (HT.out.on hB HB.out)).mono ?_
      rintro e w2 ⟨rfl, hb5⟩
      have HB2 := Kp.mk (HB.out.trans (hb5.mono HB.out.size))
      clear hb5 HB hc
      go_wp2
      go_roundw
      case rel => exact ⟨k + 1, by omega, by go_num, by rw [HE.out], HB2⟩
      case measure => simp [intOf]; omega
    · obtain rfl : k = ns.length := by omega
      rw [List.take_length]
      go_wp2
      go_ret
      exact ⟨rfl, HB.out⟩
end Go.Proofs.YtiomnlgnhdhffaaDoor
