/-
  A builder of one's own that holds a text; the memory of program.formatMap. Conditions: none but what each theorem names.
-/
import Derived.Test.YtiomnlgnhdhffaaDoorF2
import Derived.Test.YtiomnlgnhdhffaaDoorP3
namespace Go.Proofs.YtiomnlgnhdhffaaDoor
open Go.RowKit
set_option linter.unusedVariables false

theorem below_grown {w w' : World} (hb : Below w.heap.size w w') (r : Option Nat) : w.grownBy w' r := ⟨hb.os, hb.tape, hb.output, hb.size, fun k hk _ => hb.block k hk⟩
theorem bdAt_next {T e : TypeId} {B b : Nat} {p : Value} {bs : List Value} {w w' : World} (h : Lib.BuilderAt T e B b p bs w) (hb : Below w.heap.size w w') : Lib.BuilderAt T e B b p bs w' := by
  have hlt := h.lt
  obtain ⟨hB, v, hk, hown, hne⟩ := h
  exact ⟨hB, v, (hb.block b hlt).trans hk, hown.kept (below_grown hb (some b)) (.inr hne), hne⟩
/-- Block b is a builder of one's own, its buffer above it; it holds the text t. -/
def BdAt (b : Nat) (t : ByteArray) (W : World) : Prop := Lib.IsBuilder 52 5 b b (Lib.byteCells t.data.toList) W
theorem BdAt.next {b : Nat} {t : ByteArray} {W W' : World} (h : BdAt b t W) (hb : Below W.heap.size W W') : BdAt b t W' := h.imp (fun h => bdAt_next h hb) (fun h => bdAt_next h hb)
theorem BdAt.lt {b : Nat} {t : ByteArray} {W : World} (h : BdAt b t W) : b < W.heap.size := h.elim (·.lt) (·.lt)
theorem BdAt.fresh (W : World) : BdAt W.heap.size ⟨#[]⟩ (W.alloc (.cells #[.pointer none, .slice none 0 0] 52)) := Lib.fresh_isBuilder 52 5 W
theorem cells_append (t s : ByteArray) : Lib.byteCells t.data.toList ++ Lib.strCells s = Lib.byteCells (t ++ s).data.toList := by
  rw [show Lib.strCells s = Lib.byteCells s.data.toList from rfl]
  simp [Lib.byteCells, ByteArray.data_append]
theorem cells_len (t : ByteArray) : (Lib.byteCells t.data.toList).length = t.size := by rw [Lib.byteCells_length]; rfl
theorem write27 {b : Nat} {t : ByteArray} (s : ByteArray) (w : World) (h : BdAt b t w) (hs : t.size + s.size ≤ 1000000) :
    Calls Tryd.prog 27 #[.pointer (some ⟨b, 0, none⟩), .string s] w fun e w' => e = .returned (.tuple #[.int .i64 s.size, .nilIface]) ∧ BdAt b (t ++ s) w' ∧ Below b w w' := by
  refine (writeString27 b b _ s w h (by rw [cells_len]; omega) (Nat.le_of_lt h.lt)).mono ?_
  rintro e w' ⟨rfl, h1, h2⟩
  exact ⟨rfl, by rw [cells_append] at h1; exact h1, h2⟩
theorem string29 {b : Nat} {t : ByteArray} (w : World) (h : BdAt b t w) :
    Calls Tryd.prog 29 #[.pointer (some ⟨b, 0, none⟩)] w fun e w' => e = .returned (.string t) ∧ Below b w w' := by
  refine (Tryd.Builder_String_any b b t.data.toList w h (Nat.le_of_lt h.lt)).mono ?_
  rintro e w' ⟨rfl, h1⟩
  exact ⟨rfl, h1⟩

/-- The memory of a function with an instruction's row X and a builder b. -/
structure FM (w : World) (X b : Nat) (x : Array Value) (t : ByteArray) (W : World) : Prop where
  x : W.heap[X]? = some (.cells x 36 (0, 0))
  bd : BdAt b t W
  lt : X < b
  below : Below w.heap.size w W
  low : w.heap.size ≤ X
theorem FM.next {w W W' : World} {X b : Nat} {x : Array Value} {t : ByteArray} (h : FM w X b x t W) (hb : Below W.heap.size W W') : FM w X b x t W' :=
  ⟨(hb.block X (lt_of_block h.x)).trans h.x, h.bd.next hb, h.lt, h.below.trans (hb.mono (h.below.size)), h.low⟩
theorem FM.write {w W W' : World} {X b : Nat} {x : Array Value} {t s : ByteArray} (h : FM w X b x t W) (hb : Below b W W') (hd : BdAt b s W') : FM w X b x s W' :=
  ⟨(hb.block X h.lt).trans h.x, hd, h.lt, h.below.trans (hb.mono (by have := h.lt; have := h.low; omega)), h.low⟩
theorem FM.cells {w W : World} {X b : Nat} {x0 x1 x2 x3 x4 x5 x6 x7 : Int} {t : ByteArray} (h : FM w X b (c8 x0 x1 x2 x3 x4 x5 x6 x7) t W) : W.cell? ⟨X, 0, none⟩ = some (.int .i64 x0) ∧ W.cell? ⟨X, 1, none⟩ = some (.int .i64 x1) ∧ W.cell? ⟨X, 2, none⟩ = some (.int .i64 x2) ∧ W.cell? ⟨X, 3, none⟩ = some (.int .i64 x3) ∧
    W.cell? ⟨X, 4, none⟩ = some (.int .i64 x4) ∧ W.cell? ⟨X, 5, none⟩ = some (.int .i64 x5) ∧ W.cell? ⟨X, 6, none⟩ = some (.int .i64 x6) ∧ W.cell? ⟨X, 7, none⟩ = some (.int .i64 x7) := by
  refine ⟨?_, ?_, ?_, ?_, ?_, ?_, ?_, ?_⟩ <;> · rw [cell_of_row _ _ _ _ _ _ h.x]; rfl
theorem FM.start (w : World) (x : Array Value) : FM w w.heap.size (w.heap.size + 1) x ⟨#[]⟩ ((w.alloc (.cells x 36)).alloc (.cells #[.pointer none, .slice none 0 0] 52)) :=
  ⟨heap_keep (heap_at rfl _) _, by have := BdAt.fresh (w.alloc (.cells x 36)); rwa [World.size_alloc] at this, by omega, ((Below.refl _ _).alloc (Nat.le_refl _) _).alloc (by simp) _, Nat.le_refl _⟩
theorem FM.grow {w W : World} {X b : Nat} {x : Array Value} {t : ByteArray} (h : FM w X b x t W) : FM w X b x t W.drew := h.next ⟨rfl, rfl, rfl, Nat.le_refl _, fun _ _ => rfl⟩

def pageT (p : Int) : ByteArray := if p = -1 then ⟨#[97, 110, 121]⟩ else numT p
def flT (f : Int) (t : ByteArray) : Nat → ByteArray
  | 0 => t
  | k + 1 => if (bits BinOp.and IntKind.i64 (f / 2 ^ k) 1 == 1) = true then flT f t k ++ (⟨#[32]⟩ ++ bstr (flagW k)) else flT f t k
theorem flT_no {f : Int} {t : ByteArray} {k : Nat} (h : (bits BinOp.and IntKind.i64 (f / 2 ^ k) 1 == 1) = false) : flT f t (k + 1) = flT f t k := by simp [flT, h]
theorem flT_yes {f : Int} {t : ByteArray} {k : Nat} (h : (bits BinOp.and IntKind.i64 (f / 2 ^ k) 1 == 1) = true) : flT f t (k + 1) = flT f t k ++ (⟨#[32]⟩ ++ bstr (flagW k)) := by simp [flT, h]
theorem flag_size (k : Nat) : (bstr (flagW k)).size ≤ 6 := by
  rw [bstr_size]
  match k with
  | 0 => decide
  | 1 => decide
  | 2 => decide
  | k + 3 => simp [flagW]
theorem flT_size (f : Int) (t : ByteArray) : ∀ k, (flT f t k).size ≤ t.size + 7 * k
  | 0 => by simp [flT]
  | k + 1 => by
    have ih := flT_size f t k
    have := flag_size k
    rw [flT]
    split
    · simp only [ByteArray.size_append, ByteArray.size_mk', List.size_toArray, List.length_singleton]; omega
    · omega
def mapT (x : Ins) : ByteArray :=
  let a := ((⟨#[]⟩ : ByteArray) ++ ⟨#[109, 97, 112, 32]⟩ ++ pageT x.page) ++ (⟨#[32]⟩ ++ numT x.count ++ ⟨#[32]⟩ ++ protT x.prot)
  let f := flT x.flags a 4
  if x.file = -1 then f else f ++ (⟨#[32, 102, 105, 108, 101, 32]⟩ ++ numT x.file ++ ⟨#[32]⟩ ++ numT x.index)
end Go.Proofs.YtiomnlgnhdhffaaDoor
