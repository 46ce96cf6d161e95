/-
  A range over an iterator that keeps a state of its own in a cell (strings.SplitSeq): the iterator's contract asks of the caller's word that it abides a turn of that block; the loop's law over it, in a round and outside. Conditions: none but what each theorem names.
-/
import Derived.RangeFuncNested
import Derived.RangeFuncBound
import Derived.RangeFuncCalls
import Derived.RangeFuncLeaves
namespace Go.Proofs.YtiomnlgnhdhffaaDoor
open Go Go.RowKit
set_option linter.unusedVariables false
section
variable {F : Fence} {n : Nat} {P : Program} {α : Type}

/-- The word J abides a turn of block b. -/
def AbidesRow {β : Type} (b : Nat) (J : β → World → Prop) : Prop := ∀ s A B, J s A → A.grownBy B (some b) → J s B
theorem AbidesRow.and {β : Type} {b : Nat} {I J : β → World → Prop} (h : AbidesRow b I) (h' : AbidesRow b J) : AbidesRow b (fun s W => I s W ∧ J s W) := fun s A B hs hg => ⟨h s A B hs.1 hg, h' s A B hs.2 hg⟩

/-- The contract of an iterator whose state lies in block b. -/
def SeqStopsB (F : Fence) (n : Nat) (P : Program) (g : Nat) (lb : Array Value) (encs : α → Array Value) (Kp : World → World → Prop) (xs : List α) (b : Nat) (w : World) : Prop :=
  ∀ (l : Nat) (J Jx : List α → World → Prop) (W : World), Below w.heap.size w W → AbidesRow b J →
    (∀ pre x W1, J pre W1 → pre ++ [x] <+: xs → YieldAt F (n - 1) P l (encs x) W1 fun e W' =>
      (e = .returned (.bool true) ∧ J (pre ++ [x]) W' ∧ Kp W1 W') ∨ (e = .returned (.bool false) ∧ Jx (pre ++ [x]) W')) →
    J [] W →
    CallsIn F n P g (#[.func (.yield l) #[] #[]] ++ lb) W fun e W' => (∃ v, e = .returned v) ∧ (J xs W' ∨ (∃ pre, pre <+: xs ∧ Jx pre W'))

/-- What the loop's two laws share: the record at l, the block for deferred calls at d if there is one. -/
structure LoopAt (l : Nat) (d : Option Nat) (r : Loop) (W : World) : Prop where
  rcd : W.heap[l]? = some (.loop r)
  defd : ∀ D, d = some D → W.heap[D]? = some (.deferred (some []))
theorem LoopAt.turn {l : Nat} {d : Option Nat} {r r' : Loop} {W : World} (h : LoopAt l d r W) (hd : d ≠ some l) : LoopAt l d r' (W.putObj l (.loop r')) :=
  ⟨World.putObj_heap_same (Array.getElem?_eq_some_iff.1 h.rcd).1, fun D hD => (World.putObj_heap_other (fun e => hd (by rw [hD, e]))).trans (h.defd D hD)⟩
theorem LoopAt.keep {l B : Nat} {d : Option Nat} {r : Loop} {W W' : World} (h : LoopAt l d r W) (hl : B ≤ l) (hd : ∀ D, d = some D → B ≤ D) (hk : KeepsFrom B W W') : LoopAt l d r W' :=
  ⟨hk.same _ _ hl h.rcd rfl, fun D hD => hk.same _ _ (hd D hD) (h.defd D hD) rfl⟩
theorem LoopAt.row {l b : Nat} {d : Option Nat} {r : Loop} {A B : World} (h : LoopAt l d r A) (hl : l ≠ b) (hd : ∀ D, d = some D → D ≠ b) (hg : A.grownBy B (some b)) : LoopAt l d r B :=
  ⟨(hg.block l (Array.getElem?_eq_some_iff.1 h.rcd).1 (fun e => hl (Option.some.inj e))).trans h.rcd, fun D hD => (hg.block D (Array.getElem?_eq_some_iff.1 (h.defd D hD)).1 (fun e => hd D hD (Option.some.inj e))).trans (h.defd D hD)⟩

theorem yield_one {r : Loop} {l B m : Nat} {d : Option Nat} {args : Array Value} (hfn : F.fn r.fn) (hst : r.state = .ready) (hpe : r.pending = none) (hl : B ≤ l) (hd : ∀ D, d = some D → B ≤ D) (hdl : d ≠ some l) (hsz : args.size = r.params.size)
    {Kp : World → World → Prop} (hKt : ∀ {A B C : World}, Kp A B → Kp B C → Kp A C) (hKb : ∀ (W : World) (l : Nat) (o o' : Obj), B ≤ l → W.heap[l]? = some o → o.isCells = false → o.isWalk = false → Kp W (W.putObj l o'))
    {I : List α → World → Prop} {Ix : Code → List α → World → Prop} (hI : OwnFrom B I) (hIx : ∀ c, OwnFrom B (Ix c)) {pre : List α} {x : α} {W : World} (hL : LoopAt l d r W) (hi : I pre W) (a1 : Act)
    (hassign : ∀ K : Act → World → Prop, K a1 W → r.assign.wpIn (F.inRound l) m P (Exit.then K (fun _ _ _ => False)) { tmps := (r.params.zip args).foldl (fun t (p, v) => t.setIfInBounds p v) r.tmps, defers := [] } W)
    (hbody : ∀ W2, (∃ r', W2.heap[l]? = some (.loop r')) → I pre W2 → r.body.wpIn (F.inRound l) m P (ownPostG B Kp I Ix (pre ++ [x]) W2) a1 W2) :
    YieldAt F m P l args W fun e W' => (e = .returned (.bool true) ∧ (I (pre ++ [x]) W' ∧ LoopAt l d r W') ∧ Kp W W') ∨ (e = .returned (.bool false) ∧ ∃ c, Ix c (pre ++ [x]) W' ∧ LoopAt l d { r with state := .done, pending := some c } W') := by
  refine ⟨_, _, _, _, run_yield hL.rcd hsz, roundIn_of_wpIn hfn (hassign _ ⟨_, run_beginRound hL.rcd hst, ?_⟩)⟩
  have hL2 := hL.turn (r' := { r with state := .busy }) hdl
  have hi2 := hI.putObj (.loop { r with state := .busy }) hi hl hL.rcd rfl
  have hk2 : Kp W (W.putObj l (.loop { r with state := .busy })) := hKb _ _ _ _ hl hL.rcd rfl rfl
  refine wpIn_mono (hbody _ ⟨_, hL2.rcd⟩ hi2) ?_
  have fin : ∀ (jump : Option Code) (W3 : World), KeepsFrom B (W.putObj l (.loop { r with state := .busy })) W3 →
      (Instr.endRound l jump).run P W3 = .ok (.bool jump.isNone) (W3.putObj l (.loop { r with state := if jump.isNone then .ready else .done, pending := jump })) ∧ LoopAt l d { r with state := .busy } W3 := fun jump W3 hk3 => by
    have h3 := hL2.keep hl hd hk3
    have h4 := run_endRound (P := P) jump h3.rcd
    exact ⟨h4, h3⟩
  have hr0 : { r with state := LoopState.ready, pending := none } = r := by
    cases r
    simp only at hst hpe
    subst hst hpe
    rfl
  rintro e a3 W3 hp
  cases e with
  | normal =>
    obtain ⟨hk3, hkp3, hi3⟩ := hp
    obtain ⟨hr, hl3⟩ := fin none W3 hk3
    have ht := hl3.turn (r' := { r with state := LoopState.ready, pending := none }) hdl
    have hi4 := hI.putObj (.loop { r with state := LoopState.ready, pending := none }) hi3 hl hl3.rcd rfl
    rw [hr0] at ht hi4
    refine ⟨_, _, hr, .inl ⟨rfl, ⟨?_, ?_⟩, hKt (hKt hk2 hkp3) (hKb _ _ _ _ hl hl3.rcd rfl rfl)⟩⟩
    · simpa [hr0] using hi4
    · simpa [hr0] using ht
  | ret =>
    obtain ⟨hk3, hi3⟩ := hp
    obtain ⟨hr, hl3⟩ := fin (some .ret) W3 hk3
    exact ⟨_, _, hr, .inr ⟨rfl, .ret, (hIx _).putObj _ hi3 hl hl3.rcd rfl, hl3.turn hdl⟩⟩
  | exit id =>
    obtain ⟨hk3, hi3⟩ := hp
    obtain ⟨hr, hl3⟩ := fin (some (.exit id)) W3 hk3
    exact ⟨_, _, hr, .inr ⟨rfl, .exit id, (hIx _).putObj _ hi3 hl hl3.rcd rfl, hl3.turn hdl⟩⟩
  | goto t =>
    obtain ⟨hk3, hi3⟩ := hp
    obtain ⟨hr, hl3⟩ := fin (some (.goto t)) W3 hk3
    exact ⟨_, _, hr, .inr ⟨rfl, .goto t, (hIx _).putObj _ hi3 hl hl3.rcd rfl, hl3.turn hdl⟩⟩
  | panic ch => exact hp.elim
  | outgrown => exact hp.elim

theorem rounds_all {r : Loop} {w W1 : World} {gf : Nat} {lb : Array Value} {encs : α → Array Value} {Kp : World → World → Prop} {xs : List α} {b l : Nat} {d : Option Nat}
    (hseq : SeqStopsB F n P gf lb encs Kp xs b w) (hfn : F.fn r.fn) (hst : r.state = .ready) (hpe : r.pending = none) (hl : w.heap.size ≤ l) (hd : ∀ D, d = some D → w.heap.size ≤ D) (hdl : d ≠ some l) (hb : b < w.heap.size)
    (hKt : ∀ {A B C : World}, Kp A B → Kp B C → Kp A C) (hKb : ∀ (W : World) (l : Nat) (o o' : Obj), w.heap.size ≤ l → W.heap[l]? = some o → o.isCells = false → o.isWalk = false → Kp W (W.putObj l o'))
    (hps : ∀ x, (encs x).size = r.params.size) (hW : Below w.heap.size w W1) (hL : LoopAt l d r W1)
    {I : List α → World → Prop} {Ix : Code → List α → World → Prop} (hI : OwnFrom w.heap.size I) (hIb : AbidesRow b I) (hIx : ∀ c, OwnFrom w.heap.size (Ix c)) (h0 : I [] W1) (a1 : α → Act)
    (hassign : ∀ (x : α) (W : World) (K : Act → World → Prop), K (a1 x) W → r.assign.wpIn (F.inRound l) (n - 1) P (Exit.then K (fun _ _ _ => False)) { tmps := (r.params.zip (encs x)).foldl (fun t (p, v) => t.setIfInBounds p v) r.tmps, defers := [] } W)
    (hbody : ∀ (pre : List α) (x : α) (W : World), (∃ r', W.heap[l]? = some (.loop r')) → I pre W → pre ++ [x] <+: xs → r.body.wpIn (F.inRound l) (n - 1) P (ownPostG w.heap.size Kp I Ix (pre ++ [x]) W) (a1 x) W) :
    CallsIn F n P gf (#[.func (.yield l) #[] #[]] ++ lb) W1 fun e W' => (∃ v, e = .returned v) ∧
      ((I xs W' ∧ LoopAt l d r W') ∨ (∃ pre, pre <+: xs ∧ ∃ c, Ix c pre W' ∧ LoopAt l d { r with state := .done, pending := some c } W')) :=
  hseq l (fun pre W => I pre W ∧ LoopAt l d r W) (fun pre W => ∃ c, Ix c pre W ∧ LoopAt l d { r with state := .done, pending := some c } W) W1 hW
    (fun s A B hs hg => ⟨hIb s A B hs.1 hg, hs.2.row (by omega) (fun D hD => by have := hd D hD; omega) hg⟩)
    (fun pre x W hJ hlen => yield_one (Kp := Kp) (pre := pre) (x := x) (W := W) hfn hst hpe hl hd hdl (hps x) hKt hKb hI hIx hJ.2 hJ.1 (a1 x) (hassign x W) (fun W2 h2 hi2 => hbody pre x W2 h2 hi2 hlen))
    ⟨h0, hL⟩

theorem Loop.ready_done {r : Loop} {l : Nat} {d : Option Nat} {W : World} (hst : r.state = .ready) (hpe : r.pending = none) (hL : LoopAt l d r W) : (Instr.endLoop l).run P W = .ok none (W.putObj l (.loop { r with state := .exhausted, pending := none })) := by
  have := run_endLoop (P := P) hL.rcd (by rw [hst]; simp)
  rw [hpe] at this
  exact this

/-- THE LAW, OUTSIDE A ROUND. -/
theorem wpIn_rangeB_out {g : Operand} {ps : Array Tmp} {assign body : Code} {Q : Exit → Act → World → Prop} {a : Act} {w : World} (hro : F.round = none) (h1 : 1 ≤ n)
    {gf : Nat} {lb : Array Value} (hg : a.eval g = .func (.func gf) #[] lb) (hFg : F.fn gf) (eg : ∀ args w, (callFunc gf args).run P w = .ok (.enter gf args) w)
    {encs : α → Array Value} {Kp : World → World → Prop} {xs : List α} {b : Nat} (hb : b < w.heap.size) (hseq : SeqStopsB F (n - 1) P gf lb encs Kp xs b w)
    (hKt : ∀ {A B C : World}, Kp A B → Kp B C → Kp A C) (hKb : ∀ (W : World) (l : Nat) (o o' : Obj), w.heap.size ≤ l → W.heap[l]? = some o → o.isCells = false → o.isWalk = false → Kp W (W.putObj l o')) (hps : ∀ x, (encs x).size = ps.size)
    (I : List α → World → Prop) (Ix : Code → List α → World → Prop) (hI : OwnFrom w.heap.size I) (hIb : AbidesRow b I) (hIx : ∀ c, OwnFrom w.heap.size (Ix c)) (h0 : I [] w) (a1 : α → Act)
    (hassign : ∀ (l : Nat) (x : α) (W : World) (K : Act → World → Prop), K (a1 x) W → assign.wpIn (F.inRound l) (n - 1 - 1) P (Exit.then K (fun _ _ _ => False)) { tmps := (ps.zip (encs x)).foldl (fun t (p, v) => t.setIfInBounds p v) a.tmps, defers := [] } W)
    (hbody : ∀ (l : Nat) (pre : List α) (x : α) (W : World), w.heap.size ≤ l → (∃ r', W.heap[l]? = some (.loop r')) → I pre W → pre ++ [x] <+: xs → body.wpIn (F.inRound l) (n - 1 - 1) P (ownPostG w.heap.size Kp I Ix (pre ++ [x]) W) (a1 x) W)
    (hdone : ∀ (D : Nat) (W : World), w.heap.size ≤ D → I xs W → W.heap[D]? = some (.deferred (some [])) → Q .normal { a with defers := { target := .collected D, args := #[] } :: a.defers } W)
    (hstop : ∀ (D : Nat) (c : Code) (pre : List α) (W : World), w.heap.size ≤ D → pre <+: xs → Ix c pre W → W.heap[D]? = some (.deferred (some [])) → c.wpIn F n P Q { a with defers := { target := .collected D, args := #[] } :: a.defers } W) :
    (Code.rangeFunc g ps assign body).wpIn F n P Q a w := by
  refine wpIn_rangeFunc ?_
  intro fn hfn
  rw [hro]
  obtain ⟨r, hr⟩ : ∃ r : Loop, r = { state := .ready, pending := none, fn := fn, tmps := a.tmps, params := ps, assign := assign, body := body, defers := w.heap.size } := ⟨_, rfl⟩
  have hL1 : LoopAt (w.heap.size + 1) (some w.heap.size) r ((w.alloc (.deferred (some []))).alloc (.loop r)) := by
    refine ⟨?_, fun D hD => ?_⟩
    · have := World.alloc_heap_new (w.alloc (.deferred (some []))) (.loop r)
      rwa [World.size_alloc] at this
    · cases hD
      exact (Below.heap_alloc _ _ _ (by simp)).trans (World.alloc_heap_new w _)
  refine ⟨w.heap.size + 1, [{ target := .collected w.heap.size, args := #[] }], ((w.alloc (.deferred (some []))).alloc (.loop r)), { target := .fn (.func gf) lb, args := #[.func (.yield (w.heap.size + 1)) #[] #[]] }, ((w.alloc (.deferred (some []))).alloc (.loop r)), gf,
    #[.func (.yield (w.heap.size + 1)) #[] #[]] ++ lb, (w.alloc (.deferred (some []))).alloc (.loop r), ?_, ?_, ?_, ?_, fun _ => h1, ?_⟩
  · rw [hr]; exact run_enterLoop_outer _ _ _ _ _
  · simp only [resolve, hg]
    simp [go_sem]
  · intro f' hf'; simp [Target.leads] at hf'; subst hf'; exact hFg
  · simp [invoke, go_sem, eg]
  · have hfn' : F.fn r.fn := by rw [hr]; exact hfn
    have hst : r.state = .ready := by rw [hr]
    have hpe : r.pending = none := by rw [hr]
    refine (rounds_all hseq hfn' hst hpe (Nat.le_succ _) (fun D hD => by cases hD; exact Nat.le_refl _) (by simp) hb hKt hKb (by rw [hr]; exact hps) (((Below.refl _ w).alloc (Nat.le_refl _) _).alloc (by simp) _) hL1 hI hIb hIx (hI.alloc _ (hI.alloc _ h0)) a1
      (by rw [hr]; exact fun x W K hK => hassign _ x W K hK) (by rw [hr]; exact fun pre x W h2 hi hlen => hbody _ pre x W (Nat.le_succ _) h2 hi hlen)).mono ?_
    rintro e W2 ⟨⟨v, rfl⟩, (⟨hi, hL2⟩ | ⟨pre, hSp, c, hi, hL2⟩)⟩
    · exact ⟨none, _, Loop.ready_done hst hpe hL2, hdone _ _ (Nat.le_refl _) (hI.putObj _ hi (Nat.le_succ _) hL2.rcd rfl) ((World.putObj_heap_other (by omega)).trans (hL2.defd _ rfl))⟩
    · exact ⟨some c, _, run_endLoop hL2.rcd (by simp), hstop _ c pre _ (Nat.le_refl _) hSp ((hIx c).putObj _ hi (Nat.le_succ _) hL2.rcd rfl) ((World.putObj_heap_other (by omega)).trans (hL2.defd _ rfl))⟩

/-- THE LAW, WITHIN A ROUND OF LOOP l₀. -/
theorem wpIn_rangeB_in {g : Operand} {ps : Array Tmp} {assign body : Code} {Q : Exit → Act → World → Prop} {a : Act} {w : World} {l₀ : Nat} {r₀ : Loop} (hro : F.round = some l₀) (hl₀ : w.heap[l₀]? = some (.loop r₀)) (h1 : 1 ≤ n)
    {gf : Nat} {lb : Array Value} (hg : a.eval g = .func (.func gf) #[] lb) (hFg : F.fn gf) (eg : ∀ args w, (callFunc gf args).run P w = .ok (.enter gf args) w)
    {encs : α → Array Value} {Kp : World → World → Prop} {xs : List α} {b : Nat} (hb : b < w.heap.size) (hseq : SeqStopsB F (n - 1) P gf lb encs Kp xs b w)
    (hKt : ∀ {A B C : World}, Kp A B → Kp B C → Kp A C) (hKb : ∀ (W : World) (l : Nat) (o o' : Obj), w.heap.size ≤ l → W.heap[l]? = some o → o.isCells = false → o.isWalk = false → Kp W (W.putObj l o')) (hps : ∀ x, (encs x).size = ps.size)
    (I : List α → World → Prop) (Ix : Code → List α → World → Prop) (hI : OwnFrom w.heap.size I) (hIb : AbidesRow b I) (hIx : ∀ c, OwnFrom w.heap.size (Ix c)) (h0 : I [] w) (a1 : α → Act)
    (hassign : ∀ (l : Nat) (x : α) (W : World) (K : Act → World → Prop), K (a1 x) W → assign.wpIn (F.inRound l) (n - 1 - 1) P (Exit.then K (fun _ _ _ => False)) { tmps := (ps.zip (encs x)).foldl (fun t (p, v) => t.setIfInBounds p v) a.tmps, defers := [] } W)
    (hbody : ∀ (l : Nat) (pre : List α) (x : α) (W : World), w.heap.size ≤ l → (∃ r', W.heap[l]? = some (.loop r')) → I pre W → pre ++ [x] <+: xs → body.wpIn (F.inRound l) (n - 1 - 1) P (ownPostG w.heap.size Kp I Ix (pre ++ [x]) W) (a1 x) W)
    (hdone : ∀ (W : World), I xs W → Q .normal a W)
    (hstop : ∀ (c : Code) (pre : List α) (W : World), pre <+: xs → Ix c pre W → c.wpIn F n P Q a W) :
    (Code.rangeFunc g ps assign body).wpIn F n P Q a w := by
  refine wpIn_rangeFunc ?_
  intro fn hfn
  rw [hro]
  obtain ⟨r, hr⟩ : ∃ r : Loop, r = { state := .ready, pending := none, fn := fn, tmps := a.tmps, params := ps, assign := assign, body := body, defers := r₀.defers } := ⟨_, rfl⟩
  have hL1 : LoopAt w.heap.size none r (w.alloc (.loop r)) := ⟨World.alloc_heap_new w _, fun D hD => by cases hD⟩
  refine ⟨w.heap.size, [], w.alloc (.loop r), { target := .fn (.func gf) lb, args := #[.func (.yield w.heap.size) #[] #[]] }, w.alloc (.loop r), gf, #[.func (.yield w.heap.size) #[] #[]] ++ lb, w.alloc (.loop r), ?_, ?_, ?_, ?_, fun _ => h1, ?_⟩
  · rw [hr]; exact run_enterLoop_inner hl₀ _ _ _ _ _
  · simp only [resolve, hg]
    simp [go_sem]
  · intro f' hf'; simp [Target.leads] at hf'; subst hf'; exact hFg
  · simp [invoke, go_sem, eg]
  · have hfn' : F.fn r.fn := by rw [hr]; exact hfn
    have hst : r.state = .ready := by rw [hr]
    have hpe : r.pending = none := by rw [hr]
    refine (rounds_all hseq hfn' hst hpe (Nat.le_refl _) (fun D hD => by cases hD) (by simp) hb hKt hKb (by rw [hr]; exact hps) ((Below.refl _ w).alloc (Nat.le_refl _) _) hL1 hI hIb hIx (hI.alloc _ h0) a1
      (by rw [hr]; exact fun x W K hK => hassign _ x W K hK) (by rw [hr]; exact fun pre x W h2 hi hlen => hbody _ pre x W (Nat.le_refl _) h2 hi hlen)).mono ?_
    rintro e W2 ⟨⟨v, rfl⟩, (⟨hi, hL2⟩ | ⟨pre, hSp, c, hi, hL2⟩)⟩
    · exact ⟨none, _, Loop.ready_done hst hpe hL2, hdone _ (hI.putObj _ hi (Nat.le_refl _) hL2.rcd rfl)⟩
    · exact ⟨some c, _, run_endLoop hL2.rcd (by simp), hstop c pre _ hSp ((hIx c).putObj _ hi (Nat.le_refl _) hL2.rcd rfl)⟩
end
end Go.Proofs.YtiomnlgnhdhffaaDoor
