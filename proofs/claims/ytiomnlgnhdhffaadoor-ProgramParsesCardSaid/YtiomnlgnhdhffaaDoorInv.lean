/-
  A region that draws its order, by one relation over what has been carried out: each operation is shown once. Conditions: none but what each theorem names.
-/
import Derived.Test.YtiomnlgnhdhffaaDoorBase
import Derived.Orders
namespace Go.Proofs.YtiomnlgnhdhffaaDoor
open Go.RowKit
set_option linter.unusedVariables false
section
variable {P : Program} {ops : Array Oper} {Q : Exit → Act → World → Prop}

/-- What an operation waits for. -/
def waitsFor (o : Oper) : List Nat := (o.after.toList.filter (Region.binds .any)).map (·.on)
/-- Every operation waits for earlier ones alone. -/
def dagB (ops : Array Oper) : Bool := (List.range ops.size).all fun i => match ops[i]? with | some o => (waitsFor o).all (· < i) | none => true
def listedOk (ops : Array Oper) (l : Array Bool) : Prop := ∀ i o, ops[i]? = some o → l.getD i false = true → ∀ j ∈ waitsFor o, l.getD j false = true

theorem ready_iff {l : Array Bool} {i : Nat} (hl : l.size = ops.size) : i ∈ Region.ready .any ops l ↔ i < ops.size ∧ l.getD i true = false ∧ ∃ o, ops[i]? = some o ∧ ∀ j ∈ waitsFor o, l.getD j false = true := by
  unfold Region.ready
  rw [List.mem_filter, List.mem_range]
  constructor
  · rintro ⟨h1, h2⟩
    rw [Bool.and_eq_true] at h2
    refine ⟨h1, by simpa using h2.1, ?_⟩
    have ho : ops[i]? = some ops[i] := Array.getElem?_eq_getElem h1
    refine ⟨_, ho, fun j hj => ?_⟩
    have h3 := h2.2
    rw [ho] at h3
    simp only [Option.map_some, Option.getD_some] at h3
    rw [← Array.all_toList, List.all_eq_true] at h3
    unfold waitsFor at hj
    obtain ⟨e, he, rfl⟩ := List.mem_map.1 hj
    obtain ⟨he1, he2⟩ := List.mem_filter.1 he
    have := h3 e he1
    simpa [he2] using this
  · rintro ⟨h1, h2, o, ho, h3⟩
    refine ⟨h1, ?_⟩
    rw [Bool.and_eq_true]
    refine ⟨by simpa using h2, ?_⟩
    rw [ho]
    simp only [Option.map_some, Option.getD_some]
    rw [← Array.all_toList, List.all_eq_true]
    intro e he
    by_cases hb : Region.binds .any e = true
    · have := h3 e.on (List.mem_map.2 ⟨e, List.mem_filter.2 ⟨he, hb⟩, rfl⟩)
      simp [this]
    · simp [hb]

def left (l : Array Bool) : Nat := (l.toList.filter (fun b => !b)).length
theorem left_set {l : Array Bool} {i : Nat} (hi : i < l.size) (h : l.getD i true = false) : left (l.setIfInBounds i true) + 1 = left l := by
  obtain ⟨xs⟩ := l
  simp only [left, List.setIfInBounds_toArray]
  have hi' : i < xs.length := by simpa using hi
  have hx : xs[i] = false := by
    have : xs[i]?.getD true = false := by simpa [Array.getD_eq_getD_getElem?] using h
    simpa [List.getElem?_eq_getElem hi'] using this
  clear h hi
  induction xs generalizing i with
  | nil => simp at hi'
  | cons y ys ih =>
    cases i with
    | zero =>
      simp only [List.getElem_cons_zero] at hx
      subst hx
      simp
    | succ i =>
      simp only [List.getElem_cons_succ] at hx
      have := ih (by simpa using hi') hx
      cases y <;> simp at this ⊢ <;> omega

theorem wpAny_inv (hd : dagB ops = true) (I : Array Bool → Act → World → Prop)
    (hs : ∀ l a w i o, l.size = ops.size → listedOk ops l → I l a w → ops[i]? = some o → l.getD i true = false → (∀ j ∈ waitsFor o, l.getD j false = true) → wpOp P ops Q i (I (l.setIfInBounds i true)) a w)
    (hend : ∀ l a w, l.size = ops.size → (∀ j, j < ops.size → l.getD j false = true) → I l a w → Q .normal a w) :
    ∀ fuel l a w, l.size = ops.size → listedOk ops l → left l ≤ fuel → I l a w → wpAny P .any ops Q fuel l a w := by
  have done : ∀ l a w, l.size = ops.size → Region.ready .any ops l = [] → I l a w → Q .normal a w := by
    intro l a w hl hr hI
    refine hend l a w hl (fun j => ?_) hI
    induction j using Nat.strongRecOn with
    | _ j ih =>
      intro hj
      cases hb : l.getD j false with
      | true => rfl
      | false =>
        exfalso
        have ho : ops[j]? = some ops[j] := Array.getElem?_eq_getElem hj
        have hm : j ∈ Region.ready .any ops l := by
          rw [ready_iff hl]
          refine ⟨hj, ?_, _, ho, fun k hk => ?_⟩
          · simp only [Array.getD_eq_getD_getElem?] at hb ⊢
            rw [Array.getElem?_eq_getElem (by omega)] at hb ⊢
            simpa using hb
          · have h1 := List.all_eq_true.1 hd j (List.mem_range.2 hj)
            rw [ho] at h1
            have hkj : k < j := by simpa using List.all_eq_true.1 h1 k hk
            exact ih k hkj (by omega)
        rw [hr] at hm
        cases hm
  intro fuel
  induction fuel with
  | zero =>
    intro l a w hl hok hf hI
    have hr : Region.ready .any ops l = [] := by
      apply List.eq_nil_iff_forall_not_mem.2
      intro i hi
      obtain ⟨h1, h2, _⟩ := (ready_iff hl).1 hi
      have := left_set (by omega) h2
      omega
    exact ⟨hr, done l a w hl hr hI⟩
  | succ fuel ih =>
    intro l a w hl hok hf hI
    refine ⟨fun hr => done l a w hl hr hI, fun i hi => ?_⟩
    obtain ⟨h1, h2, o, ho, h3⟩ := (ready_iff hl).1 hi
    refine wpOp_mono ?_ (hs l a w i o hl hok hI ho h2 h3)
    intro a' w' hI'
    refine ih _ a' w' (by simpa using hl) ?_ (by have := left_set (by omega) h2; omega) hI'
    intro k ok hk hkb j hj
    have keep : ∀ m, l.getD m false = true → (l.setIfInBounds i true).getD m false = true := fun m hm => getD_set_true hm
    by_cases hki : k = i
    · subst hki
      rw [ho] at hk
      obtain rfl := Option.some.inj hk
      exact keep j (h3 j hj)
    · rw [getD_set_ne false (Ne.symm hki)] at hkb
      exact keep j (hok k ok hk hkb j hj)

/-- THE REGION BY ONE RELATION. -/
theorem region_inv {id : Nat} {a : Act} {w : World} (hm : P.follows .mixedOrders = true) (hd : dagB ops = true) (I : Array Bool → Act → World → Prop) (h0 : I (Array.replicate ops.size false) a w.drew)
    (hs : ∀ l a w i o, l.size = ops.size → listedOk ops l → I l a w → ops[i]? = some o → l.getD i true = false → (∀ j ∈ waitsFor o, l.getD j false = true) → wpOp P ops Q i (I (l.setIfInBounds i true)) a w)
    (hend : ∀ l a w, l.size = ops.size → (∀ j, j < ops.size → l.getD j false = true) → I l a w → Q .normal a w) : (Code.region id ops true).wp P Q a w := by
  refine wp_region_any hm ?_
  refine wpAny_inv hd I hs hend _ _ a _ (by simp) ?_ ?_ h0
  · intro i o ho hb
    simp [Array.getD_eq_getD_getElem?, Array.getElem?_replicate] at hb
    split at hb <;> simp at hb
  · simp [left]

/-! ### The frame over such a region: the destinations of what has been carried out hold their values, all else is as it was. -/
structure Sl (ops : Array Oper) (a0 : Act) (val : Nat → Value) (l : Array Bool) (a : Act) : Prop where
  size : a.tmps.size = a0.tmps.size
  defers : a.defers = a0.defers
  off : ∀ s, (∀ (j : Nat) (o : Oper), ops[j]? = some o → o.dst ≠ some s) → a.tmps[s]? = a0.tmps[s]?
  on : ∀ (j : Nat) (o : Oper) (d : Nat), ops[j]? = some o → o.dst = some d → l.getD j false = true → a.tmps[d]? = some (val j)
/-- Each destination is a slot of the frame, and of one operation alone. -/
def dstB (ops : Array Oper) (n : Nat) : Bool := (List.range ops.size).all fun i => (List.range ops.size).all fun j => match (ops[i]?).bind (·.dst), (ops[j]?).bind (·.dst) with
  | some d, some e => decide (d < n) && (i == j || d != e)
  | _, _ => true
theorem dstB_lt {n : Nat} (h : dstB ops n = true) {i d : Nat} {o : Oper} (ho : ops[i]? = some o) (hd : o.dst = some d) : d < n := by
  have hi : i < ops.size := (Array.getElem?_eq_some_iff.1 ho).1
  have := List.all_eq_true.1 (List.all_eq_true.1 h i (List.mem_range.2 hi)) i (List.mem_range.2 hi)
  simp only [ho, Option.bind_some, hd, Bool.and_eq_true, decide_eq_true_eq] at this
  exact this.1
theorem dstB_ne {n : Nat} (h : dstB ops n = true) {i j d e : Nat} {o u : Oper} (ho : ops[i]? = some o) (hd : o.dst = some d) (hu : ops[j]? = some u) (he : u.dst = some e) (hij : i ≠ j) : d ≠ e := by
  have hi : i < ops.size := (Array.getElem?_eq_some_iff.1 ho).1
  have hj : j < ops.size := (Array.getElem?_eq_some_iff.1 hu).1
  have := List.all_eq_true.1 (List.all_eq_true.1 h i (List.mem_range.2 hi)) j (List.mem_range.2 hj)
  simp only [ho, hu, Option.bind_some, hd, he, Bool.and_eq_true, Bool.or_eq_true, beq_iff_eq, bne_iff_ne, ne_eq] at this
  exact this.2.resolve_left hij
theorem Sl.start {a0 : Act} {val : Nat → Value} : Sl ops a0 val (Array.replicate ops.size false) a0 :=
  ⟨rfl, rfl, fun _ _ => rfl, fun j o d ho hd hb => by
    rw [Array.getD_eq_getD_getElem?, Array.getElem?_replicate] at hb
    split at hb <;> simp at hb⟩
theorem Sl.step {a0 a : Act} {val val' : Nat → Value} {l : Array Bool} {i n : Nat} {o : Oper} {v : Value} (h : Sl ops a0 val l a) (hB : dstB ops n = true) (hn : a0.tmps.size = n) (hl : l.size = ops.size) (ho : ops[i]? = some o)
    (hv : ∀ j, l.getD j false = true → j ≠ i → val' j = val j) (hi : ∀ d, o.dst = some d → val' i = v) : Sl ops a0 val' (l.setIfInBounds i true) (a.put o.dst v) := by
  have hlt : i < ops.size := (Array.getElem?_eq_some_iff.1 ho).1
  cases hd : o.dst with
  | none =>
    refine ⟨h.size, h.defers, h.off, fun j u e hu he hb => ?_⟩
    have hji : j ≠ i := by
      rintro rfl
      rw [ho] at hu
      obtain rfl := Option.some.inj hu
      rw [hd] at he
      cases he
    rw [getD_set_ne false (Ne.symm hji)] at hb
    rw [hv j hb hji]
    exact h.on j u e hu he hb
  | some d =>
    have hdn := dstB_lt hB ho hd
    refine ⟨by simp [Act.put, h.size], by simp [Act.put, h.defers], fun s hs => ?_, fun j u e hu he hb => ?_⟩
    · have hsd : d ≠ s := fun e => hs i o ho (by rw [hd, e])
      simp only [Act.put]
      rw [Array.getElem?_setIfInBounds_ne hsd]
      exact h.off s hs
    · simp only [Act.put]
      by_cases hji : j = i
      · subst hji
        rw [ho] at hu
        obtain rfl := Option.some.inj hu
        rw [hd] at he
        obtain rfl := Option.some.inj he
        rw [Array.getElem?_setIfInBounds_self_of_lt (by rw [h.size, hn]; exact hdn), hi d hd]
      · rw [Array.getElem?_setIfInBounds_ne (dstB_ne hB ho hd hu he (Ne.symm hji))]
        rw [getD_set_ne false (Ne.symm hji)] at hb
        rw [hv j hb hji]
        exact h.on j u e hu he hb
/-- What an operand that the region does not write holds. -/
theorem Sl.eval_off {a0 a : Act} {val : Nat → Value} {l : Array Bool} {t : Tmp} (h : Sl ops a0 val l a) (ht : ∀ (j : Nat) (o : Oper), ops[j]? = some o → o.dst ≠ some t) : a.eval (.tmp t) = a0.tmps.getD t undef := by
  show a.tmps.getD t undef = _
  rw [Array.getD_eq_getD_getElem?, Array.getD_eq_getD_getElem?, h.off t ht]
theorem Sl.eval_on {a0 a : Act} {val : Nat → Value} {l : Array Bool} {j : Nat} {o : Oper} {t : Tmp} (h : Sl ops a0 val l a) (ho : ops[j]? = some o) (hd : o.dst = some t) (hb : l.getD j false = true) : a.eval (.tmp t) = val j := by
  show a.tmps.getD t undef = _
  rw [Array.getD_eq_getD_getElem?, h.on j o t ho hd hb]
  rfl
/-- The frame behind the region. -/
def lay (ops : Array Oper) (val : Nat → Value) : List Nat → Act → Act
  | [], a => a
  | j :: r, a => lay ops val r (a.put ((ops[j]?).bind (·.dst)) (val j))
theorem lay_get {val : Nat → Value} : ∀ (L : List Nat) (a : Act) (s : Nat), s < a.tmps.size → (lay ops val L a).tmps.size = a.tmps.size ∧ (lay ops val L a).defers = a.defers ∧
    (((lay ops val L a).tmps[s]? = a.tmps[s]? ∧ ∀ j ∈ L, (ops[j]?).bind (·.dst) ≠ some s) ∨ ∃ j ∈ L, (ops[j]?).bind (·.dst) = some s ∧ (lay ops val L a).tmps[s]? = some (val j))
  | [], a, s, hs => ⟨rfl, rfl, .inl ⟨rfl, fun j hj => by cases hj⟩⟩
  | j :: r, a, s, hs => by
    have hsz : (a.put ((ops[j]?).bind (·.dst)) (val j)).tmps.size = a.tmps.size := by
      cases (ops[j]?).bind (·.dst) <;> simp [Act.put]
    have hdf : (a.put ((ops[j]?).bind (·.dst)) (val j)).defers = a.defers := by
      cases (ops[j]?).bind (·.dst) <;> simp [Act.put]
    obtain ⟨h1, h2, h3⟩ := lay_get (val := val) r (a.put ((ops[j]?).bind (·.dst)) (val j)) s (by rw [hsz]; exact hs)
    refine ⟨h1.trans hsz, h2.trans hdf, ?_⟩
    rcases h3 with ⟨h3, h4⟩ | ⟨k, hk, h4, h5⟩
    · by_cases hd : (ops[j]?).bind (·.dst) = some s
      · refine .inr ⟨j, List.mem_cons_self, hd, ?_⟩
        show (lay ops val r _).tmps[s]? = _
        rw [h3, hd]
        simp only [Act.put]
        rw [Array.getElem?_setIfInBounds_self_of_lt hs]
      · refine .inl ⟨?_, fun k hk => ?_⟩
        · show (lay ops val r _).tmps[s]? = _
          rw [h3]
          cases hq : (ops[j]?).bind (·.dst) with
          | none => rfl
          | some d =>
            simp only [Act.put]
            rw [Array.getElem?_setIfInBounds_ne (fun e => hd (by rw [hq, e]))]
        · rcases List.mem_cons.1 hk with rfl | hk
          · exact hd
          · exact h4 k hk
    · exact .inr ⟨k, List.mem_cons_of_mem _ hk, h4, h5⟩
theorem Sl.all {a0 a : Act} {val : Nat → Value} {l : Array Bool} {n : Nat} (h : Sl ops a0 val l a) (hB : dstB ops n = true) (hn : a0.tmps.size = n) (hb : ∀ j, j < ops.size → l.getD j false = true) : a = lay ops val (List.range ops.size) a0 := by
  have key : ∀ s, s < a0.tmps.size → a.tmps[s]? = (lay ops val (List.range ops.size) a0).tmps[s]? := by
    intro s hs
    obtain ⟨_, _, h3⟩ := lay_get (ops := ops) (val := val) (List.range ops.size) a0 s hs
    rcases h3 with ⟨h3, h4⟩ | ⟨j, hj, h4, h5⟩
    · rw [h3]
      refine h.off s fun j o ho hd => ?_
      have hj : j < ops.size := (Array.getElem?_eq_some_iff.1 ho).1
      exact h4 j (List.mem_range.2 hj) (by rw [ho]; exact hd)
    · rw [h5]
      have hj' := List.mem_range.1 hj
      have ho : ops[j]? = some ops[j] := Array.getElem?_eq_getElem hj'
      rw [ho] at h4
      exact h.on j _ s ho h4 (hb j hj')
  have hz : 0 < a0.tmps.size ∨ a0.tmps.size = 0 := by omega
  have hsd : (lay ops val (List.range ops.size) a0).tmps.size = a0.tmps.size ∧ (lay ops val (List.range ops.size) a0).defers = a0.defers := by
    have gen : ∀ (L : List Nat) (a : Act), (lay ops val L a).tmps.size = a.tmps.size ∧ (lay ops val L a).defers = a.defers := by
      intro L
      induction L with
      | nil => exact fun a => ⟨rfl, rfl⟩
      | cons j r ih =>
        intro a
        obtain ⟨h1, h2⟩ := ih (a.put ((ops[j]?).bind (·.dst)) (val j))
        refine ⟨h1.trans ?_, h2.trans ?_⟩ <;> cases (ops[j]?).bind (·.dst) <;> simp [Act.put]
    exact gen _ _
  obtain ⟨t, df⟩ := a
  cases hlay : lay ops val (List.range ops.size) a0 with
  | mk t' df' =>
    rw [hlay] at hsd key
    have h1 : t.size = a0.tmps.size := h.size
    have h2 : df = a0.defers := h.defers
    simp only at hsd key
    have : t = t' := by
      apply Array.ext_getElem?
      intro s
      by_cases hs : s < a0.tmps.size
      · exact key s hs
      · rw [Array.getElem?_eq_none (by omega), Array.getElem?_eq_none (by omega)]
    rw [this, h2, hsd.2]
end
end Go.Proofs.YtiomnlgnhdhffaaDoor
