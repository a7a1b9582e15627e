/- What is proved: a range over a function whose iterator keeps a state of its own in captured cells: one law for the caller, over one contract for the iterator. No program stands in it. -/
import Derived.RangeFuncBox
import Derived.RangeFuncCalls
namespace Go.Proofs.YtiinnnbpbnojgaaGreatDoor
open Go Go.RowKit

/-- What an iterator may turn between two rounds: the blocks of C, and whatever is no cells and lies at or beyond B. -/
structure Turn (C : Nat → Prop) (B : Nat) (X Y : World) : Prop where
  os : Y.os = X.os
  tape : Y.tape = X.tape
  output : Y.output = X.output
  size : X.heap.size ≤ Y.heap.size
  block : ∀ (k : Nat) (o : Obj), X.heap[k]? = some o → ¬ C k → (k < B ∨ o.isCells = true) → Y.heap[k]? = some o
  kinds : ∀ (k : Nat) (c : Array Value) (e : TypeId) (fz : Nat × Nat), X.heap[k]? = some (.cells c e fz) → ∃ c' fz', Y.heap[k]? = some (.cells c' e fz')

theorem Turn.refl (C : Nat → Prop) (B : Nat) (X : World) : Turn C B X X := ⟨rfl, rfl, rfl, Nat.le_refl _, fun _ _ h _ _ => h, fun _ c _ fz h => ⟨c, fz, h⟩⟩
theorem Turn.trans {C : Nat → Prop} {B : Nat} {X Y Z : World} (h : Turn C B X Y) (k : Turn C B Y Z) : Turn C B X Z :=
  ⟨k.os.trans h.os, k.tape.trans h.tape, k.output.trans h.output, Nat.le_trans h.size k.size, fun i o hi hc ho => k.block i o (h.block i o hi hc ho) hc ho, fun i c e fz hi => by obtain ⟨c', fz', h'⟩ := h.kinds i c e fz hi; exact k.kinds i c' e fz' h'⟩
theorem Turn.mono {C : Nat → Prop} {B B' : Nat} {X Y : World} (h : Turn C B X Y) (hb : B' ≤ B) : Turn C B' X Y :=
  ⟨h.os, h.tape, h.output, h.size, fun i o hi hc ho => h.block i o hi hc (ho.imp (fun e => by omega) id), h.kinds⟩
theorem Turn.of_below {C : Nat → Prop} {B : Nat} {X Y : World} (h : Below X.heap.size X Y) : Turn C B X Y :=
  ⟨h.os, h.tape, h.output, h.size, fun i _ hi _ _ => (h.block i (Array.getElem?_eq_some_iff.1 hi).1).trans hi, fun i c _ fz hi => ⟨c, fz, (h.block i (Array.getElem?_eq_some_iff.1 hi).1).trans hi⟩⟩
theorem Turn.alloc {C : Nat → Prop} {B : Nat} (X : World) (o : Obj) : Turn C B X (X.alloc o) := Turn.of_below ((Below.refl _ X).alloc (Nat.le_refl _) o)
theorem Turn.putObj {C : Nat → Prop} {B : Nat} {X : World} {l : Nat} {o : Obj} (o' : Obj) (hl : X.heap[l]? = some o) (hB : B ≤ l) (ho : o.isCells = false) : Turn C B X (X.putObj l o') :=
  ⟨rfl, rfl, rfl, by simp, fun i u hi _ hu => (by
    refine (World.putObj_heap_other ?_).trans hi
    rintro rfl
    rw [hl] at hi; cases hi
    rcases hu with hu | hu
    · omega
    · rw [ho] at hu; cases hu), fun i c e fz hi => ⟨c, fz, (World.putObj_heap_other (by rintro rfl; rw [hl] at hi; cases hi; cases ho)).trans hi⟩⟩
theorem Turn.setCell {C : Nat → Prop} {B : Nat} (X : World) (a : Addr) (v : Value) (hC : C a.block) : Turn C B X (X.setCell a v) :=
  ⟨rfl, rfl, rfl, by simp [World.setCell], fun i _ hi hc _ => (Below.heap_setCell X a v i (fun e => hc (by rw [e]; exact hC))).trans hi, fun i c e fz hi => by
    by_cases h : i = a.block
    · subst h
      refine ⟨if a.spot.isSome then c else c.setIfInBounds a.off v, fz, ?_⟩
      show (X.heap.modify a.block _)[a.block]? = _
      rw [Array.getElem?_modify, if_pos rfl, hi]
      rfl
    · exact ⟨c, fz, (Below.heap_setCell X a v i h).trans hi⟩⟩
theorem Turn.heap {C : Nat → Prop} {B : Nat} {X Y : World} (h : Turn C B X Y) {k : Nat} {o : Obj} (hk : X.heap[k]? = some o) (hc : ¬ C k) (ho : o.isCells = true) : Y.heap[k]? = some o := h.block k o hk hc (.inr ho)
theorem Turn.old {C : Nat → Prop} {B : Nat} {X Y : World} (h : Turn C B X Y) {k : Nat} {o : Obj} (hk : X.heap[k]? = some o) (hc : ¬ C k) (hB : k < B) : Y.heap[k]? = some o := h.block k o hk hc (.inl hB)
theorem cells_of_cell {X : World} {k : Nat} {off : Nat} {v : Value} (h : X.cell? ⟨k, off, none⟩ = some v) : ∃ o, X.heap[k]? = some o ∧ o.isCells = true := by
  unfold World.cell? at h
  cases hk : X.heap[k]? with
  | none => simp [hk] at h
  | some o =>
    rw [hk] at h
    cases o <;> first | exact ⟨_, rfl, rfl⟩ | (simp at h)
theorem Turn.cell {C : Nat → Prop} {B : Nat} {X Y : World} (h : Turn C B X Y) {k off : Nat} {v : Value} (hk : X.cell? ⟨k, off, none⟩ = some v) (hc : ¬ C k) : Y.cell? ⟨k, off, none⟩ = some v := by
  obtain ⟨o, ho, hco⟩ := cells_of_cell hk
  exact (World.cell?_of_block (w := X) (a := ⟨k, off, none⟩) ((h.heap ho hc hco).trans ho.symm)).trans hk
theorem Turn.frozen {C : Nat → Prop} {B : Nat} {X Y : World} (h : Turn C B X Y) {k off : Nat} {v : Value} {b : Bool} (hk : X.cell? ⟨k, off, none⟩ = some v) (hf : X.frozen? ⟨k, off, none⟩ = b) (hc : ¬ C k) : Y.frozen? ⟨k, off, none⟩ = b := by
  obtain ⟨o, ho, hco⟩ := cells_of_cell hk
  exact (World.frozen?_of_block (w := X) (a := ⟨k, off, none⟩) ((h.heap ho hc hco).trans ho.symm)).trans hf
theorem Turn.below {C : Nat → Prop} {B n : Nat} {X Y w : World} (h : Turn C B X Y) (hb : Below n w X) (hC : ∀ k, C k → n ≤ k) (hB : n ≤ B) (hn : n ≤ w.heap.size) : Below n w Y :=
  ⟨h.os.trans hb.os, h.tape.trans hb.tape, h.output.trans hb.output, Nat.le_trans hb.size h.size, fun k hk => by
    have hlt : k < X.heap.size := Nat.lt_of_lt_of_le hk (Nat.le_trans hn hb.size)
    have hX : X.heap[k]? = some X.heap[k] := Array.getElem?_eq_getElem hlt
    exact ((h.old hX (fun hc => by have := hC k hc; omega) (by omega)).trans hX.symm).trans (hb.block k hk)⟩

/-- What a body keeps: the blocks below n₀, those of C, and the objects of p. -/
structure Keeps (p : Obj → Bool) (C : Nat → Prop) (n₀ : Nat) (X Y : World) : Prop where
  os : Y.os = X.os
  tape : Y.tape = X.tape
  output : Y.output = X.output
  size : X.heap.size ≤ Y.heap.size
  block : ∀ (k : Nat) (o : Obj), X.heap[k]? = some o → (k < n₀ ∨ C k ∨ p o = true) → Y.heap[k]? = some o
def noCells (o : Obj) : Bool := !o.isCells
theorem Keeps.refl (p : Obj → Bool) (C : Nat → Prop) (n₀ : Nat) (X : World) : Keeps p C n₀ X X := ⟨rfl, rfl, rfl, Nat.le_refl _, fun _ _ h _ => h⟩
theorem Keeps.trans {p : Obj → Bool} {C : Nat → Prop} {n₀ : Nat} {X Y Z : World} (h : Keeps p C n₀ X Y) (k : Keeps p C n₀ Y Z) : Keeps p C n₀ X Z :=
  ⟨k.os.trans h.os, k.tape.trans h.tape, k.output.trans h.output, Nat.le_trans h.size k.size, fun i o hi ho => k.block i o (h.block i o hi ho) ho⟩
theorem Keeps.of_below {p : Obj → Bool} {C : Nat → Prop} {n₀ : Nat} {X Y : World} (h : Below X.heap.size X Y) : Keeps p C n₀ X Y :=
  ⟨h.os, h.tape, h.output, h.size, fun i _ hi _ => (h.block i (Array.getElem?_eq_some_iff.1 hi).1).trans hi⟩
theorem Keeps.alloc {p : Obj → Bool} {C : Nat → Prop} {n₀ : Nat} (X : World) (o : Obj) : Keeps p C n₀ X (X.alloc o) := Keeps.of_below ((Below.refl _ X).alloc (Nat.le_refl _) o)
theorem Keeps.drew {p : Obj → Bool} {C : Nat → Prop} {n₀ : Nat} (X : World) : Keeps p C n₀ X X.drew := Keeps.of_below ((Below.refl _ X).drew)
theorem Keeps.walks {C : Nat → Prop} {n₀ : Nat} {X Y : World} (h : Keeps noCells C n₀ X Y) : Keeps Obj.isWalk C n₀ X Y :=
  ⟨h.os, h.tape, h.output, h.size, fun i o hi ho => h.block i o hi (ho.imp id (fun k => k.imp id (fun hw => by simp [noCells, Obj.not_cells_of_walk hw])))⟩
theorem Keeps.putObj {C : Nat → Prop} {n₀ : Nat} {X : World} {l : Nat} {o : Obj} (o' : Obj) (hl : X.heap[l]? = some o) (hB : n₀ ≤ l) (hC : ¬ C l) (ho : o.isWalk = false) : Keeps Obj.isWalk C n₀ X (X.putObj l o') :=
  ⟨rfl, rfl, rfl, by simp, fun i u hi hu => by
    refine (World.putObj_heap_other ?_).trans hi
    rintro rfl
    rw [hl] at hi; cases hi
    rcases hu with hu | hu | hu
    · omega
    · exact hC hu
    · rw [ho] at hu; cases hu⟩
/-- A store into a cell of a block that is not kept. -/
theorem Keeps.setCell {C : Nat → Prop} {n₀ : Nat} (X : World) (a : Addr) (v : Value) (hB : n₀ ≤ a.block) (hC : ¬ C a.block) : Keeps noCells C n₀ X (X.setCell a v) :=
  ⟨rfl, rfl, rfl, by simp [World.setCell], fun i u hi hu => by
    by_cases e : i = a.block
    · subst e
      rcases hu with hu | hu | hu
      · omega
      · exact absurd hu hC
      · exact (KeepsOthers.setCell X a v).same _ _ hi (by simpa [noCells] using hu)
    · exact (Below.heap_setCell X a v i e).trans hi⟩
theorem Keeps.grown {C : Nat → Prop} {n₀ : Nat} {X Y : World} {row : Option Nat} (hg : X.grownBy Y row) (hr : ∀ k, row = some k → n₀ ≤ k ∧ ¬ C k ∧ ∀ o, X.heap[k]? = some o → o.isCells = true) : Keeps noCells C n₀ X Y :=
  ⟨hg.os, hg.tape, hg.output, hg.size, fun i o hi ho => by
    refine (hg.block i (Array.getElem?_eq_some_iff.1 hi).1 ?_).trans hi
    rintro e
    obtain ⟨h1, h2, h3⟩ := hr i e.symm
    rcases ho with ho | ho | ho
    · omega
    · exact h2 ho
    · rw [noCells, h3 o hi] at ho; cases ho⟩
theorem Keeps.below {p : Obj → Bool} {C : Nat → Prop} {n₀ n : Nat} {X Y w : World} (h : Keeps p C n₀ X Y) (hb : Below n w X) (hn0 : n ≤ n₀) (hn : n ≤ w.heap.size) : Below n w Y :=
  ⟨h.os.trans hb.os, h.tape.trans hb.tape, h.output.trans hb.output, Nat.le_trans hb.size h.size, fun k hk => by
    have hlt : k < X.heap.size := Nat.lt_of_lt_of_le hk (Nat.le_trans hn hb.size)
    have hX : X.heap[k]? = some X.heap[k] := Array.getElem?_eq_getElem hlt
    exact ((h.block k _ hX (.inl (by omega))).trans hX.symm).trans (hb.block k hk)⟩
theorem Keeps.heap {p : Obj → Bool} {C : Nat → Prop} {n₀ : Nat} {X Y : World} (h : Keeps p C n₀ X Y) {k : Nat} {o : Obj} (hk : X.heap[k]? = some o) (ho : k < n₀ ∨ C k ∨ p o = true) : Y.heap[k]? = some o := h.block k o hk ho
theorem Keeps.cell {p : Obj → Bool} {C : Nat → Prop} {n₀ : Nat} {X Y : World} (h : Keeps p C n₀ X Y) {k off : Nat} {v : Value} (hk : X.cell? ⟨k, off, none⟩ = some v) (hc : k < n₀ ∨ C k) : Y.cell? ⟨k, off, none⟩ = some v := by
  obtain ⟨o, ho, hco⟩ := cells_of_cell hk
  exact (World.cell?_of_block (w := X) (a := ⟨k, off, none⟩) ((h.heap ho (hc.imp id .inl)).trans ho.symm)).trans hk
theorem Keeps.frozen {p : Obj → Bool} {C : Nat → Prop} {n₀ : Nat} {X Y : World} (h : Keeps p C n₀ X Y) {k off : Nat} {v : Value} {b : Bool} (hk : X.cell? ⟨k, off, none⟩ = some v) (hf : X.frozen? ⟨k, off, none⟩ = b) (hc : k < n₀ ∨ C k) : Y.frozen? ⟨k, off, none⟩ = b := by
  obtain ⟨o, ho, hco⟩ := cells_of_cell hk
  exact (World.frozen?_of_block (w := X) (a := ⟨k, off, none⟩) ((h.heap ho (hc.imp id .inl)).trans ho.symm)).trans hf

theorem boxed_turn {C : Nat → Prop} {B : Nat} {X Y : World} {k : Nat} {t : TypeId} {v : Value} (h : Boxed X k t v) (ht : Turn C B X Y) (hc : ¬ C k) : Boxed Y k t v := ht.heap h hc rfl
theorem boxed_below {X Y : World} {k : Nat} {t : TypeId} {v : Value} (h : Boxed X k t v) (hb : Below X.heap.size X Y) : Boxed Y k t v := (hb.block k h.lt).trans h
theorem boxed_keeps {p : Obj → Bool} {C : Nat → Prop} {n₀ : Nat} {X Y : World} {k : Nat} {t : TypeId} {v : Value} (h : Boxed X k t v) (hk : Keeps p C n₀ X Y) (hc : k < n₀ ∨ C k) : Boxed Y k t v := hk.heap h (hc.imp id .inl)
/-- Behind a function that holds a range over a function: the block for the rounds' deferred calls is shut. -/
theorem boxed_shut {X : World} {D k : Nat} {t : TypeId} {v : Value} {ds : List Deferred} (h : Boxed X k t v) (hD : X.heap[D]? = some (.deferred (some ds))) (o : Obj) : Boxed (X.putObj D o) k t v :=
  (World.putObj_heap_other (fun e => by subst e; rw [show X.heap[k]? = _ from h] at hD; cases hD)).trans h
theorem below_shut {n D : Nat} {w X : World} {ds : List Deferred} (h : Below n w X) (hD : X.heap[D]? = some (.deferred (some ds))) (hn : n ≤ w.heap.size) (hl : n ≤ D) (o : Obj) : Below n w (X.putObj D o) :=
  Turn.below (C := fun _ => False) (B := D) (Turn.putObj o hD (Nat.le_refl _) rfl) h (fun _ hc => hc.elim) hl hn

/-- AN ITERATOR's CONTRACT: it hands on xs, one by one, or stops where a round says so. -/
def Iter {α : Type} (P : Program) (gf : Nat) (lb : Array Value) (encs : α → Array Value) (C : Nat → Prop) (n₀ : Nat) (xs : List α) (St : World → Prop) : Prop :=
  ∀ (l : Nat) (J Jx : List α → World → Prop) (W : World), St W → (∀ s X Y, J s X → Turn C W.heap.size X Y → J s Y) → (∀ s X Y, Jx s X → Turn C W.heap.size X Y → Jx s Y) →
    (∀ pre x W1, J pre W1 → pre ++ [x] <+: xs → YieldAt Fence.wide 0 P l (encs x) W1 fun e W' =>
      (e = .returned (.bool true) ∧ J (pre ++ [x]) W' ∧ Keeps Obj.isWalk C n₀ W1 W') ∨ (e = .returned (.bool false) ∧ Jx (pre ++ [x]) W' ∧ Keeps Obj.isWalk C n₀ W1 W')) →
    J [] W →
    CallsIn Fence.wide 0 P gf (#[.func (.yield l) #[] #[]] ++ lb) W fun e W' => (∃ v, e = .returned v) ∧ (J xs W' ∨ ∃ pre, pre <+: xs ∧ Jx pre W')

/-- How a round's body may be left. -/
def leftBy {α : Type} (C : Nat → Prop) (n₀ : Nat) (I : List α → World → Prop) (Ix : Code → List α → World → Prop) (s : List α) (W : World) : Exit → Act → World → Prop
  | .normal, _, W' => Keeps noCells C n₀ W W' ∧ I s W'
  | .ret, _, W' => Keeps noCells C n₀ W W' ∧ Ix .ret s W'
  | .exit id, _, W' => Keeps noCells C n₀ W W' ∧ Ix (.exit id) s W'
  | .goto t, _, W' => Keeps noCells C n₀ W W' ∧ Ix (.goto t) s W'
  | .panic _, _, _ => False
  | .outgrown, _, _ => False

variable {P : Program}

theorem rangeFunc_law {α : Type} {g : Operand} {ps : Array Tmp} {assign body : Code} {Q : Exit → Act → World → Prop} {a : Act} {w : World}
    {gf : Nat} {lb : Array Value} (hg : a.eval g = .func (.func gf) #[] lb) (eg : ∀ args w, (callFunc gf args).run P w = .ok (.enter gf args) w)
    {encs : α → Array Value} {C : Nat → Prop} {n₀ : Nat} {xs : List α} {St : World → Prop} (hseq : Iter P gf lb encs C n₀ xs St)
    (hst : ∀ Y, Below w.heap.size w Y → St Y) (hC : ∀ k, C k → k < w.heap.size) (hn : n₀ ≤ w.heap.size) (hps : ∀ x, (encs x).size = ps.size)
    (I : List α → World → Prop) (Ix : Code → List α → World → Prop) (hI : ∀ s X Y, I s X → Turn C w.heap.size X Y → I s Y) (hIx : ∀ c s X Y, Ix c s X → Turn C w.heap.size X Y → Ix c s Y) (h0 : I [] w)
    (hround : ∀ (l : Nat) (pre : List α) (x : α) (W : World), w.heap.size ≤ l → I pre W → pre ++ [x] <+: xs →
      assign.wpIn (Fence.wide.inRound l) 0 P (Exit.then (fun a' W' => Keeps noCells C n₀ W W' ∧ ∀ Wb, Turn C w.heap.size W' Wb → (∃ r, Wb.heap[l]? = some (.loop r)) → body.wpIn (Fence.wide.inRound l) 0 P (leftBy C n₀ I Ix (pre ++ [x]) Wb) a' Wb) (fun _ _ _ => False))
        { tmps := (ps.zip (encs x)).foldl (fun t (p, v) => t.setIfInBounds p v) a.tmps, defers := [] } W)
    (hdone : ∀ (D : Nat) (W : World), w.heap.size ≤ D → I xs W → W.heap[D]? = some (.deferred (some [])) → Q .normal { a with defers := { target := .collected D, args := #[] } :: a.defers } W)
    (hstop : ∀ (D : Nat) (c : Code) (pre : List α) (W : World), w.heap.size ≤ D → pre <+: xs → Ix c pre W → W.heap[D]? = some (.deferred (some [])) → c.wpIn Fence.wide 0 P Q { a with defers := { target := .collected D, args := #[] } :: a.defers } W) :
    (Code.rangeFunc g ps assign body).wpIn Fence.wide 0 P Q a w := by
  refine wpIn_rangeFunc (fun fn hfn => ?_)
  obtain ⟨rec, hrec⟩ : ∃ rec : LoopState → Option Code → Loop, rec = fun st pe => { state := st, pending := pe, fn, tmps := a.tmps, params := ps, assign, body, defers := w.heap.size } := ⟨_, rfl⟩
  obtain ⟨W1, hW1⟩ : ∃ W1, (w.alloc (.deferred (some []))).alloc (.loop (rec .ready none)) = W1 := ⟨_, rfl⟩
  have hz1 : W1.heap.size = w.heap.size + 1 + 1 := by rw [← hW1]; simp
  have hL1 : W1.heap[w.heap.size + 1]? = some (.loop (rec .ready none)) := by
    rw [← hW1]; have := World.alloc_heap_new (w.alloc (.deferred (some []))) (.loop (rec .ready none)); rwa [World.size_alloc] at this
  have hD1 : W1.heap[w.heap.size]? = some (.deferred (some [])) := by
    rw [← hW1]; exact (Below.heap_alloc _ _ _ (by simp)).trans (World.alloc_heap_new w _)
  have hB1 : Below w.heap.size w W1 := by
    rw [← hW1]; exact ((Below.refl _ w).alloc (Nat.le_refl _) _).alloc (by simp) _
  have hI1 : I [] W1 := by rw [← hW1]; exact hI _ _ _ (hI _ _ _ h0 (Turn.alloc _ _)) (Turn.alloc _ _)
  have hCl : ¬ C (w.heap.size + 1) := fun h => by have := hC _ h; omega
  have hCD : ¬ C w.heap.size := fun h => by have := hC _ h; omega
  refine ⟨w.heap.size + 1, [{ target := .collected w.heap.size, args := #[] }], W1, { target := .fn (.func gf) lb, args := #[.func (.yield (w.heap.size + 1)) #[] #[]] }, W1, gf,
    #[.func (.yield (w.heap.size + 1)) #[] #[]] ++ lb, W1, ?_, ?_, ?_, ?_, fun h => by simp [Fence.wide] at h, ?_⟩
  · rw [← hW1, hrec]; exact run_enterLoop_outer _ _ _ _ _
  · simp only [resolve, hg]
    simp [go_sem]
  · intro f' _; trivial
  · simp [invoke, go_sem, eg]
  refine (hseq (w.heap.size + 1)
    (fun pre W => I pre W ∧ W.heap[w.heap.size + 1]? = some (.loop (rec .ready none)) ∧ W.heap[w.heap.size]? = some (.deferred (some [])))
    (fun pre W => ∃ c, Ix c pre W ∧ W.heap[w.heap.size + 1]? = some (.loop (rec .done (some c))) ∧ W.heap[w.heap.size]? = some (.deferred (some [])))
    W1 (hst _ hB1)
    (fun s X Y hs ht => ⟨hI _ _ _ hs.1 (ht.mono (by omega)), ht.old hs.2.1 hCl (by omega), ht.old hs.2.2 hCD (by omega)⟩)
    (fun s X Y hs ht => by
      obtain ⟨c, hc, hl, hk⟩ := hs
      exact ⟨c, hIx _ _ _ _ hc (ht.mono (by omega)), ht.old hl hCl (by omega), ht.old hk hCD (by omega)⟩)
    ?_ ⟨hI1, hL1, hD1⟩).mono ?_
  · rintro pre x W ⟨hi, hl, hk⟩ hpre
    have hy := run_yield (P := P) (args := encs x) hl (by rw [hrec]; exact hps x)
    rw [hrec] at hy
    refine ⟨fn, _, assign, body, hy, roundIn_of_wpIn hfn (wpIn_mono (hround _ pre x W (by omega) hi hpre) ?_)⟩
    clear hy
    intro e0 a' Wa he0
    cases e0 with
    | normal => ?_
    | _ => exact he0.elim
    obtain ⟨hka, hbd⟩ := he0
    have hla : Wa.heap[w.heap.size + 1]? = some (.loop (rec .ready none)) := hka.heap hl (.inr (.inr rfl))
    have hDa : Wa.heap[w.heap.size]? = some (.deferred (some [])) := hka.heap hk (.inr (.inr rfl))
    have hlt : w.heap.size + 1 < Wa.heap.size := (Array.getElem?_eq_some_iff.1 hla).1
    refine ⟨_, run_beginRound hla (by rw [hrec]), ?_⟩
    obtain ⟨Wb, hWb⟩ : ∃ Wb, Wa.putObj (w.heap.size + 1) (.loop { rec .ready none with state := .busy }) = Wb := ⟨_, rfl⟩
    have hl2 : Wb.heap[w.heap.size + 1]? = some (.loop { rec .ready none with state := .busy }) := by rw [← hWb]; exact World.putObj_heap_same hlt
    have hD2 : Wb.heap[w.heap.size]? = some (.deferred (some [])) := by rw [← hWb]; exact (World.putObj_heap_other (by omega)).trans hDa
    have hk2 : Keeps Obj.isWalk C n₀ Wa Wb := by rw [← hWb]; exact Keeps.putObj _ hla (by omega) hCl rfl
    have hta : Turn C w.heap.size Wa Wb := by rw [← hWb]; exact Turn.putObj _ hla (by omega) rfl
    rw [hWb]
    refine wpIn_mono (hbd Wb hta ⟨_, hl2⟩) ?_
    have fin : ∀ (jump : Option Code) (W3 : World), Keeps noCells C n₀ Wb W3 →
        (Instr.endRound (w.heap.size + 1) jump).run P W3 = .ok (.bool jump.isNone) (W3.putObj (w.heap.size + 1) (.loop (rec (if jump.isNone then .ready else .done) jump))) ∧
        (W3.putObj (w.heap.size + 1) (.loop (rec (if jump.isNone then .ready else .done) jump))).heap[w.heap.size + 1]? = some (.loop (rec (if jump.isNone then .ready else .done) jump)) ∧
        (W3.putObj (w.heap.size + 1) (.loop (rec (if jump.isNone then .ready else .done) jump))).heap[w.heap.size]? = some (.deferred (some [])) ∧
        Turn C w.heap.size W3 (W3.putObj (w.heap.size + 1) (.loop (rec (if jump.isNone then .ready else .done) jump))) ∧
        Keeps Obj.isWalk C n₀ W3 (W3.putObj (w.heap.size + 1) (.loop (rec (if jump.isNone then .ready else .done) jump))) := fun jump W3 hk3 => by
      have hl3 : W3.heap[w.heap.size + 1]? = some (.loop { rec .ready none with state := .busy }) := hk3.heap hl2 (.inr (.inr rfl))
      have hD3 : W3.heap[w.heap.size]? = some (.deferred (some [])) := hk3.heap hD2 (.inr (.inr rfl))
      have hr := run_endRound (P := P) jump hl3
      rw [hrec] at hr ⊢
      exact ⟨hr, World.putObj_heap_same (Array.getElem?_eq_some_iff.1 hl3).1, (World.putObj_heap_other (by omega)).trans hD3, Turn.putObj _ hl3 (by omega) rfl, Keeps.putObj _ hl3 (by omega) hCl rfl⟩
    rintro e a3 W3 hp
    cases e with
    | normal =>
      obtain ⟨hr, hl4, hD4, ht4, hk4⟩ := fin none W3 hp.1
      exact ⟨_, _, hr, .inl ⟨rfl, ⟨hI _ _ _ hp.2 ht4, hl4, hD4⟩, ((hka.walks.trans hk2).trans hp.1.walks).trans hk4⟩⟩
    | ret =>
      obtain ⟨hr, hl4, hD4, ht4, hk4⟩ := fin (some .ret) W3 hp.1
      exact ⟨_, _, hr, .inr ⟨rfl, ⟨.ret, hIx _ _ _ _ hp.2 ht4, hl4, hD4⟩, ((hka.walks.trans hk2).trans hp.1.walks).trans hk4⟩⟩
    | exit id =>
      obtain ⟨hr, hl4, hD4, ht4, hk4⟩ := fin (some (.exit id)) W3 hp.1
      exact ⟨_, _, hr, .inr ⟨rfl, ⟨.exit id, hIx _ _ _ _ hp.2 ht4, hl4, hD4⟩, ((hka.walks.trans hk2).trans hp.1.walks).trans hk4⟩⟩
    | goto t =>
      obtain ⟨hr, hl4, hD4, ht4, hk4⟩ := fin (some (.goto t)) W3 hp.1
      exact ⟨_, _, hr, .inr ⟨rfl, ⟨.goto t, hIx _ _ _ _ hp.2 ht4, hl4, hD4⟩, ((hka.walks.trans hk2).trans hp.1.walks).trans hk4⟩⟩
    | panic ch => exact hp.elim
    | outgrown => exact hp.elim
  · rintro e W2 ⟨⟨v, rfl⟩, (⟨hi, hl, hk⟩ | ⟨pre, hpre, c, hi, hl, hk⟩)⟩
    · refine ⟨none, _, by have := run_endLoop (P := P) hl (by rw [hrec]; simp); rw [hrec] at this; exact this, hdone _ _ (Nat.le_refl _) (hI _ _ _ hi (Turn.putObj _ hl (by omega) rfl)) ((World.putObj_heap_other (by omega)).trans hk)⟩
    · refine ⟨some c, _, by have := run_endLoop (P := P) hl (by rw [hrec]; simp); rw [hrec] at this; exact this, hstop _ c pre _ (Nat.le_refl _) hpre (hIx _ _ _ _ hi (Turn.putObj _ hl (by omega) rfl)) ((World.putObj_heap_other (by omega)).trans hk)⟩

#print axioms rangeFunc_law
end Go.Proofs.YtiinnnbpbnojgaaGreatDoor
