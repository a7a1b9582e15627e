/- What is proved: the law for a range over a function, where nothing is known of the iterator behind some lists of rounds, and no round goes on behind them. No program stands in it. -/
import Derived.Test.YtiinnnbpbnojgaaGreatDoorLoop
namespace Go.Proofs.YtiinnnbpbnojgaaGreatDoor
open Go Go.RowKit

/-- The same of an iterator of which nothing is said behind some lists of rounds: no round may go on behind them. -/
def IterB {α : Type} (bad : List α → Prop) (P : Program) (gf : Nat) (lb : Array Value) (encs : α → Array Value) (C : Nat → Prop) (n₀ : Nat) (xs : List α) (St : World → Prop) : Prop :=
  ∀ (l : Nat) (J Jx : List α → World → Prop) (W : World), St W → (∀ s X Y, J s X → Turn C W.heap.size X Y → J s Y) → (∀ s X Y, Jx s X → Turn C W.heap.size X Y → Jx s Y) → (∀ s X, bad s → ¬ J s X) →
    (∀ pre x W1, J pre W1 → pre ++ [x] <+: xs → YieldAt Fence.wide 0 P l (encs x) W1 fun e W' =>
      (e = .returned (.bool true) ∧ J (pre ++ [x]) W' ∧ Keeps Obj.isWalk C n₀ W1 W') ∨ (e = .returned (.bool false) ∧ Jx (pre ++ [x]) W' ∧ Keeps Obj.isWalk C n₀ W1 W')) →
    J [] W →
    CallsIn Fence.wide 0 P gf (#[.func (.yield l) #[] #[]] ++ lb) W fun e W' => (∃ v, e = .returned v) ∧ (J xs W' ∨ ∃ pre, pre <+: xs ∧ Jx pre W')

variable {P : Program}

theorem rangeFunc_lawB {α : Type} {bad : List α → Prop} {g : Operand} {ps : Array Tmp} {assign body : Code} {Q : Exit → Act → World → Prop} {a : Act} {w : World}
    {gf : Nat} {lb : Array Value} (hg : a.eval g = .func (.func gf) #[] lb) (eg : ∀ args w, (callFunc gf args).run P w = .ok (.enter gf args) w)
    {encs : α → Array Value} {C : Nat → Prop} {n₀ : Nat} {xs : List α} {St : World → Prop} (hseq : IterB bad P gf lb encs C n₀ xs St)
    (hst : ∀ Y, Below w.heap.size w Y → St Y) (hC : ∀ k, C k → k < w.heap.size) (hn : n₀ ≤ w.heap.size) (hps : ∀ x, (encs x).size = ps.size)
    (I : List α → World → Prop) (Ix : Code → List α → World → Prop) (hI : ∀ s X Y, I s X → Turn C w.heap.size X Y → I s Y) (hIx : ∀ c s X Y, Ix c s X → Turn C w.heap.size X Y → Ix c s Y) (hbad : ∀ s X, bad s → ¬ I s X) (h0 : I [] w)
    (hround : ∀ (l : Nat) (pre : List α) (x : α) (W : World), w.heap.size ≤ l → I pre W → pre ++ [x] <+: xs →
      assign.wpIn (Fence.wide.inRound l) 0 P (Exit.then (fun a' W' => Keeps noCells C n₀ W W' ∧ ∀ Wb, Turn C w.heap.size W' Wb → (∃ r, Wb.heap[l]? = some (.loop r)) → body.wpIn (Fence.wide.inRound l) 0 P (leftBy C n₀ I Ix (pre ++ [x]) Wb) a' Wb) (fun _ _ _ => False))
        { tmps := (ps.zip (encs x)).foldl (fun t (p, v) => t.setIfInBounds p v) a.tmps, defers := [] } W)
    (hdone : ∀ (D : Nat) (W : World), w.heap.size ≤ D → I xs W → W.heap[D]? = some (.deferred (some [])) → Q .normal { a with defers := { target := .collected D, args := #[] } :: a.defers } W)
    (hstop : ∀ (D : Nat) (c : Code) (pre : List α) (W : World), w.heap.size ≤ D → pre <+: xs → Ix c pre W → W.heap[D]? = some (.deferred (some [])) → c.wpIn Fence.wide 0 P Q { a with defers := { target := .collected D, args := #[] } :: a.defers } W) :
    (Code.rangeFunc g ps assign body).wpIn Fence.wide 0 P Q a w := by
  refine wpIn_rangeFunc (fun fn hfn => ?_)
  obtain ⟨rec, hrec⟩ : ∃ rec : LoopState → Option Code → Loop, rec = fun st pe => { state := st, pending := pe, fn, tmps := a.tmps, params := ps, assign, body, defers := w.heap.size } := ⟨_, rfl⟩
  obtain ⟨W1, hW1⟩ : ∃ W1, (w.alloc (.deferred (some []))).alloc (.loop (rec .ready none)) = W1 := ⟨_, rfl⟩
  have hz1 : W1.heap.size = w.heap.size + 1 + 1 := by rw [← hW1]; simp
  have hL1 : W1.heap[w.heap.size + 1]? = some (.loop (rec .ready none)) := by
    rw [← hW1]; have := World.alloc_heap_new (w.alloc (.deferred (some []))) (.loop (rec .ready none)); rwa [World.size_alloc] at this
  have hD1 : W1.heap[w.heap.size]? = some (.deferred (some [])) := by
    rw [← hW1]; exact (Below.heap_alloc _ _ _ (by simp)).trans (World.alloc_heap_new w _)
  have hB1 : Below w.heap.size w W1 := by
    rw [← hW1]; exact ((Below.refl _ w).alloc (Nat.le_refl _) _).alloc (by simp) _
  have hI1 : I [] W1 := by rw [← hW1]; exact hI _ _ _ (hI _ _ _ h0 (Turn.alloc _ _)) (Turn.alloc _ _)
  have hCl : ¬ C (w.heap.size + 1) := fun h => by have := hC _ h; omega
  have hCD : ¬ C w.heap.size := fun h => by have := hC _ h; omega
  refine ⟨w.heap.size + 1, [{ target := .collected w.heap.size, args := #[] }], W1, { target := .fn (.func gf) lb, args := #[.func (.yield (w.heap.size + 1)) #[] #[]] }, W1, gf,
    #[.func (.yield (w.heap.size + 1)) #[] #[]] ++ lb, W1, ?_, ?_, ?_, ?_, fun h => by simp [Fence.wide] at h, ?_⟩
  · rw [← hW1, hrec]; exact run_enterLoop_outer _ _ _ _ _
  · simp only [resolve, hg]
    simp [go_sem]
  · intro f' _; trivial
  · simp [invoke, go_sem, eg]
  refine (hseq (w.heap.size + 1)
    (fun pre W => I pre W ∧ W.heap[w.heap.size + 1]? = some (.loop (rec .ready none)) ∧ W.heap[w.heap.size]? = some (.deferred (some [])))
    (fun pre W => ∃ c, Ix c pre W ∧ W.heap[w.heap.size + 1]? = some (.loop (rec .done (some c))) ∧ W.heap[w.heap.size]? = some (.deferred (some [])))
    W1 (hst _ hB1)
    (fun s X Y hs ht => ⟨hI _ _ _ hs.1 (ht.mono (by omega)), ht.old hs.2.1 hCl (by omega), ht.old hs.2.2 hCD (by omega)⟩)
    (fun s X Y hs ht => by
      obtain ⟨c, hc, hl, hk⟩ := hs
      exact ⟨c, hIx _ _ _ _ hc (ht.mono (by omega)), ht.old hl hCl (by omega), ht.old hk hCD (by omega)⟩)
    (fun s X hb hj => hbad s X hb hj.1) ?_ ⟨hI1, hL1, hD1⟩).mono ?_
  · rintro pre x W ⟨hi, hl, hk⟩ hpre
    have hy := run_yield (P := P) (args := encs x) hl (by rw [hrec]; exact hps x)
    rw [hrec] at hy
    refine ⟨fn, _, assign, body, hy, roundIn_of_wpIn hfn (wpIn_mono (hround _ pre x W (by omega) hi hpre) ?_)⟩
    clear hy
    intro e0 a' Wa he0
    cases e0 with
    | normal => ?_
    | _ => exact he0.elim
    obtain ⟨hka, hbd⟩ := he0
    have hla : Wa.heap[w.heap.size + 1]? = some (.loop (rec .ready none)) := hka.heap hl (.inr (.inr rfl))
    have hDa : Wa.heap[w.heap.size]? = some (.deferred (some [])) := hka.heap hk (.inr (.inr rfl))
    have hlt : w.heap.size + 1 < Wa.heap.size := (Array.getElem?_eq_some_iff.1 hla).1
    refine ⟨_, run_beginRound hla (by rw [hrec]), ?_⟩
    obtain ⟨Wb, hWb⟩ : ∃ Wb, Wa.putObj (w.heap.size + 1) (.loop { rec .ready none with state := .busy }) = Wb := ⟨_, rfl⟩
    have hl2 : Wb.heap[w.heap.size + 1]? = some (.loop { rec .ready none with state := .busy }) := by rw [← hWb]; exact World.putObj_heap_same hlt
    have hD2 : Wb.heap[w.heap.size]? = some (.deferred (some [])) := by rw [← hWb]; exact (World.putObj_heap_other (by omega)).trans hDa
    have hk2 : Keeps Obj.isWalk C n₀ Wa Wb := by rw [← hWb]; exact Keeps.putObj _ hla (by omega) hCl rfl
    have hta : Turn C w.heap.size Wa Wb := by rw [← hWb]; exact Turn.putObj _ hla (by omega) rfl
    rw [hWb]
    refine wpIn_mono (hbd Wb hta ⟨_, hl2⟩) ?_
    have fin : ∀ (jump : Option Code) (W3 : World), Keeps noCells C n₀ Wb W3 →
        (Instr.endRound (w.heap.size + 1) jump).run P W3 = .ok (.bool jump.isNone) (W3.putObj (w.heap.size + 1) (.loop (rec (if jump.isNone then .ready else .done) jump))) ∧
        (W3.putObj (w.heap.size + 1) (.loop (rec (if jump.isNone then .ready else .done) jump))).heap[w.heap.size + 1]? = some (.loop (rec (if jump.isNone then .ready else .done) jump)) ∧
        (W3.putObj (w.heap.size + 1) (.loop (rec (if jump.isNone then .ready else .done) jump))).heap[w.heap.size]? = some (.deferred (some [])) ∧
        Turn C w.heap.size W3 (W3.putObj (w.heap.size + 1) (.loop (rec (if jump.isNone then .ready else .done) jump))) ∧
        Keeps Obj.isWalk C n₀ W3 (W3.putObj (w.heap.size + 1) (.loop (rec (if jump.isNone then .ready else .done) jump))) := fun jump W3 hk3 => by
      have hl3 : W3.heap[w.heap.size + 1]? = some (.loop { rec .ready none with state := .busy }) := hk3.heap hl2 (.inr (.inr rfl))
      have hD3 : W3.heap[w.heap.size]? = some (.deferred (some [])) := hk3.heap hD2 (.inr (.inr rfl))
      have hr := run_endRound (P := P) jump hl3
      rw [hrec] at hr ⊢
      exact ⟨hr, World.putObj_heap_same (Array.getElem?_eq_some_iff.1 hl3).1, (World.putObj_heap_other (by omega)).trans hD3, Turn.putObj _ hl3 (by omega) rfl, Keeps.putObj _ hl3 (by omega) hCl rfl⟩
    rintro e a3 W3 hp
    cases e with
    | normal =>
      obtain ⟨hr, hl4, hD4, ht4, hk4⟩ := fin none W3 hp.1
      exact ⟨_, _, hr, .inl ⟨rfl, ⟨hI _ _ _ hp.2 ht4, hl4, hD4⟩, ((hka.walks.trans hk2).trans hp.1.walks).trans hk4⟩⟩
    | ret =>
      obtain ⟨hr, hl4, hD4, ht4, hk4⟩ := fin (some .ret) W3 hp.1
      exact ⟨_, _, hr, .inr ⟨rfl, ⟨.ret, hIx _ _ _ _ hp.2 ht4, hl4, hD4⟩, ((hka.walks.trans hk2).trans hp.1.walks).trans hk4⟩⟩
    | exit id =>
      obtain ⟨hr, hl4, hD4, ht4, hk4⟩ := fin (some (.exit id)) W3 hp.1
      exact ⟨_, _, hr, .inr ⟨rfl, ⟨.exit id, hIx _ _ _ _ hp.2 ht4, hl4, hD4⟩, ((hka.walks.trans hk2).trans hp.1.walks).trans hk4⟩⟩
    | goto t =>
      obtain ⟨hr, hl4, hD4, ht4, hk4⟩ := fin (some (.goto t)) W3 hp.1
      exact ⟨_, _, hr, .inr ⟨rfl, ⟨.goto t, hIx _ _ _ _ hp.2 ht4, hl4, hD4⟩, ((hka.walks.trans hk2).trans hp.1.walks).trans hk4⟩⟩
    | panic ch => exact hp.elim
    | outgrown => exact hp.elim
  · rintro e W2 ⟨⟨v, rfl⟩, (⟨hi, hl, hk⟩ | ⟨pre, hpre, c, hi, hl, hk⟩)⟩
    · refine ⟨none, _, by have := run_endLoop (P := P) hl (by rw [hrec]; simp); rw [hrec] at this; exact this, hdone _ _ (Nat.le_refl _) (hI _ _ _ hi (Turn.putObj _ hl (by omega) rfl)) ((World.putObj_heap_other (by omega)).trans hk)⟩
    · refine ⟨some c, _, by have := run_endLoop (P := P) hl (by rw [hrec]; simp); rw [hrec] at this; exact this, hstop _ c pre _ (Nat.le_refl _) hpre (hIx _ _ _ _ hi (Turn.putObj _ hl (by omega) rfl)) ((World.putObj_heap_other (by omega)).trans hk)⟩

end Go.Proofs.YtiinnnbpbnojgaaGreatDoor
